/- The program logic, a part of it. -/
import Derived.Test.YtdafahjmopdleaaGreatDoorAl1
import Derived.Below
import Derived.Laws.BytesString
import Derived.Laws.RangeString
import Derived.Lib.Bytealg
import Derived.Lib.LaidU8
import Derived.MapKept
import Derived.Maps.RangeRun
import Derived.OrdersIn
import Derived.Shelf.Unicode.ValidAny
namespace Go.Proofs.YtdafahjmopdleaaGreatDoor.Al
section
variable{P:Program}{ops:Array Oper}
def U0(ops:Array Oper)(n:Nat):Bool:=(List.range n).all λi=>match ops[i]? with | some o=>o.after.all λe=>!Region.binds .any e||(e.on<i) | none=>false
def LB(P:Program)(ops:Array Oper)(s:St)(j:List PO):Nat→List PO→List Oper→Prop
 | _,[],_=>True
 | _,_::_,[]=>False
 | i,p::L,o::l=>Ob P ops s j i p o∧LB P ops s j (i+1) L l
theorem LB.at{s}{A} : ∀ {L:List PO} {l:List Oper} {q:Nat},LB P ops s A q L l→∀ {j:Nat} {p:PO} {o:Oper},L[j]?=some p→l[j]?=some o→Ob P ops s A (q+j) p o
 | _::_,_::_,q,h,0,_,_,u,w=>by cases u;cases w;exact h.1
 | _::L,_::l,q,h,j+1,p,o,u,w=>by
  have:=LB.at (j:=j) h.2 (p:=p) (o:=o) (by simpa using u) (by simpa using w)
  rwa [show q+(j+1)=q+1+j by omega]
 | _::_,[],_,h,_,_,_,_,_=>h.elim
 | [],_,_,_,_,_,_,u,_=>by simp at u
def Dw(listed:Array Bool):Nat→Nat
 | 0=>0
 | n+1=>Dw listed n+(if listed.getD n false then 0 else 1)
theorem XM{listed:Array Bool}{i}(q:i<listed.size)(j:listed.getD i false=false):∀n,Dw (listed.setIfInBounds i true) n+(if i<n then 1 else 0)=Dw listed n
 | 0=>by simp[Dw]
 | n+1=>by
  have u:=XM q j n
  unfold Dw
  by_cases l:i=n
  ·subst l
   rw[j]
   have:(listed.setIfInBounds i true).getD i false=true:=by simp[q]
   rw[this]
   simp at u ⊢
   exact u
  ·rw[getD_set_ne false l]
   have:(i<n+1)↔(i<n):=by omega
   simp only[this]
   omega
theorem WE{listed:Array Bool} : ∀ {n:Nat}, 0<Dw listed n→∃i, i<n∧listed.getD i false=false∧∀j, j<i→listed.getD j false=true
  | 0, h => by simp[Dw] at h
  | n+1, h => by
    by_cases w:0<Dw listed n
    · obtain⟨i, E, A, B⟩ := WE w
      exact⟨i, by omega, A, B⟩
    · have l:∀m, m≤n→Dw listed m=0 := by
        intro m F
        have:Dw listed m≤Dw listed n := by
          clear h w
          induction n with
          | zero => have:m=0 := by omega
                    subst this;exact wn _
          | succ n C =>
            by_cases q:m=n+1
            · subst q;exact wn _
            · exact xw (C (by omega)) (Nat.le_add_right ..)
        omega
      unfold Dw at h
      refine⟨n, by omega, ?_, λj I => ?_⟩
      · cases u:listed.getD n false with
        | false => rfl
        | true => rw[u] at h;simp at h;omega
      · have := l (j+1) (by omega)
        unfold Dw at this
        cases u:listed.getD j false with
        | true => rfl
        | false => rw[u] at this;simp at this
theorem WM{listed:Array Bool} : ∀ {n:Nat},Dw listed n=0→∀j,j<n→listed.getD j false=true
 | 0,_,j,q=>by omega
 | n+1,h,j,q=>by
  unfold Dw at h
  by_cases l:j=n
  ·subst l
   cases u:listed.getD j false with
   | true=>rfl
   | false=>rw[u] at h;simp at h
  ·exact WM (n:=n) (by omega) j (by omega)
theorem WO{listed:Array Bool}(h:∀j,listed.getD j false=false):∀n,Dw listed n=n
 | 0=>rfl
 | n+1=>by unfold Dw;rw[WO h n,h n];simp
theorem uI{c0}{s}{L:List PO}{n g}{l:List Oper}{Q}(hl:l.toArray=ops)(T:n=ops.size∨(n<ops.size∧Region.sinkB .any ops n=true∧Region.chainB .any ops n=true))(ag:L.length=n)(J:U0 ops n=true)
 (hD:PG ops L=true) (hE:Gj L=true) (hH:O4 ops L=true) (U:Il L) (a7:LB P ops s L 0 L l)
 (V:∀listed a w, HeadInv .any ops n listed→(∀j, j<n→listed.getD j false=true)→Gq c0 s L listed a w→wpAny P .any ops Q g listed a w) :
    ∀(f:Nat) (listed:Array Bool) (a:Act) (w:World), Dw listed n=f→HeadInv .any ops n listed→Gq c0 s L listed a w→wpAny P .any ops Q (f+g) listed a w := by
  have hn:n≤ops.size := by rcases T with h | h<;>omega
  intro f
  induction f with
  | zero =>
    intro listed a w C u A
    rw[xE]
    exact V listed a w u (WM C) A
  | succ f ih =>
    intro listed a w C u A
    rw[show f+1+g=(f+g)+1 by omega]
    obtain⟨M, X, E, B⟩ := WE (listed := listed) (n := n) (by omega)
    have Y:M<listed.size := by rw[u.size];omega
    have q:M ∈ Region.ready .any ops listed := by
      refine mem_ready.2 ⟨getD_in Y E, ?_⟩
      have a8:∃o, ops[M]?=some o := ⟨ops[M]'(by omega), by simp[xW (show M<ops.size by omega)]⟩
      obtain⟨o, F⟩ := a8
      refine⟨o, F, λe Z hb => ?_⟩
      have h1 := wx.1 J M (xP.2 X)
      simp only[F] at h1
      have h2 := (zk.1 h1) e Z
      simp only[hb, zg, yL, wV] at h2
      exact B _ h2
    refine⟨λh => (by rw[h] at q;cases q), λi hi => ?_⟩
    have a0:i<n := by
      rcases yw i n with h | h
      · exact h
      · rcases T with e | ⟨aa, hs, hc⟩
        · obtain⟨_, o, F, _⟩ := mem_ready.1 hi
          have := (xi.1 F).1
          omega
        · exact absurd hi (tail_waits hs hc aa u _ M rfl X (getD_in Y E) i h)
    obtain⟨ab, o, F, a1⟩ := mem_ready.1 hi
    have I := getD_both ab
    have a2:i<listed.size := by rw[u.size];omega
    obtain⟨p, hp⟩:∃p, L[i]?=some p := ⟨L[i]'(by omega), by simp[wd (show i<L.length by omega)]⟩
    have ac:l[i]?=some o := by rw[← F, ← hl];simp
    have a6 := a7.at hp ac
    rw[xE] at a6
    have ad:BS ops (λk => listed.getD k false) i := by
      refine⟨λj k hj hk => ?_, λk hk => ?_, I⟩
      · obtain⟨oj, ae, e, Z, hb, O⟩ := Region.waitsFor_spec hk
        rw[← O];exact u.closed j oj ae hj e Z hb
      · obtain⟨oi, af, e, Z, hb, O⟩ := Region.waitsFor_spec hk
        have:oi=o := xc (af.symm.trans F)
        subst this
        rw[← O];exact a1 e Z hb
    have step := Gq.step (Q := Q) hp F a6 hE hH hD U a2 ad A
    refine wpOp_mono (λa' w' h' => ih _ a' w' ?_ (u.set hi a0) h') step
    have := XM a2 I n
    rw[wU a0] at this
    omega
def XJ(ops:Array Oper)(n:Nat)(L:List PO):Bool:=
 (Nat.beq n ops.size||((n<ops.size)&&Region.sinkB .any ops n&&Region.chainB .any ops n))&&(L.length=n)&&U0 ops n&&PG ops L&&Gj L&&O4 ops L
  && Region.seqB .any ops (ops.size-n) n (Dp (Array.replicate ops.size false) (List.range n))
theorem i0:∀(u:List Nat) (l:Array Bool) (j:Nat),(∀i∈u,i<l.size)→(Dp l u).getD j false=(l.getD j false||u.contains j)
 | [],l,j,_=>by simp[Dp]
 | i::u,l,j,h=>by
  show(Dp (l.setIfInBounds i true) u).getD j false=_
  rw[i0 u _ j (λk w=>by simp;exact h k (we _ w))]
  by_cases q:i=j
  ·subst q
   have:=h i (wZ ..)
   simp[this]
  ·rw[getD_set_ne false q]
   simp[Ne.symm q]
theorem Tf{α:Type}{wr}{D D'}{G} : ∀(L:List PO) (e:List (Nat × α)) (k:Nat),(∀j,k≤j→j<k+L.length→D j=D' j)→D8 wr D G e L k=D8 wr D' G e L k
 | [],_,_,_=>rfl
 | p::L,e,k,h=>by
  have l:=h k (wn _) (by simp)
  have q:=λe=>Tf (wr:=wr) (G:=G) L e (k+1) (λj u w=>h j (by omega) (by simp;omega))
  unfold D8
  rw[l]
  simp only[q]
theorem Ip{id}{l:List Oper}{s:St}{Q}(n:Nat)(L:List PO){lt}(hm:P.follows .mixedOrders=true)(hB:XJ l.toArray n L=true)(E:Il L)(e4:l.drop n=lt)
 (U:LB P l.toArray s L 0 L l)
 (h:∀(G:Nat→Nat) (n':Nat), AL P l.toArray lt ⟨CF (λ_ => true) G s.e L, DP (λ_ => true) G s.h L, n', s.N⟩ (Q .normal)):AW P (.region id l.toArray true) Q s := by
  intro z0 V c0 a w ⟨_, F, hsz, y, X, Y, Z, hH, hn, he⟩
  subst X
  obtain⟨r1, r2⟩ := RR Z
  simp only[XJ, wY, wV] at hB
  obtain⟨⟨⟨⟨⟨⟨b0, b2⟩, b3⟩, b6⟩, b7⟩, b8⟩, b9⟩ := hB
  have b1:n=l.toArray.size∨(n<l.toArray.size∧Region.sinkB .any l.toArray n=true∧Region.chainB .any l.toArray n=true) := by
    rw[wh] at b0
    rcases b0 with h | h
    · exact .inl (wj h)
    · simp only[wY, wV] at h
      exact .inr ⟨h.1.1, h.1.2, h.2⟩
  have a7:n≤l.toArray.size := by rcases b1 with h | h<;>omega
  refine Q0 Jt hm V ?_
  generalize hz:({ y with w := { y.w with drawn := y.w.drawn+1 } } : Cx)=z at r1 r2
  have a0:z.w = { y.w with drawn := y.w.drawn+1 } := by rw[← hz]
  have a1:z.H=hget s.h := by rw[← hz];exact hH
  rw[← a0]
  have q:∀j, (Array.replicate l.toArray.size false).getD j false=false := getD_replicate_false _
  have key := uI (P := P) (c0 := c0) (s := s) (L := L) (n := n) (g := l.toArray.size - n) (l := l) (Q := Dr c0 Q) rfl b1 b2 b3 b6 b7 b8 E U
    (λlisted a' w' C B I => by
      have u:listed=Dp (Array.replicate l.toArray.size false) (List.range n) := by
        have J:listed.size=(Dp (Array.replicate l.toArray.size false) (List.range n)).size := by rw[C.size, io];simp
        refine Array.ext J λj A h2 => ?_
        have h3 := i0 (List.range n) (Array.replicate l.toArray.size false) j (λi hi => by have := xP.1 hi;rw[Array.size_replicate];omega)
        rw[q] at h3
        have e1:listed[j]=listed.getD j false := by unfold Array.getD;rw[dif_pos A];rfl
        have e2:(Dp (Array.replicate l.toArray.size false) (List.range n))[j]=(Dp (Array.replicate l.toArray.size false) (List.range n)).getD j false := by unfold Array.getD;rw[dif_pos h2];rfl
        rw[e1, e2, h3]
        by_cases T:j<n
        · rw[B j T];simp[T]
        · have a2:j<l.toArray.size := by rw[C.size] at A;exact A
          rw[getD_both (C.tail j (by omega) a2)];simp[T]
      obtain⟨_, i1, i2, M, G, i3, i4, i5, i6, i7⟩ := I
      subst i3
      have O:(l.drop n).length=l.toArray.size - n := by simp
      have hD:∀j, 0≤j→j<0+L.length→(λ_ => true) j=(λk => listed.getD k false) j := λj _ T => (B j (by omega)).symm
      have := wpAny_of_seq (P := P) (md := .any) (ops := l.toArray) (Q' := Dr c0 Q) (l.drop n) n listed a' M.w (λj => by simp[yA]) (by rw[O, u];exact b9) ?_
      · rwa [O] at this
      · rw[e4]
        refine h G M.n c0 a' M.w ⟨_, i1, i2, M, rfl, i4, i5, funext λid => ?_, rfl, λt => ?_⟩ _ λa6 a8 aa j1 j2 => ⟨by simp, a6, j1, j2⟩
        · rw[i6];show _=hget (D8 _ _ _ _ _ _) _;rw[Tf L _ 0 hD]
        · show AS M (get (D8 _ _ _ _ _ _) t) _
          rw[Tf L _ 0 hD];exact i7 t)
    n (Array.replicate l.toArray.size false) a z.w (WO q n)
    ⟨by simp, λj oj _ hl => (by rw[q] at hl;cases hl), λt _ ht => getD_in (by simpa using ht) (q _)⟩
    ⟨_, F, hsz, z, λ_ => 0, rfl, Y.trans r1, r2, λid => by rw[a1];exact(GV Cf L _ 0 λj p _ _ A => by rw[q] at A;cases A).symm, λt => by
      have e1:get (CF (λk => (Array.replicate l.toArray.size false).getD k false) (λ_ => 0) s.e L) t=get s.e t := GV Dh L _ 0 λj p _ _ A => by rw[q] at A;cases A
      rw[e1]
      exact(he t).mono r1⟩
  have e:n+(l.toArray.size - n)=l.toArray.size := by omega
  rw[e] at key
  exact key
end
section
variable{P:Program}{c:Bool}{o:Oper}{R:AY}{h:AR}
theorem cJ{f g}(l:∀i p,f i=some p→g i=some p):∀(q:List (Nat × Value)) (us j:Array Value),Instr.fill f us q=some j→Instr.fill g us q=some j
 | [],_,_,h=>h
 | (i,v)::q,us,j,h=>by
  unfold Instr.fill at h ⊢
  cases u:f i with
  | none=>rw[u] at h;cases h
  | some p=>
   obtain⟨off,sz⟩:=p
   rw[u] at h
   rw[l i _ u]
   simp only at h ⊢
   split at h
   ·cases h
   ·rename_i w
    rw[ne w]
    exact cJ l q _ _ h
def RQ(P:Program)(t:TypeId)(j:List (Nat × Nat))(z:List Value):Prop:=
 ∃n e sz,P.underlying t=some (.array n e)∧(∃i,P.info? e=some i∧i.size=sz)∧(∀i p,j[i]?=some p→p=(i * sz,sz))∧∃i,P.info? t=some i∧i.zero=some (.agg z.toArray)
theorem mx{t}{parts:Array (Nat × Operand)}{l}{z:List Value}{q}{cs}(I:o.op=.build t parts)(J:RQ P t l z)
 (hp:OP c R l z.length parts.toList q) (A:Mb (z.map IQ) q=cs):AP P c o R h (.agg cs) := by
  intro M y a _ _ O
  subst A
  obtain⟨n, e, sz, T, ⟨ie, U, V⟩, X, i, Y, Z⟩ := J
  obtain⟨B, f1, f2, f3⟩ := Xy M O parts.toList q z.toArray (z.map IQ) (by simp) (λj b u w C => by
    have E:z[j]?=some u := by simpa using C
    rw[xJ, E] at w
    simp only[yK, wu] at w
    subst w;exact OZ y u) (by rw[wq];exact hp)
  refine⟨.agg B, λw2 _ => ?_, .agg f2.symm λj b u w C => f3 j b u w C⟩
  have F := cJ (g := λi => some (i * sz, sz)) (λi p hp => by rw[X i p hp]) _ _ _ f1
  unfold execOp
  rw[I]
  simp only[Instr.build, zeroValue, typeInfo, Sem.run_bind, run_program, Result.andThen_ok, Y, Sem.run_pure, Z, run_underlying T, EM U, V, Value.cells, zi]
  rw[F]
  rfl
theorem RQ.of{t}{n}{e}{sz b q}{A}{B}{j}{w:List Value}(C:P.underlying t=some (.array n e))
 (E:(P.info? e).map (λi => (i.zero, i.size, i.bytes))=some (some A, sz, B)) (F:∀i p, j[i]?=some p→p=(i * sz, sz)) (l:(P.info? t).map (λi => (i.zero, i.size, i.bytes))=some (some (.agg w.toArray), q, b)):RQ P t j w := by
  cases u:P.info? t with
  | none => rw[u] at l;cases l
  | some i =>
    rw[u] at l
    simp only[yK, wu, wz] at l
    exact⟨n, e, sz, C, Cr E, F, i, u, l.1⟩
theorem rK{j:List (Nat × Nat)}{sz}(h:(List.range j.length).all (λi=>match j[i]? with | some p=>p.1==i * sz&&p.2==sz | none=>false)=true):∀i p,j[i]?=some p→p=(i * sz,sz):=by
 intro i p hp
 have:=wx.1 h i (xP.2 (wc.1 hp).1)
 simp only[hp,wY,WAH] at this
 obtain⟨l,q⟩:=p
 simp only at this
 rw[this.1,this.2]
end
section
variable{P:Program}{c:Bool}{o:Oper}{R:AY}{h:AR}{n:Nat}
def Ku(cs:List RV)(k:Nat)(vs:List RV):List RV:=cs.take k++vs++cs.drop (k+vs.length)
theorem iD{t}{x y}{id g i k m:Nat}{e}{sz}{xs:List (List RV)}{row ds:List RV}{a}(ho:o.op=.store t x y)(ht:∃i, P.info? t=some i∧i.size=m)
 (hx:Ev c R x (.ptr id g i k)) (hh:hget h id=some (.arr g e sz xs)) (M:xs[i]?=some row) (hy:Ev c R y a) (hd:HQ a=some ds) (hm:ds.length=m) (hk:k+ds.length≤row.length) :
    BH P c o R h n .any ((id, some (.arr g e sz (xs.set i (Ku row k ds))))::h) n := by
  intro hc z w O hH hn he K Q hK
  obtain⟨ii, hi, ag⟩ := ht
  have A:z.H id=some (.arr g e sz xs) := by rw[hH];exact hh
  have aa:i<xs.length := (wc.1 M).1
  obtain⟨b, cap, us, hβ, ay, ah, E, Y⟩ := Se O A aa (hx.rep he hc)
  have az := (O.obj _ _ A).1
  obtain⟨bb, ab⟩ := ah
  rcases ab with ⟨hv, _⟩ | ⟨Z, b8, F, hv, _, a0, ai, b0, aj, ac⟩
  · cases hv
  simp only[Value.slice.injEq, wu, Addr.mk.injEq, true_and, and_true] at hv
  obtain⟨rfl, rfl⟩ := hv
  have hsz:0<sz := (O.obj _ _ A).2.1
  have ak := E row (xT M)
  obtain⟨I, al⟩ := iQ hd
  have ad:∀b ∈ BX a, b.one=true := λb hb => by
    obtain⟨j, hj, rfl⟩ := xp.1 hb
    obtain⟨a', h1, h2⟩ := al j (ds[j]'(by omega)) (by simp[wd (show j<ds.length by omega)])
    rw[wd hj] at h1
    cases h1
    exact Wq h2
  have b1 := hy.rep he hc
  obtain⟨T, b2, b3⟩ := Oh b1 ad
  replace I:ds.length=(BX a).length := I
  have an:(w.eval y).cells.toList.length=ds.length := by rw[xr (xs := (w.eval y).cells), T, I]
  have b4:i * sz+sz≤xs.length * sz := by
    have:(i+1) * sz≤xs.length * sz := yH _ aa
    rwa [ym, zO] at this
  have b9:xs.length * sz≤F.size := by rw[aj];exact yH _ ai
  have a1 := XU (P := P) (k := i * sz+k) hi a0 (v := w.eval y) (by rw[T, ag, ← I, hm]) b3 (by rw[T, ← I];omega)
  rw[show(w.eval y).cells.size=ds.length by rw[T, I]] at a1
  have a2 := λj => NT F.toList (w.eval y).cells.toList (i * sz+k) j (by have := xr (xs := F);rw[an];omega)
  rw[an] at a2
  let l:Array Value := (F.toList.take (i * sz+k)++(w.eval y).cells.toList++F.toList.drop (i * sz+k+ds.length)).toArray
  have J:l.size=F.size := by
    have ao:(w.eval y).cells.size=ds.length := by rw[T, I]
    simp[l, ao];omega
  have a6:(Ku row k ds).length=row.length := by simp[Ku];omega
  have a7:∀j, (Ku row k ds)[j]?=if k≤j∧j<k+ds.length then ds[j - k]? else row[j]? := λj => NT row ds k j hk
  have aq := Fw O id (.arr g e sz (xs.set i (Ku row k ds))) (z.w.setRow b l) (some (b, cap)) z.n (by simp[World.setRow]) rfl rfl rfl
    (λZ _ b5 => setRow_other _ _ _ _ (λe => b5 _ cap A (by rw[e];exact hβ))) (λZ k' hb => by
      cases hb
      exact⟨by simpa[World.setRow] using(O.own id _ b cap A hβ).1, .inr ⟨_, _, A, hβ⟩⟩) (wn _) az
    (λ_ => ⟨_, A, rfl, by simp[Az.shape], hβ.symm⟩)
    (λb6 => by
      have ar:∀Z, z.S Z→(z.w.setRow b l).heap[Z]?=z.w.heap[Z]? := λZ hb => b6.blk Z (.inl hb)
      refine⟨hsz, λr hr => ?_, .slice (some ⟨b, 0, none⟩) xs.length cap, l.toList.take (xs.length * sz), by simp[Dx], ⟨by simp[J];omega, .inr ⟨b, cap, l, by simp, yt _, setRow_heap _ _ _ _ _ _ a0, by simpa using ai, b0, by rw[J, aj], by simp⟩⟩, λB a8 C d' U k2 => ?_⟩
      · rcases yq hr with hr | rfl
        · exact E r hr
        · rw[a6];exact ak
      · have av:B<xs.length := by simpa using(wc.1 U).1
        have ba:C<sz := by
          have := (wc.1 k2).1
          rw[ye] at U
          split at U
          · cases U;rw[a6, ak] at this;exact this
          · rw[← E a8 (xT U)];exact this
        have aw:B * sz+C<xs.length * sz := by
          calc B * sz+C<B * sz+sz := by omega
            _=(B+1) * sz := by rw[ym, zO]
            _≤xs.length * sz := yH _ av
        have hget:(l.toList.take (xs.length * sz))[B * sz+C]?=if i * sz+k≤B * sz+C∧B * sz+C<i * sz+k+ds.length then(w.eval y).cells.toList[B * sz+C - (i * sz+k)]? else F.toList[B * sz+C]? := by
          rw[yJ, wU aw]
          simp only[l]
          exact a2 _
        have ae:i * sz+k≤B * sz+C→B * sz+C<i * sz+k+ds.length→i=B := by
          intro h1 h2
          have e2:(B * sz+C) / sz=B := by rw[yv, zX hsz, zT (by omega), xv]
          obtain⟨q, hq⟩:∃q, B * sz+C=i * sz+q := ⟨B * sz+C - i * sz, by omega⟩
          have b7:q<sz := by omega
          have e1:(i * sz+q) / sz=i := by rw[yv, zX hsz, zT b7, xv]
          rw[← e1, ← hq, e2]
        by_cases V:i * sz+k≤B * sz+C∧B * sz+C<i * sz+k+ds.length
        · have af := ae V.1 V.2
          subst af
          rw[ye, wU rfl, wU aa] at U
          cases U
          rw[a7, wU (by omega)] at k2
          obtain⟨a', h1, h2⟩ := al _ _ k2
          obtain⟨u, h3, _, h5⟩ := b2 _ _ h1
          refine⟨u, ?_, (Xi h2 h5).mono ar (λ_ h => h)⟩
          rw[hget, wU V, show i * sz+C - (i * sz+k)=C - k by omega, yU]
          exact h3
        · have ax:∃X, xs[B]?=some X∧X[C]?=some d' := by
            rw[ye] at U
            split at U
            · rename_i af;subst af
              cases U
              rw[a7] at k2
              split at k2
              · exact absurd (by omega) V
              · exact⟨row, M, k2⟩
            · exact⟨a8, U, k2⟩
          obtain⟨X, k3, k4⟩ := ax
          obtain⟨u, k5, k6⟩ := Y _ _ _ _ k3 k4
          refine⟨u, ?_, k6.mono ar (λ_ h => h)⟩
          rw[hget, ne V]
          rw[← k5, ← ac, yJ, wU aw])
  unfold Oper.wp execOp
  rw[ho]
  simp only[ay, Sem.run_bind, a1, Result.andThen_ok, Sem.run_pure]
  exact hK undef _ aq.1 aq.2 (by simp only[hH];exact E5 _ _ _) hn (.any _)
theorem WS{α:Type}{f}{t}{x y}{id g k m}{e}{sz}{l:List α}{z:Int}{a v}{b}{ds:List RV}(j:o.op=.store t x y)(q:∃i, P.info? t=some i∧i.size=m)
 (u:Ev true R x (.ptr id g z.toNat k)) (w:hget h id=some (.arr g e sz (l.map f))) (A:AJ l z=some a) (B:Ev true R y b) (hd:HQ b=some ds) (C:ds.length=m) (E:Nat.ble (k+ds.length) (f a).length=true) (F:Ku (f a) k ds=f v) :
    BH P true o R h n .any ((id, some (.arr g e sz ((l.set z.toNat v).map f)))::h) n := by
  have := iD (n := n) j q u w (row := f a) (by rw[xJ, (GN A).2.1];rfl) B hd C (xj E)
  rwa [F, ← List.map_set] at this
end
def TD(c:Bool):AY→AY→Prop
 | [],_=>True
 | (t,v)::r,e=>(get e t=v∨get e t=.whn c v∨(∃b v0,get e t=.whn (c&&b) v0∧v=.whn b v0)∨∃j l v0,get e t=.whn ((c&&j)&&l) v0∧v=.whn (j&&l) v0)∧TD c r e
theorem TD.get{c}{e' e}(h:TD c e' e)(t:Nat):Al.get e' t=.any∨Al.get e t=Al.get e' t∨Al.get e t=.whn c (Al.get e' t) ∨
  (∃b v0,Al.get e t=.whn (c&&b) v0∧Al.get e' t=.whn b v0)∨∃j l v0,Al.get e t=.whn ((c&&j)&&l) v0∧Al.get e' t=.whn (j&&l) v0:=by
 induction e' with
 | nil=>exact .inl rfl
 | cons p r q=>
  obtain⟨d,v⟩:=p
  rw[Dh]
  split
  ·rename_i hd;subst hd;exact .inr h.1
  ·exact q h.2
theorem RS{c}{e' e}{h}{n N}(hc:c=true)(I:TD c e' e):Ag ⟨e,h,n,N⟩ ⟨e',h,n,N⟩:=by
 intro U a w ⟨_,q,hsz,y,A,B,C,J,E,u⟩
 refine⟨_,q,hsz,y,A,B,C,J,E,λt=>?_⟩
 subst hc
 have j:=u t
 rcases I.get t with l | l | l | ⟨b,v0,l,F⟩ | ⟨M,O,v0,l,F⟩
 ·rw[l];exact .any _
 ·rwa [show Al.get (St.mk e h n N).e t=Al.get e' t from l] at j
 ·rw[show Al.get (St.mk e h n N).e t=.whn true (Al.get e' t) from l] at j
  cases j with
  | whn T _=>exact T rfl
 ·rw[show Al.get (St.mk e h n N).e t=.whn (true&&b) v0 from l] at j
  rw[xt] at j
  rw[F];exact j
 ·rw[show Al.get (St.mk e h n N).e t=.whn ((true&&M)&&O) v0 from l] at j
  rw[xt] at j
  rw[F];exact j
theorem Yp{a b}(h:a=false):(a&&b)=false:=by rw[h];rfl
section
variable{P:Program}{c:Bool}{o:Oper}{R:AY}{h:AR}{n:Nat}
variable{α:Type}{f:α→List RV}
end
section
variable{P:Program}{c:Bool}{o:Oper}{R:AY}{h:AR}{n:Nat}
theorem GU{t j}{x y}{k}{m n}(l:o.op=.binOp .and t x y j)(q:Ev c R x (.r (.int k m)))(u:Ev c R y (.r (.int k n))):AP P c o R h (.r (.int k (CL k m n))):=
 EX l q u (λw=>by simp[binOp,Op.intBits,CL]) (λ_ _=>.int _ _)
theorem JO{t j}{x y}{k}{m n}(l:o.op=.binOp .or t x y j)(q:Ev c R x (.r (.int k m)))(u:Ev c R y (.r (.int k n))):AP P c o R h (.r (.int k (D9 k m n))):=
 EX l q u (λw=>by simp[binOp,Op.intBits,D9]) (λ_ _=>.int _ _)
theorem mG{t j}{x y}{k}{m n}(l:o.op=.binOp .xor t x y j)(q:Ev c R x (.r (.int k m)))(u:Ev c R y (.r (.int k n))):AP P c o R h (.r (.int k (WN k m n))):=
 EX l q u (λw=>by simp[binOp,Op.intBits,WN]) (λ_ _=>.int _ _)
theorem ZS{t j}{x y}{k}{m n}(l:o.op=.binOp .andNot t x y j)(q:Ev c R x (.r (.int k m)))(u:Ev c R y (.r (.int k n))):AP P c o R h (.r (.int k (Ou k m n))):=
 EX l q u (λw=>by simp[binOp,Op.intBits,Ou]) (λ_ _=>.int _ _)
theorem JA{t q:TypeId}{x y:Operand}{k u:IntKind}{m:Int}{b:Nat}(w:o.op=.binOp .shl t x y q)(A:Ev c R x (.r (.int k m)))(B:Ev c R y (.r (.int u b))):AP P c o R h (.r (.int k (Dj k m b))):=by
 intro j z a _ _ l
 refine⟨.int k (Dj k m b),λE C=>?_,.r (.int _ _)⟩
 unfold execOp
 rw[w]
 simp[Cd (A.rep l j),Cd (B.rep l j),eqGuard,binOp,Op.shift,Dj]
 intro F;omega
theorem Ri{t q:TypeId}{x y:Operand}{k u:IntKind}{m:Int}{b:Nat}(w:o.op=.binOp .shr t x y q)(A:Ev c R x (.r (.int k m)))(B:Ev c R y (.r (.int u b))):AP P c o R h (.r (.int k (FB k m b))):=by
 intro j z a _ _ l
 refine⟨.int k (FB k m b),λE C=>?_,.r (.int _ _)⟩
 unfold execOp
 rw[w]
 simp[Cd (A.rep l j),Cd (B.rep l j),eqGuard,binOp,Op.shift,FB]
 intro F;omega
def PQ(P:Program)(t:TypeId)(n:Nat)(e:TypeId)(sz:Nat):Prop:=P.underlying t=some (.array n e)∧∃i,P.info? e=some i∧i.size=sz
theorem Rx{α:Type}{f}{sz}(q:∀a,(f a).length=sz):∀(l:List α) (i j:Nat) (a:α) (d:RV),l[i]?=some a→(f a)[j]?=some d→(l.flatMap f)[i * sz+j]?=some d
 | [],i,_,_,_,h,_=>by simp at h
 | x::l,0,j,a,d,h,hd=>by
  have u:x=a:=by simpa using h
  subst u
  have w:j<(f x).length:=(wc.1 hd).1
  rw[zb,WAI,xE,xR w]
  exact hd
 | x::l,i+1,j,a,d,h,hd=>by
  have A:=Rx q l i j a d (by simpa using h) hd
  rw[zb,xK (by rw[q,ym];omega),q]
  rw[show(i+1) * sz+j-sz=i * sz+j by rw[ym];omega]
  exact A
theorem ZT{α:Type}{f}{t e}{sz I g}{y}{l:List α}{k}{z:Int}{a}(ho:o.op=.indexAddr t (.global g) y)(ht:PQ P t I e sz)(hT:Hc g=some (l.flatMap f))(hn:l.length=I)
 (hy:Ev c R y (.r (.int k z))) (q:∀a, (f a).length=sz) (h0:0<sz) (hi:c=true→AJ l z=some a):AP P c o R h (.rop (f a) 0) := by
  intro hc x w J hH he
  obtain⟨M, ii, O, T⟩ := ht
  obtain⟨z0, U, V⟩ := GN (hi hc)
  have A := J.tabs.tab g _ hT
  generalize hv:(Value.pointer (some ⟨g, 0, none⟩))=v at A
  cases A with
  | @rop _ _ b off u hS B X =>
    simp only[Value.pointer.injEq, wu, Addr.mk.injEq, and_true, xv] at hv
    obtain⟨rfl, C⟩ := hv
    subst C
    have Y:(l.flatMap f)≠[] := by
      intro e0
      have E:0<(f a).length := by rw[q];exact h0
      have := Rx q l z.toNat 0 a _ U (wd E)
      rw[e0] at this;simp at this
    refine⟨.pointer (some ⟨g, z.toNat * sz+0, none⟩), λw2 a0 => ?_, .rop (λj => u (z.toNat * sz+j)) (λ_ => hS Y) (λj d E => ?_) (λj d E => ?_)⟩
    · unfold execOp
      rw[ho]
      have F:z<(I:Int) := by rw[← hn];exact V
      have hg:w.eval (.global g)=.pointer (some ⟨g, 0, none⟩) := rfl
      simp[hg, Cd (hy.rep he hc), Instr.indexAt, Instr.sureAddr, asIntOf, run_underlying M, z0, F, EM O, T, Addr.add_lit]
    · have Z := Rx q l z.toNat j a d U E
      have := B _ _ Z
      simpa using this
    · have Z := Rx q l z.toNat j a d U E
      exact X _ _ Z
end
section
variable{P:Program}{c:Bool}{o:Oper}{R:AY}{h:AR}{n:Nat}
theorem sP(s:List UInt8) l m:(⟨s.toArray⟩:ByteArray).extract l m=⟨((s.drop l).take (m-l)).toArray⟩:=by
 apply ByteArray.ext
 rw[ByteArray.data_extract]
 simp[List.extract_toArray]
theorem IY{t}{x}{A F:Option Operand}{s r:List UInt8}{l q:Int}(U:o.op=.slice t x A F none)(V:P.underlying t=some .string)(X:Ev c R x (.r (.str s)))
 (j:HK c R 0 A l) (u:HK c R s.length F q) (Y:c=true→B8 s l q=some r):AP P c o R h (.r (.str r)) := by
  intro B z w _ _ I
  obtain⟨T, h2, h3, rfl⟩ := bL (Y B)
  have hsz:(⟨s.toArray⟩:ByteArray).size=s.length := rfl
  refine⟨.string ⟨((s.drop l.toNat).take (q.toNat - l.toNat)).toArray⟩, λw2 Z => ?_, by have := BY.str (w := z.w) (S := z.S) ⟨((s.drop l.toNat).take (q.toNat - l.toNat)).toArray⟩;exact .r this⟩
  have C:∀W, (Instr.sliceBounds false s.length s.length (A.map w.eval) (F.map w.eval) none).run P W=.ok (l.toNat, q.toNat, s.length) W := by
    intro W
    cases F with
    | none =>
      simp only[HK] at u
      subst u
      cases A with
      | none => simp only[HK] at j;subst j;simp[Instr.sliceBounds]
      | some v =>
        obtain⟨k, J⟩ := j
        have M:∀W, (Instr.sliceBound (w.eval v) s.length .sliceB).run P W=.ok l.toNat W := λW => by rw[Cd (J.rep I B), Oz T (by omega)]
        simp[Instr.sliceBounds, M]
    | some v2 =>
      obtain⟨k2, O⟩ := u
      have E:∀W, (Instr.sliceBound (w.eval v2) s.length .sliceAlen).run P W=.ok q.toNat W := λW => by rw[Cd (O.rep I B), Oz (by omega) (by omega)]
      cases A with
      | none => simp only[HK] at j;subst j;simp[Instr.sliceBounds, E]
      | some v =>
        obtain⟨k, J⟩ := j
        have M:∀W, (Instr.sliceBound (w.eval v) q.toNat .sliceB).run P W=.ok l.toNat W := λW => by rw[Cd (J.rep I B), Oz T (by omega)]
        simp[Instr.sliceBounds, M, E]
  unfold execOp
  rw[U]
  simp[HM (X.rep I B), Instr.sliceAt, Instr.slice, run_underlying V, hsz, C, sP]
end
section
variable{P:Program}{c:Bool}{o:Oper}{R:AY}{h:AR}
theorem fQ{t}{x}{id g k}{e}{sz}{cs ds:List AV}(V:o.op=.load t x)(X:BW P t sz)(Y:Ev c R x (.ptr id g 0 k))(Z:c=true→hget h id=some (.box g e cs))
 (hd:(cs.drop k).take sz=ds) (O:ds.length=sz):AP P c o R h (.agg ds) := by
  intro T z w E hH he
  have q:z.H id=some (.box g e cs) := by rw[hH];exact Z T
  obtain⟨b, l, h1, h2, h3, h4, U⟩ := H8 E q (Y.rep he T)
  have C:∀j a, ds[j]?=some a→cs[k+j]?=some a := by
    intro j a A
    have F:j<sz := by rw[← O];exact(wc.1 A).1
    rw[← hd, yJ, wU F, yA] at A
    exact A
  have B:∀j, j<sz→z.w.cell? ⟨b, k+j, none⟩=some ((λj => l.getD (k+j) undef) j) := by
    intro j A
    obtain⟨u, I, _, _⟩ := U _ _ (C j _ (wd (by omega:j<ds.length)))
    have J:k+j<l.size := (xi.1 I).1
    rw[cell_of_row _ b (k+j) l e _ h3]
    simp[J]
  refine⟨.agg ((List.range sz).map λj => l.getD (k+j) undef).toArray, λw2 M => ?_, NQ O _ λj a A => ?_⟩
  · unfold execOp
    rw[V]
    simp[h2, Mg X _ (λj A => (M.cellO q h1).trans (B j A))]
  · obtain⟨u, I, _, h7⟩ := U _ _ (C j a A)
    simpa[I] using h7
theorem FR{t}{x}{id g k}{e}{sz}{cs ds:List AV}(j:o.op=.load t x)(l:BW P t sz)(q:Ev c R x (.ptr id g 0 k))(u:hget h id=some (.box g e cs))
 (hd:(cs.drop k).take sz=ds) (w:ds.length=sz):AP P c o R h (.agg ds) :=
  fQ j l q (λ_ => u) hd w
end
theorem Ag.ren{s:St} t i j{g}{e}{sz}{xs}(Y:(i==j)=false)(ht:get s.e t=.own i g)(hh:hget s.h i=some (.arr g e sz xs)) :
  Ag s ⟨(t,.own j s.n)::s.e,(j,some (.arr s.n e sz xs))::(i,none)::s.h,s.n+1,s.N⟩:=by
 have a2:i≠j:=by simpa using Y
 intro c0 a w ⟨_,U,hsz,y,Z,a0,A,hH,M,O⟩
 have E:y.H i=some (.arr g e sz xs):=by rw[hH];exact hh
 let z:Cx:={ y with H:=λd=>if j=d then some (.arr s.n e sz xs) else if i=d then none else y.H d,β:=λd=>if j=d then y.β i else y.β d,n:=y.n+1 }
 have F:y.le z:=by
  refine⟨wn _,rfl,rfl,rfl,λ_ _=>rfl,λ_ h=>h,rfl,Nat.le_succ _,λd o' l hg=>?_⟩
  dsimp only [z] at l ⊢
  split at l
  ·cases l
   exact absurd hg (by simp[Az.gen,M])
  ·rename_i T
   split at l
   ·cases l
   ·exact⟨o',l,rfl,rfl,by rw[ne T]⟩
 have V:z.ok:=by
  refine⟨A.S_lt,A.F_lt,A.SF,λd o q=>?_,λd o b k q C=>?_,λd d' o o' b k k' q l C B=>?_,A.tabs.le F⟩
  ·dsimp only [z] at q ⊢
   split at q
   ·rename_i T
    cases q
    rw[wU T]
    refine⟨by simp[Az.gen,M],?_⟩
    have J:=(A.obj i _ E).2
    exact(show Ed y (y.β i) (.arr s.n e sz xs) from J).mono F λb k _=>rfl
   ·rename_i T
    split at q
    ·cases q
    ·rw[ne T]
     obtain⟨I,J⟩:=A.obj d o q
     exact⟨Nat.lt_succ_of_lt I,J.mono F λb k _=>rfl⟩
  ·dsimp only [z] at q C ⊢
   split at C
   ·exact A.own i _ b k E C
   ·rename_i T
    rw[ne T] at q
    split at q
    ·cases q
    ·exact A.own d o b k q C
  ·dsimp only [z] at q l C B
   by_cases I:j=d<;>by_cases J:j=d'
   ·rw[← I,← J]
   ·rw[wU I] at C
    rw[ne J] at l B
    split at l
    ·cases l
    ·rename_i X
     exact absurd (A.inj i d' _ _ b k k' E l C B) X
   ·rw[ne I] at q C
    rw[wU J] at B
    split at q
    ·cases q
    ·rename_i X
     exact absurd (A.inj d i _ _ b k k' q E C B).symm X
   ·rw[ne I] at q C
    rw[ne J] at l B
    split at q
    ·cases q
    ·split at l
     ·cases l
     ·exact A.inj d d' _ _ b k k' q l C B
 refine⟨_,U,hsz,z,Z,a0.trans F,V,?_,by simp[z,M],λt'=>?_⟩
 ·funext d
  show(if j=d then _ else if i=d then _ else y.H d)=_
  rw[Cf,Cf,hH]
 ·rw[Dh]
  split
  ·rename_i a1
   have I:=O t
   rw[ht,a1] at I
   generalize a.tmps.getD t' undef=u at I ⊢
   cases I with
   | own I J X=>
    refine .own (by simp[z,M]) J λo q _=>?_
    dsimp only [z] at q ⊢
    rw[wU rfl] at q ⊢
    cases q
    have h5:=X _ E rfl
    exact h5
  ·exact(O t').mono F
section
variable{P:Program}{c:Bool}{o:Oper}{R:AY}{h:AR}{n:Nat}
theorem nO{x:Cx}(l:x.ok) id(s:List UInt8) :
  ∃y:Cx,x.le y∧y.ok∧y.w=x.w.alloc (.stringIter ⟨s.toArray⟩ 0)∧y.H=(λi=>if id=i then some (.it x.n s 0) else x.H i)∧y.n=x.n+1 ∧
   AS y (.ptr id x.n 0 0) (.pointer (some ⟨x.w.heap.size,0,none⟩)):=by
 have:=Fw l id (.it x.n s 0) (x.w.alloc (.stringIter ⟨s.toArray⟩ 0)) (some (x.w.heap.size,1)) (x.n+1) (by simp) rfl rfl rfl
  (λb q _=>heap_alloc_old _ _ q) (λb k q=>by cases q;simp) (by omega) (by simp[Az.gen]) (λhg=>absurd hg (by simp[Az.gen]))
  (λu=>⟨x.w.heap.size,rfl,heap_alloc_new _ _⟩)
 refine⟨_,this.1,this.2,rfl,rfl,rfl,.ptr (by simp) rfl λw j _=>?_⟩
 simp only[wU] at j
 cases j
 exact⟨x.w.heap.size,1,by simp,by simp⟩
theorem pm{t}{x}{s} id(u:o.op=.range t x)(A:P.underlying t=some .string)(B:Ev c R x (.r (.str s))) :
  BH P c o R h n (.ptr id n 0 0) ((id,some (.it n s 0))::h) (n+1):=by
 intro C z w l E q F K Q I
 obtain⟨y,J,M,O,T,U,V⟩:=nO l id s
 have j:=B.rep F C
 generalize X:w.eval x=v at j
 cases j with
 | r j=>
  cases j with
  | str s=>
   unfold Oper.wp execOp
   rw[u]
   simp only[X,Sem.run_bind,run_range_string _ _ _ A,Result.andThen_ok,Sem.run_pure]
   have:=I (.pointer (some ⟨z.w.heap.size,0,none⟩)) y J M (by rw[T,E,q,E5]) (by rw[U,q]) (by rw[← q];exact V)
   rw[O] at this
   exact this
theorem fU{x:Cx}(j:x.ok){id g pos}{s:List UInt8}{v}(u:x.H id=some (.it g s pos))(l:AS x (.ptr id g 0 0) v) :
  ∃b,x.β id=some (b,1)∧v=.pointer (some ⟨b,0,none⟩)∧x.w.heap[b]?=some (.stringIter ⟨s.toArray⟩ pos):=by
 obtain⟨_,b,w,A⟩:=j.obj _ _ u
 cases l with
 | ptr _ _ l=>
  obtain⟨C,cap,q,B⟩:=l _ u rfl
  rw[w] at q
  simp only[wu,wz] at q
  obtain⟨rfl,rfl⟩:=q
  exact⟨b,w,by rw[B,WAI],A⟩
theorem tH{x}{id g pos}{s:List UInt8}(F:o.op=.next x true)(I:Ev c R x (.ptr id g 0 0))(J:hget h id=some (.it g s pos))(hp:c=true→decide (pos<s.length)=false) :
  BH P c o R h n (.tup [.r (.bool false)]) h n:=by
 intro B z w j C M O K Q T
 obtain⟨b,X,U,V⟩:=fU j (by rw[C];exact J) (I.rep O B)
 have q:¬ pos<(⟨s.toArray⟩:ByteArray).size:=by
  have:=of_decide_eq_false (hp B)
  simpa[ByteArray.size] using this
 unfold Oper.wp execOp
 rw[F]
 have l:(Instr.next (.pointer (some ⟨b,0,none⟩)) true o.type).run P z.w=.ok (.tuple #[.bool false]) z.w:=by
  simp[Instr.next,getObj,Sem.run,V,q]
 simp only[U,Sem.run_bind,l,Result.andThen_ok,Sem.run_pure]
 refine T (.tuple #[.bool false]) z (Cx.le.refl z) j C M (.tup rfl λi a u A E=>?_)
 rcases i with _ | i
 ·simp at A E;subst A;subst E;exact .r (.bool false)
 ·simp at A
theorem oI{x}{id g pos}{s:List UInt8}(X:o.op=.next x true)(Y:Ev c R x (.ptr id g 0 0))(Z:hget h id=some (.it g s pos))(hp:c=true→decide (pos<s.length)=true) :
  BH P c o R h n (.tup [.r (.bool true),.r (.int .i64 (pos:Int)),.r (.int .i32 ((GE s pos).1:Int))]) ((id,some (.it g s (pos+(GE s pos).2)))::h) n:=by
 intro M z w l O hn he K Q hK
 have j:z.H id=some (.it g s pos):=by rw[O];exact Z
 obtain⟨b,E,h2,T⟩:=fU l j (Y.rep he M)
 have F:pos<(⟨s.toArray⟩:ByteArray).size:=by
  have:=yT (hp M)
  simpa[ByteArray.size] using this
 have U:=(l.own id _ b 1 j E).1
 have B:=Fw l id (.it g s (pos+(GE s pos).2)) { z.w with heap:=z.w.heap.setIfInBounds b (.stringIter ⟨s.toArray⟩ (pos+(GE s pos).2)) } (some (b,1)) z.n (by simp) rfl rfl rfl
  (λV _ I=>by
   have:b≠V:=λe=>I _ 1 j (by rw[← e];exact E)
   simp[this])
  (λV k' J=>by cases J;exact⟨by simpa using U,.inr ⟨_,_,j,E⟩⟩) (wn _) (l.obj _ _ j).1 (λ_=>⟨_,j,rfl,rfl,E.symm⟩)
  (λa0=>⟨b,rfl,by simp[U]⟩)
 unfold Oper.wp execOp
 rw[X]
 have C:(Instr.next (.pointer (some ⟨b,0,none⟩)) true o.type).run P z.w=.ok (.tuple #[.bool true,.int .i64 (pos:Int),.int .i32 ((GE s pos).1:Int)]) { z.w with heap:=z.w.heap.setIfInBounds b (.stringIter ⟨s.toArray⟩ (pos+(GE s pos).2)) }:=by
  simp only[Instr.next,getObj,setObj,Sem.run_bind,Sem.run,T,Result.andThen,F,yN]
  simp[goInt,Sem.run,T,GE]
 simp only[h2,Sem.run_bind,C,Result.andThen_ok,Sem.run_pure]
 refine hK _ _ B.1 B.2 (by simp only[O];exact E5 _ _ _) hn (.tup rfl λi a u q A=>?_)
 rcases i with _ | _ | _ | i
 ·simp at q A;subst q;subst A;exact .r (.bool true)
 ·simp at q A;subst q;subst A;exact .r (.int _ _)
 ·simp at q A;subst q;subst A;exact .r (.int _ _)
 ·simp at q
theorem AW.split{Q}{s}{x} b(j:b=true→AW P x Q s)(l:b=false→AW P x Q s):AW P x Q s:=by
 cases b
 ·exact l rfl
 ·exact j rfl
end
section
variable{P:Program}{c:Bool}{o:Oper}{R:AY}{h:AR}
theorem qJ{t e e'}{F id g}{x y}{cs}{k}{z:Int}(T:o.op=.indexAddr t x y)(U:PQ P t F e 1)(V:Ev c R x (.ptr id g 0 0))(X:hget h id=some (.box g e' cs))
 (Y:Ev c R y (.r (.int k z))) {l:List Bool} {v} (Z:c=true→AJ l z=some v) (hl:l.length=F):AP P c o R h (.ptr id g 0 z.toNat) := by
  intro u w a A hH I
  obtain⟨B, ii, C, E⟩ := U
  have j:w.H id=some (.box g e' cs) := by rw[hH];exact X
  have J := V.rep I u
  obtain⟨z0, _, M⟩ := GN (Z u)
  rw[hl] at M
  have hg:g<w.n := by cases J with | ptr hg _ _ => exact hg
  obtain⟨b, a0, h1, h2, h3, h4, h5⟩ := H8 A j J
  refine⟨.pointer (some ⟨b, z.toNat, none⟩), λw2 a1 => ?_, .ptr hg rfl λo' q O => ?_⟩
  · unfold execOp
    rw[T]
    simp[h2, Cd (Y.rep I u), Instr.indexAt, Instr.sureAddr, asIntOf, run_underlying B, z0, M, EM C, E, Addr.add_lit]
  · rw[j] at q;cases q
    exact⟨b, _, h1, by simp⟩
theorem rM{t}{x}{id g}{e}{cs}{l:List Bool}{z:Int}{a}(q:o.op=.load t x)(u:BV P t)(w:Ev c R x (.ptr id g 0 z.toNat))(A:hget h id=some (.box g e cs))(j:cs=l.map λb => .r (.bool b))
 (B:c=true→AJ l z=some a):AP P c o R h (.r (.bool a)) :=
  XB q u w (λ_ => A) (λC => by rw[j, xJ, (GN (B C)).2.1];rfl)
end
open Go.Shelf Go.RowKit Go.Lib
theorem vn{P}{f}{args}{r:AV}(hc:Pf P f)(C:r.closed=true)
 (h:∀(x:Cx) (B:Array Value), x.ok→Hh x args B.toList→Calls P f B x.w λe w' => ∃u, e=.returned u∧Below x.w.heap.size x.w w'∧∀y:Cx, AS y r u):AM P f args r := by
  refine⟨hc, C, λx B j E I => (h x B j I).mono λe w' ⟨u, J, l, M⟩ => ?_⟩
  have A:x.le { x with w := w' } := by
    refine⟨l.size, l.os, l.tape, l.output, λb F => l.block b (F.elim (j.S_lt b) (j.F_lt b)), λ_ h => h, rfl, wn _, λid o q _ => ⟨o, q, rfl, rfl, rfl⟩⟩
  refine⟨u, { x with w := w' }, J, rfl, A, ⟨λb w => xF (j.S_lt b w) l.size, λb w => xF (j.F_lt b w) l.size, j.SF, λid o q => ?_, λid o b k q => ?_, λid O o T b k U q => ?_, j.tabs.le A⟩, M _⟩
  · exact absurd (show x.H id=some o from q) (by rw[E];simp)
  · exact absurd (show x.H id=some o from q) (by rw[E];simp)
  · exact absurd (show x.H id=some o from q) (by rw[E];simp)
theorem VE{x:Cx}(C:Fm x){g}{row}(hg:Hc g=some row){j}{k}{z}(l:row[j]?=some (.int k z)):x.w.cell? ⟨g,j,none⟩=some (.int k z):=by
 have h:=C.tab g row hg
 generalize q:(Value.pointer (some ⟨g,0,none⟩))=v at h
 cases h with
 | rop u I E F=>
  rename_i b off
  simp only[Value.pointer.injEq,wu,Addr.mk.injEq,and_true,xv] at q
  obtain⟨rfl,rfl⟩:=q
  have A:=E j _ l
  have B:=F j _ l
  rw[xE] at A
  rw[A]
  generalize u j=w at B
  cases B;rfl
theorem oq:∀c,c<256→(FH.flatMap λz=>[RV.int .u8 z])[c]?=some (.int .u8 (Lib.firstT c:Int)):=by
 have h:∀c:Fin 256,FH[c.val]?=some (Lib.firstT c.val:Int):=by decide +kernel
 intro c hc
 have h1:∀(l:List Int) (j:Nat),(l.flatMap λz=>[RV.int .u8 z])[j]?=(l[j]?).map (RV.int .u8):=by
  intro l
  induction l with
  | nil=>intro j;simp
  | cons a l ih=>intro j;cases j with
   | zero=>simp
   | succ j=>simpa using ih j
 rw[h1,h ⟨c,hc⟩];rfl
theorem ix:∀i,i<16→(JJ.flatMap λp=>[RV.int .u8 p.1,RV.int .u8 p.2])[2 * i]?=some (.int .u8 (Lib.accLo i:Int))∧(JJ.flatMap λp=>[RV.int .u8 p.1,RV.int .u8 p.2])[2 * i+1]?=some (.int .u8 (Lib.accHi i:Int)):=by
 have h:∀c:Fin 16,JJ[c.val]?=some ((Lib.accLo c.val:Int),(Lib.accHi c.val:Int)):=by decide +kernel
 intro i hi
 have h1:∀(l:List (Int × Int)) (j:Nat),(l.flatMap λp=>[RV.int .u8 p.1,RV.int .u8 p.2])[2 * j]?=(l[j]?).map (λp=>RV.int .u8 p.1)∧(l.flatMap λp=>[RV.int .u8 p.1,RV.int .u8 p.2])[2 * j+1]?=(l[j]?).map (λp=>RV.int .u8 p.2):=by
  intro l
  induction l with
  | nil=>intro j;simp
  | cons a l ih=>intro j;cases j with
   | zero=>simp
   | succ j=>
    have:=ih j
    rw[show 2 * (j+1)=2 * j+1+1 by omega]
    simpa using this
 rw[(h1 _ _).1,(h1 _ _).2,h ⟨i,hi⟩]
 exact⟨rfl,rfl⟩
theorem uK{x:Cx}(j:x.ok)(l:If≠Ig):Lib.Utf8Tabs If Ig x.w:=by
 have u:Hc If=some (FH.flatMap λz=>[.int .u8 z]):=by unfold Hc;rw[wU rfl]
 have hA:Hc Ig=some (JJ.flatMap λp=>[.int .u8 p.1,.int .u8 p.2]):=by unfold Hc;rw[ne (λe=>l e.symm),wU rfl]
 exact⟨λc w=>VE j.tabs u (oq c w),λi q=>⟨VE j.tabs hA (ix i q).1,VE j.tabs hA (ix i q).2⟩⟩
theorem vm{P}{ρ:Ren}{f}(L:Go.Proofs.Lays.n196 P ρ)(w:ρ.f 196=f)(A:ρ.g 3=If)(B:ρ.g 4=Ig)(hc:Pf P f){s}{r}(h:SC s=some r) :
  AM P f [.r (.str s)] (.r (.bool r)):=by
 subst w
 refine vn hc rfl λx u j l=>?_
 unfold SC at h
 split at h
 ·rename_i C
  cases h
  have J:=l
  obtain⟨v,E⟩:∃v,u = #[v]:=by
   have:=l.1
   match u,this with
   | ⟨[v]⟩,_=>exact⟨v,rfl⟩
  subst E
  have q:=l.2 0 (.r (.str s)) v rfl rfl
  cases q with
  | r q=>
   cases q with
   | str s=>
    refine(Any.utf8_ValidString L s x.w (by rw[Lib.size_eq];exact C) (by rw[A,B];exact uK j (by decide))).mono λe w' ⟨F,I⟩=>?_
    exact⟨_,F,I,λy=>.r (.bool _)⟩
 ·cases h
end Go.Proofs.YtdafahjmopdleaaGreatDoor.Al

namespace Go.Proofs.YtdafahjmopdleaaGreatDoor.Al
open Go.ChangeMaps (setBlock)
open Go.MapKept Go.RowKit
section
variable{P:Program}{c:Bool}{o:Oper}{R:AY}{h:AR}{n:Nat}
end
end Go.Proofs.YtdafahjmopdleaaGreatDoor.Al

namespace Go.Proofs.YtdafahjmopdleaaGreatDoor.Al
open Go.ChangeMaps (setBlock)
open Go.MapKept Go.RowKit
set_option linter.unusedVariables false
section
variable{P:Program}{ops:Array Oper}{rest:List Oper}{s:St}{K:St→Prop}{o:Oper}
def Gr(P:Program)(j:List ResultVar)(K:AV→AR→Nat→Prop):Exit→St→Prop
 | .normal,s | .ret,s=>∃r,It P j s r∧K r s.h s.n
 | _,_=>False
theorem cF{f}{fn:Func}{code}{args:List AV}{vs:Array Value}{h}{n N}{z:Cx}{K}(hf:P.funcs[f]?=some fn)(hb:fn.body=some code)(hN:fn.ntmps=N)
 (Z:args.length≤N) (I:z.ok) (hH:z.H=hget h) (hn:z.n=n) (w:Hh z args vs.toList) (hw:AW P code (Gr P fn.results.toList K) ⟨DB 0 args, h, n, N⟩) :
    Calls P f vs z.w λe w' => ∃u y r h' J, e=.returned u∧y.w=w'∧z.le y∧y.ok∧y.H=hget h'∧y.n=J∧AS y r u∧K r h' J := by
  have Y:vs.size=args.length := by simpa using w.1
  have M:D6 z ⟨DB 0 args, h, n, N⟩ { tmps := vs++Array.replicate (fn.ntmps - vs.size) undef, defers := [] } z.w := by
    refine⟨_, rfl, by simp;omega, z, rfl, .refl z, I, hH, hn, λt => ?_⟩
    rcases Rl args 0 t with U | ⟨j, a, U, V, h3⟩
    · rw[U];exact .any _
    · rw[h3]
      have hj:j<vs.size := by rw[Y];exact(wc.1 V).1
      have ht:t=j := by omega
      subst ht
      have:(vs++Array.replicate (fn.ntmps - vs.size) undef).getD t undef=vs[t] := by
        simp[Array.getD, hj]
        omega
      rw[this]
      exact w.2 t a vs[t] V (by simp[hj])
  have O:∀ {e:Exit} {a:Act} {y:Cx} {s:St}, (∃r, It P fn.results.toList s r∧K r s.h s.n)→z.le y→y.ok→y.H=hget s.h→y.n=s.n→Bz y s.e a →
      ∃u, (results fn a.tmps).run P y.w=.ok u y.w∧∃u' E r h' J, Ending.returned u=.returned u'∧E.w=y.w∧z.le E∧E.ok∧E.H=hget h'∧E.n=J∧AS E r u'∧K r h' J := by
    intro e a y s ⟨r, U, V⟩ B q A C X
    obtain⟨u, T, hu⟩ := iz (P := P) q A X U
    exact⟨u, T, u, y, r, s.h, s.n, rfl, rfl, B, q, A, C, hu, V⟩
  refine SN hf hb I M (hw) λe s a y F B q A C X => ?_
  cases e with
  | normal => exact⟨.inl rfl, O (e := .normal) F B q A C X⟩
  | ret => exact⟨.inr rfl, O (e := .ret) F B q A C X⟩
  | exit id => exact F.elim
  | goto l => exact F.elim
  | panic ch => exact F.elim
  | outgrown => exact F.elim
theorem UC{f}{fn:Func}{code}{O}{xs:Array Operand}{T}{caps bs:List AV}{R}{h}{n N}{a:Act}{z:Cx}{K0}
 (ho : o.op = .call { callee := .value O, args := xs, argTypes := T }) (U : Ev true R O (.fn f caps)) (hx : G6 true R xs.toList bs) (hf : P.funcs[f]? = some fn) (hb : fn.body = some code) (q : (fn.name == "runtime.NumGoroutine") = false)
 (hN:fn.ntmps=N) (A:(bs++caps).length≤N) (V:z.ok) (hH:z.H=hget h) (hn:z.n=n) (he:Bz z R a) (hw:AW P code (Gr P fn.results.toList K0) ⟨DB 0 (bs++caps), h, n, N⟩) (K:Act→World→Prop) (Q:Exit→Act→World→Prop)
 (hK:∀(u:Value) (y:Cx) (r:AV) (I:AR) (J:Nat), z.le y→y.ok→y.H=hget I→y.n=J→AS y r u→K0 r I J→K (a.put o.dst u) y.w):o.wp P a z.w K Q := by
  obtain⟨l, X⟩ := hx.rep rfl he
  have hv := U.rep he rfl
  generalize Y:a.eval O=v at hv
  cases hv with
  | @fn _ _ us hl B =>
    have C := Px (P := P) ⟨fn, hf, by rw[hb];rfl, q⟩ ho Y z.w
    have w:Hh z (bs++caps) (xs.map a.eval++us).toList := by
      refine⟨by simp[hl];simpa using l.symm, λi b u M h2 => ?_⟩
      have j:((xs.toList.map a.eval)++us.toList)[i]?=some u := by simpa using h2
      by_cases hi:i<bs.length
      · rw[xR hi] at M
        rw[xR (by simp at l ⊢;omega)] at j
        exact X i b u M j
      · rw[xK (by omega)] at M
        rw[xK (by simp at l ⊢;omega)] at j
        have E:(xs.toList.map a.eval).length=bs.length := by simpa using l.symm
        rw[E] at j
        exact B _ b u M (by simpa using j)
    unfold Oper.wp
    rw[C]
    refine(cF hf hb hN A V hH hn w hw).mono λe w' ⟨u, y, r, I, J, he', Z, a0, F, a1, a2, a6, hk⟩ => ?_
    subst he'
    subst Z
    exact hK u y r I J a0 F a1 a2 a6 hk
theorem vy{d}{f}{fn:Func}{code}{Y}{xs:Array Operand}{C}{N}(caps bs:List AV)(hg:o.guard=none)(hd:o.dst=some d)(E:Nat.blt d s.N=true)
 (ho : o.op = .call { callee := .value Y, args := xs, argTypes := C }) (F : Ev true s.e Y (.fn f caps)) (hx : G6 true s.e xs.toList bs) (hf : P.funcs[f]? = some fn) (hb : fn.body = some code) (j : (fn.name == "runtime.NumGoroutine") = false)
 (hN:fn.ntmps=N) (l:Nat.ble (bs++caps).length N=true)
 (hw:AW P code (Gr P fn.results.toList λr Z n' => AL P ops rest { e := (d, r)::s.e, h := Z, n := n', N := s.N } K) ⟨DB 0 (bs++caps), s.h, s.n, N⟩):AL P ops (o::rest) s K := by
  intro c0 a w ⟨_, q, hsz, y, I, J, M, hH, hn, he⟩ Q hQ
  subst I
  refine wpList_plain hg λK' O => ?_
  refine UC ho F hx hf hb j hN (xj l) M hH hn he hw K' Q λu z r Z n' A B T U V hr => ?_
  refine O _ _ ?_
  have X:d<a.tmps.size := by rw[hsz];exact Ck E
  rw[hd]
  exact hr c0 (a.put (some d) u) z.w ⟨_, q, by simpa[Act.put] using hsz, z, rfl, J.trans A, B, T, U, (he.mono A).put X V⟩ Q hQ
theorem v6{f}{fn:Func}{code}{U}{xs:Array Operand}{C}{N}(caps bs:List AV)(hg:o.guard=none)(hd:o.dst=none)
 (Z : o.op = .call { callee := .value U, args := xs, argTypes := C }) (E : Ev true s.e U (.fn f caps)) (hx : G6 true s.e xs.toList bs) (hf : P.funcs[f]? = some fn) (hb : fn.body = some code) (j : (fn.name == "runtime.NumGoroutine") = false)
 (hN:fn.ntmps=N) (l:Nat.ble (bs++caps).length N=true)
 (hw:AW P code (Gr P fn.results.toList λ_ V X => AL P ops rest { e := s.e, h := V, n := X, N := s.N } K) ⟨DB 0 (bs++caps), s.h, s.n, N⟩):AL P ops (o::rest) s K := by
  intro c0 a w ⟨_, q, hsz, y, F, I, J, hH, hn, Y⟩ Q hQ
  subst F
  refine wpList_plain hg λK' M => ?_
  refine UC Z E hx hf hb j hN (xj l) J hH hn Y hw K' Q λu z r V X A B O T a0 hr => ?_
  refine M _ _ ?_
  rw[hd]
  exact hr c0 _ z.w ⟨_, q, hsz, z, rfl, I.trans A, B, O, T, Y.mono A⟩ Q hQ
def Hl(P:Program)(x:Code)(Q:Exit→St→Prop):Nat→St→Prop
 | 0,_=>False
 | n+1,s=>AW P x (En (Hl P x Q n) Q) s
theorem Hl.step{Q}{x}{n}(h:AW P x (En (Hl P x Q n) Q) s):Hl P x Q (n+1) s:=h
theorem vl{Q}{x}(n:Nat)(h:Hl P x Q n s):AW P (.loop x) Q s:=by
 refine AW.loop (λm s=>Hl P x Q m s) n ⟨s,Ag.refl s,h⟩ λm s j=>?_
 cases m with
 | zero=>exact j.elim
 | succ m=>
  refine AW.mono (show AW P x (En (Hl P x Q m) Q) s from j) λe l q=>?_
  cases e with
  | normal=>exact⟨m,WAJ m,l,Ag.refl l,q⟩
  | _=>exact q
section
variable{c:Bool}{R:AY}{h:AR}{n:Nat}
end
end
end Go.Proofs.YtdafahjmopdleaaGreatDoor.Al

namespace Go.Proofs.YtdafahjmopdleaaGreatDoor.Al
section
variable{P:Program}{ops:Array Oper}{rest:List Oper}{s:St}{K:St→Prop}{o:Oper}
theorem AP.no{c}{R}{h}{v}(hc:c=false):AP P c o R h v:=λh=>by rw[hc] at h;cases h
theorem v7{c}{d}{f}{fn:Func}{code}{fo}{xs:Array Operand}{E}{N} caps bs(hG:CI s.e ops o c)(hc:c=true)(hd:o.dst=some d)(F:Nat.blt d s.N=true)
 (ho : o.op = .call { callee := .value fo, args := xs, argTypes := E }) (I : Ev true s.e fo (.fn f caps)) (hx : G6 true s.e xs.toList bs) (hf : P.funcs[f]? = some fn) (hb : fn.body = some code) (j : (fn.name == "runtime.NumGoroutine") = false)
 (hN:fn.ntmps=N) (l:Nat.ble (bs++caps).length N=true)
 (hw:∀C:AV→AR→Nat→Prop, (∀r J M, AL P ops rest { e := (d, r)::s.e, h := J, n := M, N := s.N } K→C r J M)→AW P code (Gr P fn.results.toList C) ⟨DB 0 (bs++caps), s.h, s.n, N⟩):AL P ops (o::rest) s K := by
  intro c0 a w ⟨_, q, hsz, y, O, T, U, hH, hn, V⟩ Q hQ
  subst O
  refine wpList_step λC X => ?_
  rw[hG.wanted V, wU hc]
  refine UC ho I hx hf hb j hN (xj l) U hH hn V (hw _ λ_ _ _ h => h) C Q λu z r J M A B Y Z a0 hr => ?_
  refine X _ _ ?_
  have a1:d<a.tmps.size := by rw[hsz];exact Ck F
  rw[hd]
  exact hr c0 (a.put (some d) u) z.w ⟨_, q, by simpa[Act.put] using hsz, z, rfl, T.trans A, B, Y, Z, (V.mono A).put a1 a0⟩ Q hQ
end
end Go.Proofs.YtdafahjmopdleaaGreatDoor.Al

set_option linter.unusedVariables false
namespace Go.Proofs.YtdafahjmopdleaaGreatDoor.Al
def HR(P:Program)(t:TypeId):Option (Option Value × Nat × Nat):=(P.info? t).map λi=>(i.zero,i.size,i.bytes)
def LV(P:Program)(t:TypeId):Bool:=match P.underlying t,HR P t with
 | some d,some (some _,sz,_)=>GS d&&Nat.beq sz 1
 | _,_=>false
def LU(P:Program)(t:TypeId):Option Nat:=match P.underlying t,HR P t with
 | some d,some (some _,sz,_)=>if GS d then none else some sz
 | _,_=>none
def VD(P:Program)(t:TypeId):Option Nat:=match HR P t with
 | some (some _,sz,_)=>some sz
 | _=>none
def TG(P:Program)(t:TypeId):Option Value:=match HR P t with
 | some (some z,_,_)=>some z
 | _=>none
def HX(P:Program)(t:TypeId):Option (TypeId × Nat × Nat):=match P.underlying t with
 | some (.slice e)=>match HR P e with
  | some (some z,sz,b)=>if z.cells.size=sz∧z.cells.toList.all Value.oneCell'=true∧0<sz then some (e,sz,b) else none
  | _=>none
 | _=>none
def WV(P:Program)(t:TypeId)(f:Nat):Option Nat:=match P.underlying t with
 | some (.struct l)=>match l[f]? with
  | some j=>match HR P j.type with
   | some (some _,sz,_)=>if sz=0 then none else some j.offset
   | _=>none
  | none=>none
 | _=>none
def Uk(P:Program)(t:TypeId)(f:Nat):Option Nat:=match P.underlying t with
 | some (.struct l)=>match l[f]? with
  | some j=>match P.underlying j.type with
   | some d=>if GS d then some j.offset else none
   | none=>none
  | none=>none
 | _=>none
section
variable{P:Program}{t:TypeId}
theorem Qy(h:LV P t=true):BV P t:=by
 unfold LV at h
 split at h
 ·rename_i d z sz b j l
  simp only[wY] at h
  have:=wj h.2
  subst this
  exact BV.of j h.1 l
 ·cases h
theorem Qf{sz}(h:LU P t=some sz):BW P t sz:=by
 unfold LU at h
 split at h
 ·rename_i d z j b l q
  split at h
  ·cases h
  ·rename_i u;cases h
   exact BW.of l (by simpa using u) q
 ·cases h
theorem ft{sz}(h:VD P t=some sz):∃i,P.info? t=some i∧i.size=sz:=by
 unfold VD at h
 split at h
 ·rename_i z j b l;cases h;exact Cr l
 ·cases h
theorem cT{z}(h:TG P t=some z):B7 P t z:=by
 unfold TG at h
 split at h
 ·rename_i q j b l;cases h;exact B7.of l
 ·cases h
theorem IP{e}{sz b}(h:HX P t=some (e,sz,b)):Bg P t e sz b:=by
 unfold HX at h
 split at h
 ·rename_i w l
  split at h
  ·rename_i z q A u
   split at h
   ·rename_i j;cases h;exact Bg.of l u j.1 j.2.1 j.2.2
   ·cases h
  ·cases h
 ·cases h
theorem g9{f off}(h:WV P t f=some off):AU P t f off:=by
 unfold WV at h
 split at h
 ·rename_i w j
  split at h
  ·rename_i A l
   split at h
   ·rename_i z sz b q
    split at h
    ·cases h
    ·rename_i u;cases h;exact AU.of j l rfl q u
   ·cases h
  ·cases h
 ·cases h
theorem nR{f off}(h:Uk P t f=some off):Ft P t f off:=by
 unfold Uk at h
 split at h
 ·rename_i w j
  split at h
  ·rename_i A l
   split at h
   ·rename_i d q
    split at h
    ·rename_i u;cases h;exact Ft.of j l rfl q u
    ·cases h
   ·cases h
  ·cases h
 ·cases h
end
def Iu:List UInt8→UInt8→Int→Int
 | [],_,_=>-1
 | b::l,c,k=>match b==c with
  | true=>k
  | false=>Iu l c (k+1)
theorem hO:∀(l:List UInt8) (c:UInt8),-1≤Lib.indexByte l c
 | [],_=>by simp[Lib.indexByte]
 | b::l,c=>by
  have:=hO l c
  simp only[Lib.indexByte]
  split
  ·omega
  ·split
   ·omega
   ·omega
theorem bJ:∀(l:List UInt8) (c:UInt8) (k:Int),0≤k→Iu l c k=if Lib.indexByte l c = -1 then -1 else Lib.indexByte l c+k
 | [],_,_,_=>by simp[Iu,Lib.indexByte]
 | b::l,c,k,A=>by
  have hg:=hO l c
  have e:Lib.indexByte (b::l) c=(if(b==c)=true then 0 else if(Lib.indexByte l c == -1)=true then -1 else Lib.indexByte l c+1):=rfl
  have u:Iu (b::l) c k=(match b==c with | true=>k | false=>Iu l c (k+1)):=rfl
  generalize Lib.indexByte (b::l) c=z at e ⊢
  rw[u]
  cases q:b==c
  ·rw[q] at e
   simp only[yO,y8] at e
   show Iu l c (k+1)=_
   rw[bJ l c (k+1) (by omega),e]
   by_cases j:Lib.indexByte l c = -1
   ·rw[j];simp
   ·have w:(Lib.indexByte l c == -1)=false:=by simpa using j
    rw[ne j,w]
    simp only[yO,y8]
    rw[ne (by omega)];omega
  ·rw[q] at e
   simp only[yN] at e
   rw[e];simp
theorem oe l c:Iu l c 0=Lib.indexByte l c:=by
 rw[bJ l c 0 (z7 _)]
 split
 ·rename_i h;rw[h]
 ·omega
def VX (fn : Func) : Bool := fn.body.isNone && (fn.name == "internal/bytealg.IndexByteString" && fn.origin == "")
theorem va {fn : Func} (h : fn.name = "internal/bytealg.IndexByteString") (j : fn.origin = "") : Extern.find fn = some Extern.BytealgIndexByte.indexByte ∧ Extern.findNext fn = none := by
 have l : Extern.allGenericRows.lookup "internal/bytealg.IndexByteString" = none := by kernel_rfl
 have q : Extern.allTypedRows.lookup "internal/bytealg.IndexByteString" = none := by kernel_rfl
 have u : Extern.allRows.lookup "internal/bytealg.IndexByteString" = some Extern.BytealgIndexByte.indexByte := by kernel_rfl
 have w : Extern.allNextRows.lookup "" = none := by kernel_rfl
 have A : Extern.allNextRows.lookup "internal/bytealg.IndexByteString" = none := by kernel_rfl
 constructor
 ·unfold Extern.find
  simp only[h,l,q,u]
  rfl
 ·unfold Extern.findNext
  simp only[h,j,A,w]
  rfl
section
variable{P:Program}{c:Bool}{o:Oper}{R:AY}{h:AR}
theorem tO{f}{fn:Func}{C x y}{E}{s:List UInt8}{m:Int}(ho:o.op=.call { callee := .value C, args := #[x, y], argTypes := E })(M:P.funcs[f]?=some fn)(u:VX fn=true)(F:Ev c R C (.fn f []))
 (O:Ev c R x (.r (.str s))) (T:Ev c R y (.r (.int .u8 m))):AP P c o R h (.r (.int .i64 (Lib.indexByte s m.toNat.toUInt8))) := by
  intro A z w _ _ B
  refine⟨.int .i64 (Lib.indexByte s m.toNat.toUInt8), λw2 _ => ?_, .r (.int _ _)⟩
  simp only[VX, wY, WAH] at u
  obtain⟨U, V⟩ := va u.2.1 u.2.2
  have X := F.rep B A
  generalize I:w.eval C=v at X
  cases X with
  | @fn _ _ Y hl Z =>
    have J:Y = #[] := by
      have:Y.size=0 := hl.symm
      exact Array.eq_empty_of_size_eq_zero this
    subst J
    unfold execOp
    rw[ho]
    simp only[resolve, I, Deferred.ofValue, Sem.run_bind, Sem.run_pure, Result.andThen_ok, invoke]
    have q:(#[x, y].map w.eval ++ #[]:Array Value) = #[.string ⟨s.toArray⟩, .int .u8 m] := by
      simp[HM (O.rep B A), Cd (T.rep B A)]
    have l:(#[] ++ #[x, y].map w.eval ++ #[]:Array Value) = #[.string ⟨s.toArray⟩, .int .u8 m] := by
      simp[HM (O.rep B A), Cd (T.rep B A)]
    have j : (fn.name == "runtime.NumGoroutine") = false := by rw [u.2.1]; rfl
    first
      | rw[q, run_callFunc_extern M j u.1 V U, Lib.run_indexByteString];rfl
      | rw[l, run_callFunc_extern M j u.1 V U, Lib.run_indexByteString];rfl
end
def Ax(R:AY)(x:Operand):AV:=match BG R x with
 | .whn true v=>v
 | v=>v
theorem BQ c R x:Ev c R x (Ax R x):=by
 unfold Ax Ev
 split
 ·rename_i v h;exact .inr ⟨true,λ_=>rfl,h⟩
 ·exact .inl rfl
section
variable{P:Program}{c:Bool}{o:Oper}{R:AY}{h:AR}
def Uf(P:Program)(op:BinOp)(t:TypeId):AV→AV→Option AV
 | .r (.int k m),.r (.int j n)=>if k=j then match op with
   | .add=>some (.r (.int k (k.wrap (m+n))))
   | .sub=>some (.r (.int k (k.wrap (m-n))))
   | .mul=>if k.wrap (m * n)=m * n then some (.r (.int k (m * n))) else none
   | .quo=>if n≠0∧k.wrap (m.tdiv n)=m.tdiv n then some (.r (.int k (m.tdiv n))) else none
   | .rem=>if n≠0 then some (.r (.int k (m.tmod n))) else none
   | .eql=>some (.r (.bool (decide (m=n))))
   | .neq=>some (.r (.bool (!(m=n))))
   | .lss=>some (.r (.bool (decide (m<n))))
   | .leq=>some (.r (.bool (decide (m≤n))))
   | .gtr=>some (.r (.bool (decide (n<m))))
   | .geq=>some (.r (.bool (decide (n≤m))))
   | _=>none
  else none
 | .r (.str a),.r (.str b)=>match op with
   | .eql=>some (.r (.bool (decide (a=b))))
   | .neq=>some (.r (.bool (!(a=b))))
   | .lss=>some (.r (.bool (Au a b)))
   | .geq=>some (.r (.bool (!Au a b)))
   | .leq=>some (.r (.bool (Au a b||(a=b))))
   | .gtr=>some (.r (.bool (!(Au a b||(a=b)))))
   | .add=>if a.length+b.length≤9223372036854775807 then some (.r (.str (a++b))) else none
   | _=>none
 | .r (.bool m),.r (.bool n)=>match P.underlying t with
   | some .bool=>match op with
    | .eql=>some (.r (.bool (m==n)))
    | .neq=>some (.r (.bool (!(m==n))))
    | _=>none
   | _=>none
 | _,_=>none
theorem mf{op}{t B}{x y}{a b v}(l:o.op=.binOp op t x y B)(q:Ev c R x a)(u:Ev c R y b)(j:Uf P op t a b=some v):AP P c o R h v := by
  unfold Uf at j
  split at j
  · split at j
    · rename_i C;subst C
      cases op<;>dsimp only at j<;>first
        | (cases j;first | exact j9 l q u | exact pJ l q u | exact X3 l q u | exact CP l q u | exact Bp l q u | exact Ez l q u | exact Yt l q u | exact Ca l q u)
        | (split at j
           · rename_i w;cases j;first | exact o6 l q u w | exact nj l q u w.1 w.2 | exact me l q u w
           · cases j)
        | (cases j;done)
    · cases j
  · cases op<;>dsimp only at j<;>first
      | (cases j;first | exact f8 l q u | exact DH l q u | exact Jw l q u | exact Wj l q u | exact ey l q u | exact kD l q u)
      | (split at j
         · rename_i w;cases j;exact qn l q u w
         · cases j)
      | (cases j;done)
  · split at j
    · rename_i A
      cases op<;>dsimp only at j<;>first
        | (cases j;first | exact eR l A q u | exact iV l A q u)
        | (cases j;done)
    · cases j
  · cases j
def Tc:Nat→List Field→Bool
 | _,[]=>true
 | i, f :: j => (!(f.name == "_") && Nat.beq f.offset i) && Tc (i + 1) j
def XO(P:Program)(t:TypeId):Option (List (Option TypeDesc)):=match P.underlying t with
 | some (.struct j)=>if(P.stoodInHeld t=false∧P.eqGuardType P.depth t=false)∧Tc 0 j.toList=true then some (j.toList.map λf=>P.underlying f.type) else none
 | _=>none
theorem fq:∀ {j:List Field} {i:Nat},Tc i j=true→QT P i j (j.map λf=>P.underlying f.type)
 | [],_,_=>trivial
 | f::j,i,h=>by
  simp only[Tc,wY,xm] at h
  exact⟨h.1.1,wj h.1.2,rfl,fq h.2⟩
theorem dK{t}{l}(h:XO P t=some l):ET P t l:=by
 unfold XO at h
 split at h
 ·rename_i u q
  split at h
  ·rename_i j;cases h;exact ET.of q j.1.1 j.1.2 (fq j.2)
  ·cases h
 ·cases h
def WJ(P:Program)(op:BinOp)(t:TypeId):AV→AV→Option AV
 | .agg j,.agg l=>match XO P t with
  | some q=>match Hp q j l with
   | some r=>match op with
    | .eql=>some (.r (.bool r))
    | .neq=>some (.r (.bool (!r)))
    | _=>none
   | none=>none
  | none=>none
 | _,_=>none
theorem sa{op}{t B}{x y}{a b v}(l:o.op=.binOp op t x y B)(q:Ev c R x a)(u:Ev c R y b)(j:WJ P op t a b=some v):AP P c o R h v:=by
 unfold WJ at j
 split at j
 ·split at j
  ·rename_i C w
   split at j
   ·rename_i r A
    split at j
    ·cases j;exact Wl l (dK w) q u A
    ·cases j;exact Jo l (dK w) q u A
    ·cases j
   ·cases j
  ·cases j
 ·cases j
def Uj(op:BinOp):AV→AV→Option AV
 | .r (.int k m),.r (.int _ n)=>if 0≤n then match op with
   | .shl=>some (.r (.int k (Dj k m n.toNat)))
   | .shr=>some (.r (.int k (FB k m n.toNat)))
   | _=>none
  else none
 | _,_=>none
def Vk(op:BinOp):AV→AV→Option AV
 | .r (.int k m),.r (.int j n)=>if k=j then match op with
   | .and=>some (.r (.int k (CL k m n)))
   | .or=>some (.r (.int k (D9 k m n)))
   | .xor=>some (.r (.int k (WN k m n)))
   | .andNot=>some (.r (.int k (Ou k m n)))
   | _=>none
  else none
 | _,_=>none
theorem ss{op}{t w}{x y}{a b v}(l:o.op=.binOp op t x y w)(q:Ev c R x a)(u:Ev c R y b)(j:Vk op a b=some v):AP P c o R h v:=by
 unfold Vk at j
 split at j
 ·split at j
  ·rename_i A;subst A
   split at j
   ·cases j;exact GU l q u
   ·cases j;exact JO l q u
   ·cases j;exact mG l q u
   ·cases j;exact ZS l q u
   ·cases j
  ·cases j
 ·cases j
theorem sU{op}{t w}{x y}{a b v}(q:o.op=.binOp op t x y w)(u:Ev c R x a)(l:Ev c R y b)(j:Uj op a b=some v):AP P c o R h v:=by
 unfold Uj at j
 split at j
 ·split at j
  ·rename_i A
   rw[← Int.toNat_of_nonneg A] at l
   split at j
   ·cases j;exact JA q u l
   ·cases j;exact Ri q u l
   ·cases j
  ·cases j
 ·cases j
def wO:AV→Option Bool
 | .r (.bool b)=>some b
 | .whn _ (.r (.bool b))=>some b
 | _=>none
def VG(R:AY)(x y z:Operand):Option AV:=
 match Ax R x with
 | .r (.bool a)=>
  match z with
  | .const (.bool false)=>match a,BG R y with
   | true,.r (.bool b)=>some (.r (.bool b))
   | true,.whn true (.r (.bool b))=>some (.r (.bool b))
   | false,.r (.bool _)=>some (.r (.bool false))
   | false,.whn _ (.r (.bool _))=>some (.r (.bool false))
   | _,_=>none
  | _=>match y with
   | .const (.bool true)=>match a,BG R z with
    | false,.r (.bool b)=>some (.r (.bool b))
    | false,.whn true (.r (.bool b))=>some (.r (.bool b))
    | true,.r (.bool _)=>some (.r (.bool true))
    | true,.whn _ (.r (.bool _))=>some (.r (.bool true))
    | _,_=>none
   | _=>none
 | _=>none
theorem tj{x y z}{v}(u:o.op=.pick x y z)(j:VG R x y z=some v):AP P c o R h v:=by
 unfold VG at j
 have q:=BQ c R x
 split at j
 ·rename_i a A
  rw[A] at q
  split at j
  ·split at j
   ·rename_i b l;cases j;exact Ly (a:=true) (b:=b) u q (.inl l)
   ·rename_i b l;cases j;exact Ly (a:=true) (b:=b) u q (.inr ⟨true,λ_=>rfl,l⟩)
   ·rename_i b l;cases j;exact Ly (a:=false) (b:=b) u q (.inl l)
   ·rename_i w b l;cases j;exact Ly (a:=false) (b:=b) u q (.inr ⟨w,λe=>by simp at e,l⟩)
   ·cases j
  ·split at j
   ·split at j
    ·rename_i b l;cases j;exact B1 (a:=false) (b:=b) u q (.inl l)
    ·rename_i b l;cases j;exact B1 (a:=false) (b:=b) u q (.inr ⟨true,λ_=>rfl,l⟩)
    ·rename_i b l;cases j;exact B1 (a:=true) (b:=b) u q (.inl l)
    ·rename_i w b l;cases j;exact B1 (a:=true) (b:=b) u q (.inr ⟨w,λe=>by simp at e,l⟩)
    ·cases j
   ·cases j
 ·cases j
def WA(P:Program)(t:TypeId)(h:AR):AV→Option AV
 | .rop row k=>match LV P t with
  | true=>match row[k]? with
   | some d=>some (.r d)
   | none=>none
  | false=>match LU P t with
   | some sz=>if k=0∧row.length=sz then some (.agg (row.map .r)) else none
   | none=>none
 | .ptr id g i k=>match hget h id with
  | some (.box j e l)=>if g=j∧i=0 then match LV P t with
    | true=>l[k]?
    | false=>match LU P t with
     | some sz=>if((l.drop k).take sz).length=sz then some (.agg ((l.drop k).take sz)) else none
     | none=>none
   else none
  | some (.arr j e sz u)=>if g=j then match u[i]? with
    | some row=>match LV P t with
     | true=>match row[k]? with
      | some d=>some (.r d)
      | none=>none
     | false=>match LU P t with
      | some q=>if k=0∧q=sz then some (.agg (row.map .r)) else none
      | none=>none
    | none=>none
   else none
  | _=>none
 | _=>none
theorem qF{t}{x}{a v}(u:o.op=.load t x)(w:Ev c R x a)(j:WA P t h a=some v):AP P c o R h v:=by
 unfold WA at j
 split at j
 ·split at j
  ·rename_i l
   split at j
   ·rename_i d hd;cases j;exact Z0 u (Qy l) w (λ_=>hd)
   ·cases j
  ·split at j
   ·rename_i sz l
    split at j
    ·rename_i A;obtain⟨rfl,B⟩:=A;cases j;exact cN u (Qf l) w B
    ·cases j
   ·cases j
 ·split at j
  ·rename_i C
   split at j
   ·rename_i A;obtain⟨rfl,rfl⟩:=A
    split at j
    ·rename_i l;exact XB u (Qy l) w (λ_=>C) (λ_=>j)
    ·split at j
     ·rename_i sz l
      split at j
      ·rename_i B;cases j;exact fQ u (Qf l) w (λ_=>C) rfl B
      ·cases j
     ·cases j
   ·cases j
  ·rename_i C
   split at j
   ·rename_i A;subst A
    split at j
    ·rename_i row q
     split at j
     ·rename_i l
      split at j
      ·rename_i d hd;cases j;exact eW u (Qy l) w (λ_=>C) (λ_=>q) (λ_=>hd)
      ·cases j
     ·split at j
      ·rename_i E l
       split at j
       ·rename_i B;obtain⟨rfl,rfl⟩:=B;cases j;exact s6 u (Qf l) w (λ_=>C) (λ_=>q)
       ·cases j
      ·cases j
    ·cases j
   ·cases j
  ·cases j
 ·cases j
def S8(h:AR)(id g:Nat):Bool:=match hget h id with
 | some j=>Nat.beq j.gen g
 | none=>false
theorem YZ{id g}(hp:S8 h id g=true):∃ob,hget h id=some ob∧ob.gen=g:=by
 unfold S8 at hp
 split at hp
 ·rename_i ob j;exact⟨ob,j,wj hp⟩
 ·cases hp
def Uc(h:AR):AV→Option AV
 | .rop row k=>some (.rop row k)
 | .ptr id g i k=>if S8 h id g=true then some (.ptr id g i k) else none
 | _=>none
theorem uO{x}{a v}(l:o.op=.nilCheck x)(q:Ev c R x a)(j:Uc h a=some v):AP P c o R h v:=by
 unfold Uc at j
 split at j
 ·cases j;exact q9 l q
 ·split at j
  ·rename_i hp;cases j
   obtain⟨A,u,w⟩:=YZ hp
   exact ek l q (λ_=>u) w
  ·cases j
 ·cases j
def VB(P:Program)(t:TypeId)(f:Nat)(h:AR)(a:AV):Option AV:=match WV P t f with
 | some off=>match a with
  | .rop row k=>some (.rop row (k+off))
  | .ptr id g i k=>if S8 h id g=true then some (.ptr id g i (k+off)) else none
  | _=>none
 | none=>none
theorem nf{t}{x}{f}{a v}(l:o.op=.fieldAddr t x f)(q:Ev c R x a)(j:VB P t f h a=some v):AP P c o R h v:=by
 unfold VB at j
 split at j
 ·rename_i off u
  split at j
  ·cases j;exact gF l (g9 u) q
  ·split at j
   ·rename_i hp;cases j
    obtain⟨B,w,A⟩:=YZ hp
    exact FG l (g9 u) q (λ_=>w) A
   ·cases j
  ·cases j
 ·cases j
def Wa(P:Program)(t:TypeId)(h:AR)(a i:AV):Option AV:=match HX P t with
 | some (_,sz,_)=>match i with
  | .r (.int _ n)=>if 0≤n then match a with
    | .r (.sl j)=>match j[n.toNat]? with
     | some row=>if row.length=sz then some (.rop row 0) else none
     | none=>none
    | .own id g=>match hget h id with
     | some (.arr q _ l j)=>if(q=g∧l=sz)∧n<j.length then some (.ptr id g n.toNat 0) else none
     | _=>none
    | _=>none
   else none
  | _=>none
 | none=>none
theorem rV{t}{x i}{a b v}(q:o.op=.indexAddr t x i)(u:Ev c R x a)(w:Ev c R i b)(j:Wa P t h a b=some v):AP P c o R h v:=by
 unfold Wa at j
 split at j
 ·rename_i e sz C hg
  have A:=(IP hg).slice
  split at j
  ·split at j
   ·rename_i B
    split at j
    ·split at j
     ·rename_i row l
      split at j
      ·rename_i E;cases j;exact jD q A u w (λ_=>B) (λ_=>l) E
      ·cases j
     ·cases j
    ·split at j
     ·rename_i F
      split at j
      ·rename_i I;obtain⟨⟨rfl,rfl⟩,J⟩:=I;cases j
       exact Yy q A u F w (λ_=>B) (λ_=>J)
      ·cases j
     ·cases j
    ·cases j
   ·cases j
  ·cases j
 ·cases j
def Vb(P:Program)(t:TypeId)(a i:AV):Option AV:=match P.underlying t with
 | some .string=>match a,i with
  | .r (.str s),.r (.int _ n)=>if 0≤n then match s[n.toNat]? with
    | some j=>some (.r (.int .u8 j.toNat))
    | none=>none
   else none
  | _,_=>none
 | _=>none
theorem ti{t}{x i}{a b v}(l:o.op=.index t x i)(q:Ev c R x a)(u:Ev c R i b)(j:Vb P t a b=some v):AP P c o R h v:=by
 unfold Vb at j
 split at j
 ·rename_i w
  split at j
  ·split at j
   ·rename_i A
    split at j
    ·rename_i C B;cases j;exact ep l w q u (λ_=>A) (λ_=>B)
    ·cases j
   ·cases j
  ·cases j
 ·cases j
def Vr(P:Program)(t:TypeId)(h:AR):AV→Option AV
 | .r (.str s)=>match P.underlying t with
  | some .string=>some (.r (.int .i64 s.length))
  | _=>none
 | .r (.sl j)=>match HX P t with
  | some _=>some (.r (.int .i64 j.length))
  | none=>none
 | .own id g=>match HX P t,hget h id with
  | some _,some (.arr l _ _ j)=>if l=g then some (.r (.int .i64 j.length)) else none
  | _,_=>none
 | .cst (.slice none 0 0)=>match HX P t with
  | some _=>some (.r (.int .i64 0))
  | none=>none
 | _=>none
theorem uP{t}{x}{a v}(l:o.op=.call { callee:=.builtin .len,args:=#[x],argTypes:=#[t] })(u:Ev c R x a)(j:Vr P t h a=some v):AP P c o R h v:=by
 unfold Vr at j
 split at j
 ·split at j
  ·rename_i w;cases j;exact gR l w u
  ·cases j
 ·split at j
  ·rename_i q hg;obtain⟨e,sz,b⟩:=q;cases j;exact cH l (IP hg).slice u
  ·cases j
 ·split at j
  ·rename_i q E F A I hg B
   obtain⟨e,sz,b⟩:=q
   split at j
   ·rename_i C;subst C;cases j;exact aI l (IP hg).slice u B
   ·cases j
  ·cases j
 ·split at j
  ·rename_i q hg;obtain⟨e,sz,b⟩:=q;cases j;exact jn l (IP hg).slice u
  ·cases j
 ·cases j
def Xn(P:Program)(t l:TypeId):AV→Option AV
 | .r (.int _ n)=>match P.underlying t,P.underlying l with
  | some _,some (.int j)=>some (.r (.int j (j.wrap n)))
  | _,_=>none
 | _=>none
theorem rz{t l}{x}{a v}(q:o.op=.convert t l x)(u:Ev c R x a)(j:Xn P t l a=some v):AP P c o R h v:=by
 unfold Xn at j
 split at j
 ·split at j
  ·rename_i d B w A;cases j;exact gG q w A u
  ·cases j
 ·cases j
end
section
variable{P:Program}{c:Bool}{o:Oper}{R:AY}{h:AR}
def Tb(R:AY)(j:Nat):Option Operand→Option Nat
 | none=>some j
 | some x=>match Ax R x with
  | .r (.int _ z)=>if 0≤z then some z.toNat else none
  | _=>none
theorem Z9{d m}{x}(j:Tb R d x=some m):QA c R d x m:=by
 unfold Tb at j
 split at j
 ·cases j;rfl
 ·rename_i x
  have l:=BQ c R x
  split at j
  ·rename_i k z q
   rw[q] at l
   split at j
   ·rename_i u;cases j;exact⟨k,z,l,λ_=>u,rfl⟩
   ·cases j
  ·cases j
def S5(R:AY)(j:Int):Option Operand→Option Int
 | none=>some j
 | some x=>match Ax R x with
  | .r (.int _ z)=>some z
  | _=>none
theorem aE{d m}{x}(j:S5 R d x=some m):HK c R d x m:=by
 unfold S5 at j
 split at j
 ·cases j;rfl
 ·rename_i x
  have l:=BQ c R x
  split at j
  ·rename_i k z q;rw[q] at l;cases j;exact⟨k,l⟩
  ·cases j
def U4(P:Program)(R:AY)(t:TypeId)(q u:Option Operand):AV→Option AV
 | .r (.sl j)=>match HX P t with
  | some (_,sz,_)=>match Tb R 0 q,Tb R j.length u with
   | some l,some m=>if(l≤m∧m≤j.length)∧(j.all λrow=>Nat.beq row.length sz)=true then some (.r (.sl ((j.drop l).take (m-l)))) else none
   | _,_=>none
  | none=>none
 | .r (.str s)=>match P.underlying t with
  | some .string=>match S5 R 0 q,S5 R s.length u with
   | some l,some m=>match B8 s l m with
    | some r=>some (.r (.str r))
    | none=>none
   | _,_=>none
  | _=>none
 | _=>none
theorem nx{t}{x}{B C}{a v}(E:o.op=.slice t x B C none)(F:Ev c R x a)(j:U4 P R t B C a=some v):AP P c o R h v:=by
 unfold U4 at j
 split at j
 ·split at j
  ·rename_i e sz b hg
   split at j
   ·rename_i l m u w
    split at j
    ·rename_i A
     cases j
     exact gk E (IP hg).slice F (Z9 u) (Z9 w) (λ_=>A.1.1) (λ_=>A.1.2) (λrow q=>wj (wx.1 A.2 row q))
    ·cases j
   ·cases j
  ·cases j
 ·split at j
  ·rename_i I
   split at j
   ·rename_i l m u w
    split at j
    ·rename_i r J;cases j;exact IY E I F (aE u) (aE w) (λ_=>J)
    ·cases j
   ·cases j
  ·cases j
 ·cases j
def Xf(P:Program)(t:TypeId)(f:Nat):AV→Option AV
 | .agg j=>match Uk P t f with
  | some off=>j[off]?
  | none=>none
 | _=>none
theorem lY{t}{x}{f}{a v}(l:o.op=.field t x f)(q:Ev c R x a)(j:Xf P t f a=some v):AP P c o R h v:=by
 unfold Xf at j
 split at j
 ·split at j
  ·rename_i off u;exact OS l (nR u) q j
  ·cases j
 ·cases j
theorem Ks c R:∀xs:List Operand,G6 c R xs (xs.map (Ax R))
 | []=>trivial
 | x::xs=>⟨BQ c R x,Ks c R xs⟩
def Tu(P:Program):List Field→Option (List (Nat × Nat))
 | []=>some []
 | f::j=>match HR P f.type,Tu P j with
  | some (_,sz,_),some r=>some ((f.offset,sz)::r)
  | _,_=>none
def WD(P:Program)(t:TypeId):Option (List (Nat × Nat) × List Value):=match P.underlying t with
 | some (.struct j)=>match Tu P j.toList,HR P t with
  | some l,some (some (.agg q),_,_)=>some (l,q.toList)
  | _,_=>none
 | _=>none
theorem Z3:∀ {u:List Field} {l:List (Nat × Nat)},Tu P u=some l→∀w,(u.mapM (m:=Sem) λf=>do pure (f.offset,← sizeOf f.type)).run P w=.ok l w
 | [],l,hp,w=>by cases hp;rfl
 | f::u,l,hp,w=>by
  unfold Tu at hp
  split at hp
  ·rename_i E sz b r j A
   cases hp
   have B:=Z3 A w
   obtain⟨i,q,C⟩:∃i,P.info? f.type=some i∧i.size=sz:=by
    unfold HR at j
    cases q:P.info? f.type with
    | none=>rw[q] at j;cases j
    | some i=>rw[q] at j;simp only[yK,wu,wz] at j;exact⟨i,rfl,j.2.1⟩
   rw[List.mapM_cons]
   simp only[Sem.run_bind,EM q,Result.andThen_ok,B,Sem.run_pure,C]
  ·cases hp
theorem nY{t}{l}{q}(j:WD P t=some (l,q)):DE P t l q:=by
 unfold WD at j
 split at j
 ·rename_i F u
  split at j
  ·rename_i A B sz b C E
   cases j
   refine DE.of u (λw=>?_) (sz:=sz) (b:=b) (by simpa[HR] using E)
   rw[Array.mapM_eq_mapM_toList]
   have:=Z3 C w
   simp only[Sem.run_map,this]
   rfl
  ·cases j
 ·cases j
def Td(R:AY)(j:List (Nat × Nat))(len:Nat):List (Nat × Operand)→Option (List (Nat × AV))
 | []=>some []
 | (i,x)::r=>match j[i]?,Td R j len r with
  | some (off,sz),some q=>if(sz=(BX (Ax R x)).length∧Nat.ble (off+(BX (Ax R x)).length) len=true)∧(BX (Ax R x)).all AV.one=true then some ((off,Ax R x)::q) else none
  | _,_=>none
theorem iv{j}{len} : ∀ {u:List (Nat × Operand)} {q:List (Nat × AV)},Td R j len u=some q→OP c R j len u q
 | [],q,hp=>by cases hp;trivial
 | (i,x)::r,q,hp=>by
  unfold Td at hp
  split at hp
  ·rename_i off sz B w A
   split at hp
   ·rename_i l;cases hp
    exact⟨by rw[w,l.1.1],l.1.2,l.2,BQ c R x,iv A⟩
   ·cases hp
  ·cases hp
def YE(P:Program)(R:AY)(t:TypeId)(l:List (Nat × Operand)):Option AV:=match WD P t with
 | some (u,j)=>match Td R u j.length l with
  | some q=>some (.agg (Mb (j.map IQ) q))
  | none=>none
 | none=>none
theorem jk{t}{parts:Array (Nat × Operand)}{v}(l:o.op=.build t parts)(j:YE P R t parts.toList=some v):AP P c o R h v:=by
 unfold YE at j
 split at j
 ·rename_i A B u
  split at j
  ·rename_i q w;cases j;exact fP l (nY u) (iv w) rfl
  ·cases j
 ·cases j
def Ve(P:Program)(R:AY)(h:AR):Call→Option AV
 | ⟨.builtin .len,⟨[x]⟩,⟨[t]⟩⟩=>Vr P t h (Ax R x)
 | ⟨.builtin .min,⟨[x,y]⟩,_⟩=>match Ax R x,Ax R y with
  | .r (.int k m),.r (.int j n)=>if k=j then some (.r (.int k (min m n))) else none
  | _,_=>none
 | ⟨.builtin .max,⟨[x,y]⟩,_⟩=>match Ax R x,Ax R y with
  | .r (.int k m),.r (.int j n)=>if k=j then some (.r (.int k (max m n))) else none
  | _,_=>none
 | ⟨.value l,⟨[x,y]⟩,_⟩=>match Ax R l with
  | .fn f []=>match P.funcs[f]? with
   | some fn=>match VX fn with
    | true=>match Ax R x,Ax R y with
     | .r (.str s),.r (.int .u8 m)=>some (.r (.int .i64 (Iu s m.toNat.toUInt8 0)))
     | _,_=>none
    | false=>none
   | none=>none
  | _=>none
 | _=>none
theorem uL{F}{v}(B:o.op=.call F)(j:Ve P R h F=some v):AP P c o R h v:=by
 unfold Ve at j
 split at j
 ·rename_i x t;exact uP B (BQ c R x) j
 ·rename_i x y u
  have l:=BQ c R x
  have q:=BQ c R y
  split at j
  ·rename_i k m I n w A
   rw[w] at l;rw[A] at q
   split at j
   ·rename_i C;subst C;cases j;exact LS B l q
   ·cases j
  ·cases j
 ·rename_i x y u
  have l:=BQ c R x
  have q:=BQ c R y
  split at j
  ·rename_i k m I n w A
   rw[w] at l;rw[A] at q
   split at j
   ·rename_i C;subst C;cases j;exact XD B l q
   ·cases j
  ·cases j
 ·rename_i J x y u
  have l:=BQ c R x
  have q:=BQ c R y
  split at j
  ·rename_i f E
   split at j
   ·rename_i fn M
    split at j
    ·rename_i O
     split at j
     ·rename_i s m w A
      rw[w] at l;rw[A] at q
      cases j
      rw[oe]
      exact tO B M O (by rw[← E];exact BQ c R J) l q
     ·cases j
    ·cases j
   ·cases j
  ·cases j
 ·cases j
def Ko(P:Program)(R:AY)(h:AR)(o:Oper):Option AV:=match o.op with
 | .move x=>some (Ax R x)
 | .assign x=>some (Ax R x)
 | .binOp op t x y _=>match Uj op (Ax R x) (Ax R y) with
  | some v=>some v
  | none=>match Vk op (Ax R x) (Ax R y) with
   | some v=>some v
   | none=>match WJ P op t (Ax R x) (Ax R y) with
    | some v=>some v
    | none=>Uf P op t (Ax R x) (Ax R y)
 | .unOp .not _ x=>match Ax R x with
  | .r (.bool b)=>some (.r (.bool (!b)))
  | _=>none
 | .unOp .neg _ x=>match Ax R x with
  | .r (.int k m)=>if k.wrap (-m) = -m then some (.r (.int k (-m))) else none
  | _=>none
 | .pick x y z=>VG R x y z
 | .extract x i=>match Ax R x with
  | .tup j=>j[i]?
  | _=>none
 | .nilCheck x=>Uc h (Ax R x)
 | .fieldAddr t x f=>VB P t f h (Ax R x)
 | .load t x=>WA P t h (Ax R x)
 | .indexAddr t x i=>Wa P t h (Ax R x) (Ax R i)
 | .index t x i=>Vb P t (Ax R x) (Ax R i)
 | .field t x f=>Xf P t f (Ax R x)
 | .convert t l x=>Xn P t l (Ax R x)
 | .slice t x q u none=>U4 P R t q u (Ax R x)
 | .makeFunc (.func f) ⟨[]⟩ w=>some (.fn f (w.toList.map (Ax R)))
 | .build t parts=>YE P R t parts.toList
 | .call A=>Ve P R h A
 | _=>none
theorem Ky{v}(l:Ko P R h o=some v):AP P c o R h v:=by
 unfold Ko at l
 split at l
 ·rename_i x j;cases l;exact ST j (BQ c R x)
 ·rename_i x j;cases l;exact DQ j (BQ c R x)
 ·rename_i op t x y B j
  split at l
  ·rename_i A u;cases l;exact sU j (BQ c R x) (BQ c R y) u
  ·split at l
   ·rename_i A u;cases l;exact ss j (BQ c R x) (BQ c R y) u
   ·split at l
    ·rename_i A u;cases l;exact sa j (BQ c R x) (BQ c R y) u
    ·exact mf j (BQ c R x) (BQ c R y) l
 ·rename_i t x j
  have q:=BQ c R x
  split at l
  ·rename_i b w;rw[w] at q;cases l;exact dT j q
  ·cases l
 ·rename_i t x j
  have q:=BQ c R x
  split at l
  ·rename_i k m w
   rw[w] at q
   split at l
   ·rename_i C;cases l;exact oV j q C
   ·cases l
  ·cases l
 ·rename_i x y z j;exact tj j l
 ·rename_i x i j
  have q:=BQ c R x
  split at l
  ·rename_i F w;rw[w] at q;exact bZ j q l
  ·cases l
 ·rename_i x j;exact uO j (BQ c R x) l
 ·rename_i t x f j;exact nf j (BQ c R x) l
 ·rename_i t x j;exact qF j (BQ c R x) l
 ·rename_i t x i j;exact rV j (BQ c R x) (BQ c R i) l
 ·rename_i t x i j;exact ti j (BQ c R x) (BQ c R i) l
 ·rename_i t x f j;exact lY j (BQ c R x) l
 ·rename_i t B x j;exact rz j (BQ c R x) l
 ·rename_i t x I J j;exact nx j (BQ c R x) l
 ·rename_i f E j;cases l;exact N9 j (Ks c R E.toList)
 ·rename_i t parts j;exact jk j l
 ·rename_i M j;exact uL j l
 ·cases l
end
section
variable{P:Program}{o:Oper}{R:AY}{h:AR}{n:Nat}
def So(R:AY)(sz:Nat):Nat→List (Nat × Operand)→Option (List (List RV))
 | _,[]=>some []
 | i,(j,x)::r=>match HQ (Ax R x),So R sz (i+1) r with
  | some row,some l=>if j=i∧row.length=sz then some (row::l) else none
  | _,_=>none
theorem gf{c}{sz} : ∀ {A:List (Nat × Operand)} {i:Nat} {l:List (List RV)},So R sz i A=some l→JL c R i A l∧∀row∈l,row.length=sz
 | [],i,l,hp=>by cases hp;exact⟨trivial,by simp⟩
 | (j,x)::r,i,l,hp=>by
  unfold So at hp
  split at hp
  ·rename_i row u C E
   split at hp
   ·rename_i B;cases hp
    obtain⟨F,I⟩:=gf (c:=c) E
    refine⟨⟨B.1,⟨_,BQ c R x,C⟩,F⟩,λq w=>?_⟩
    rcases wo.1 w with rfl | w
    ·exact B.2
    ·exact I q w
   ·cases hp
  ·cases hp
def WB(R:AY)(h:AR)(sz:Nat)(x:Operand):Option (List (List RV)):=match Ax R x with
 | .r (.sl j)=>if(j.all λrow=>Nat.beq row.length sz)=true then some j else none
 | .own id g=>match hget h id with
  | some (.arr q _ l j)=>if q=g∧l=sz then some j else none
  | _=>none
 | .cst (.slice none 0 0)=>some []
 | _=>none
theorem bE{c}{sz}{x}{w}(j:WB R h sz x=some w):ME c R h x sz w:=by
 unfold WB at j
 have l:=BQ c R x
 split at j
 ·rename_i A q
  rw[q] at l
  split at j
  ·rename_i u;cases j;exact .inl ⟨l,λ_ row B=>wj (wx.1 u row B)⟩
  ·cases j
 ·rename_i id g q
  rw[q] at l
  split at j
  ·rename_i C
   split at j
   ·rename_i u;obtain⟨rfl,rfl⟩:=u;cases j;exact .inr (.inl ⟨_,_,_,l,C⟩)
   ·cases j
  ·cases j
 ·rename_i q
  rw[q] at l
  cases j;exact .inr (.inr ⟨l,rfl⟩)
 ·cases j
def Vh(P:Program)(R:AY)(h:AR)(n:Nat)(s x:Operand)(t:TypeId):Option (AV × AR × Nat):=match HX P t with
 | some (e,sz,l)=>match WB R h sz x with
  | some j=>match Ax R s with
   | .own id g=>match hget h id with
    | some (.arr w A q u)=>if((w=g∧A=e)∧q=sz)∧(u.length+j.length) * l≤140737488355328∧u.length+j.length≤9223372036854775807 then
      some (.own id n,(id,some (.arr n e sz (u++j)))::h,n+1) else none
    | _=>none
   | .cst (.slice none 0 0)=>if j.length * l≤140737488355328∧j.length≤9223372036854775807 then some (.own n n,(n,some (.arr n e sz j))::h,n+1) else none
   | _=>none
  | none=>none
 | none=>none
theorem vP{s x}{t}{r}(w:o.op=.call { callee:=.builtin .append,args:=#[s,x],argTypes:=#[t,t] })(j:Vh P R h n s x t=some r):BH P true o R h n r.1 r.2.1 r.2.2:=by
 unfold Vh at j
 have l:=BQ true R s
 split at j
 ·rename_i e sz B hg
  split at j
  ·rename_i I A
   split at j
   ·rename_i id g u
    rw[u] at l
    split at j
    ·rename_i C
     split at j
     ·rename_i q;obtain⟨⟨⟨rfl,rfl⟩,rfl⟩,E,F⟩:=q
      cases j
      exact fm w (IP hg) l C (bE A) E F
     ·cases j
    ·cases j
   ·rename_i u
    rw[u] at l
    split at j
    ·rename_i q;cases j
     exact fE n w (IP hg) l (bE A) q.1 q.2
    ·cases j
   ·cases j
  ·cases j
 ·cases j
def Ut(P:Program)(R:AY)(h:AR)(n:Nat)(t:TypeId)(x y:Operand):Option (AV × AR × Nat):=match Ax R x with
 | .ptr id g i k=>match VD P t with
  | some sz=>match hget h id with
   | some (.box j e u)=>if(((j=g∧i=0)∧(BX (Ax R y)).length=sz)∧(BX (Ax R y)).all AV.one=true)∧Nat.ble (k+sz) u.length=true then
     some (.any,(id,some (.box g e (GG u k (BX (Ax R y)))))::h,n) else none
   | some (.arr j e l w)=>match HQ (Ax R y),w[i]? with
    | some q,some row=>if(j=g∧q.length=sz)∧k+q.length≤row.length then some (.any,(id,some (.arr g e l (w.set i (Ku row k q))))::h,n) else none
    | _,_=>none
   | _=>none
  | none=>none
 | _=>none
theorem ls{x y}{t}{r}(C:o.op=.store t x y)(j:Ut P R h n t x y=some r):BH P true o R h n r.1 r.2.1 r.2.2:=by
 unfold Ut at j
 have q:=BQ true R x
 have E:=BQ true R y
 split at j
 ·rename_i id g i k I
  rw[I] at q
  split at j
  ·rename_i sz F
   split at j
   ·rename_i u
    split at j
    ·rename_i w;obtain⟨⟨⟨⟨rfl,rfl⟩,A⟩,B⟩,J⟩:=w
     cases j
     exact YK C (ft F) q u E A B J
    ·cases j
   ·rename_i u
    split at j
    ·rename_i M row hd l
     split at j
     ·rename_i w;obtain⟨⟨rfl,A⟩,B⟩:=w
      cases j
      exact iD C (ft F) q u l E hd A B
     ·cases j
    ·cases j
   ·cases j
  ·cases j
 ·cases j
def Qe(P:Program)(R:AY)(h:AR)(n:Nat)(o:Oper):Option (AV × AR × Nat):=match o.op with
 | .store t x y=>Ut P R h n t x y
 | .alloc t=>match TG P t with
  | some z=>if(BX (Gf z)).all AV.one=true then some (.ptr n n 0 0,(n,some (.box n t (BX (Gf z))))::h,n+1) else none
  | none=>none
 | .box t x=>if(BX (Ax R x)).all AV.one=true then some (.ptr n n 0 0,(n,some (.box n t (BX (Ax R x))))::h,n+1) else none
 | .buildSlice t len parts=>match HX P t with
  | some (e,sz,_)=>match So R sz 0 parts.toList with
   | some j=>if j.length=len∧Nat.ble (len * sz) 16777216=true then some (.own n n,(n,some (.arr n e sz j))::h,n+1) else none
   | none=>none
  | none=>none
 | .makeSlice t l k=>match HX P t,Ax R l,Ax R k with
  | some (e,sz,b),.r (.int .i64 m),.r (.int .i64 u)=>match TG P e with
   | some z=>match HQ (Gf z) with
    | some q=>if(m=u∧0≤m)∧m * b≤281474976710656∧m≤9223372036854775807 then some (.own n n,(n,some (.arr n e sz (List.replicate m.toNat q)))::h,n+1) else none
    | none=>none
   | none=>none
  | _,_,_=>none
 | .call ⟨.builtin .append,⟨[s,x]⟩,⟨[t,w]⟩⟩=>if t=w then Vh P R h n s x t else none
 | _=>none
theorem Xw{r}(j:Qe P R h n o=some r):BH P true o R h n r.1 r.2.1 r.2.2:=by
 unfold Qe at j
 split at j
 ·rename_i t x y q;exact ls q j
 ·rename_i t q
  split at j
  ·rename_i z A
   split at j
   ·rename_i u;cases j;exact gS n q (cT A) u
   ·cases j
  ·cases j
 ·rename_i t x q
  split at j
  ·rename_i u;cases j;exact ZW n q (BQ true R x) u
  ·cases j
 ·rename_i t len parts q
  split at j
  ·rename_i e sz b hg
   split at j
   ·rename_i E w
    split at j
    ·rename_i u;cases j
     obtain⟨M,O⟩:=gf (c:=true) w
     exact Ys n q (IP hg) M u.1 O u.2
    ·cases j
   ·cases j
  ·cases j
 ·rename_i t l k q
  split at j
  ·rename_i e sz b m m' hg T U
   have F:=BQ true R l
   have I:=BQ true R k
   rw[T] at F;rw[U] at I
   split at j
   ·rename_i z A
    split at j
    ·rename_i J B
     split at j
     ·rename_i u;obtain⟨⟨rfl,V⟩,X,Y⟩:=u;cases j
      obtain⟨ii,Z,C⟩:=cT A
      exact bQ n q (IP hg) ⟨ii,z,Z,C,B⟩ F I V X Y
     ·cases j
    ·cases j
   ·cases j
  ·cases j
 ·rename_i s x t t' q
  split at j
  ·rename_i ht;subst ht;exact vP q j
  ·cases j
 ·cases j
end
section
variable{P:Program}{ops:Array Oper}{rest:List Oper}{s:St}{K:St→Prop}{o:Oper}
def CE(P:Program)(ops:Array Oper)(rest:List Oper)(s:St)(K:St→Prop):Prop:=
 ∀(j:Cx) (a:Act) (w:World),D6 j s a w→∀Q:Exit→Act→World→Prop,¬ LetsOut Q→(∀l q w',K l→D6 j l q w'→Q .normal q w')→wpListIn (zF none) 0 P ops Q rest a w
theorem CE.nil(h:K s):CE P ops [] s K:=λ_ a w j _ _ l=>l s a w h j
theorem CE.weak{s'}(j:Ag s s')(h:CE P ops rest s' K):CE P ops rest s K:=λl a w q=>h l a w (j _ _ _ q)
theorem CE.cons{K1}(h:AL P ops [o] s K1)(V:∀O,K1 O→CE P ops rest O K):CE P ops (o::rest) s K:=by
 intro T a w X Q j Y
 have u:=h T a w X (λe F w'=>match e with | .normal=>wpListIn (zF none) 0 P ops Q rest F w' | e=>Q e F w') λZ F w' hk I=>V Z hk T F w' I Q j Y
 unfold wpList at u
 unfold wpListIn
 split
 ·rename_i J
  rw[wU J] at u
  rcases u with u | u
  ·have U:=Ux (z:=none) (.inl rfl) u
   refine⟨U.1,?_⟩
   have q:=U.2
   generalize (o.semAt (zF none).round a.eval).run P w=r at q ⊢
   cases r with
   | ok x w'=>
    cases x with
    | enter f args=>
     refine⟨q.1,q.2.mono λe M A=>?_⟩
     cases e with
     | returned v=>exact A
     | panicked ch=>exact A
     | outgrown=>exact absurd (by obtain⟨B,C,E⟩:=A;exact⟨B,C,E⟩) j
    | row a1 args=>exact⟨q.1,q.2⟩
    | round l f t a2 b=>
     refine⟨q.1,q.2.mono λe M A=>?_⟩
     cases e with
     | returned v=>exact A
     | panicked ch=>exact A
     | outgrown=>exact absurd (by obtain⟨B,C,E⟩:=A;exact⟨B,C,E⟩) j
    | value v=>exact q
    | skip=>exact q
    | defer d=>exact q
    | _=>exact q.elim
   | halt x w'=>cases x<;>first | exact q | exact q.elim
  ·exact absurd (by obtain⟨_,B,C,E⟩:=u;exact⟨B,C,E⟩) j
 ·rename_i J
  rw[ne J] at u
  exact⟨λ_ _=>trivial,u⟩
theorem bK{Q}{K}{a:Act}{w}{z}(l:z=none∨HC o=true)(h:o.wpIn (zF none) 0 P a w K Q):o.wpIn (zF z) 0 P a w K Q:=by
 refine⟨λ_ _=>trivial,?_⟩
 have j:=h.2
 rw[show(zF z).round=z from rfl,WZ l]
 rw[show(zF none).round=none from rfl,WZ (.inl rfl)] at j
 generalize (execOp a.eval o).run P w=r at j ⊢
 cases r with
 | ok x w'=>cases x<;>exact j
 | halt x w'=>cases x<;>exact j
theorem Xj{Q}{z} : ∀(l:List Oper) (a:Act) (w:World),(z=none∨l.all HC=true)→wpListIn (zF none) 0 P ops Q l a w→wpListIn (zF z) 0 P ops Q l a w
 | [],_,_,_,h=>h
 | o::l,a,w,A,h=>by
  have q:z=none∨HC o=true:=A.imp id λh=>by simp only[zf,wY] at h;exact h.1
  have j:z=none∨l.all HC=true:=A.imp id λh=>by simp only[zf,wY] at h;exact h.2
  unfold wpListIn at h ⊢
  split
  ·rename_i u
   rw[wU u] at h
   exact bK q (Oper.wpIn_mono (λa w h=>Xj l a w j h) h)
  ·rename_i u
   rw[ne u] at h
   exact⟨λ_ _=>trivial,Xj l _ w j h.2⟩
theorem vf{id}{l:List Oper}{Q}(h:CE P l.toArray l s (Q .normal)):AW P (.region id l.toArray false) Q s:=by
 intro z q u a w A
 exact wpIn_region_lit (Xj l a w (q.imp _root_.id λh=>by simpa[Cj] using h) (h u a w A _ Jt λB E w' C j=>⟨by simp,B,C,j⟩))
end
theorem vc{x:Cx}(l:x.ok){id g N}{w}{A:List Nat}{j B}{C}{E}{v}(F:x.H id=some (.lp g w N A j B C E))(q:AS x (.yld id g) v) :
  ∃(b:Nat) (r:Loop),x.β id=some (b,1)∧v=.func (.yield b) #[] #[]∧x.w.heap[b]?=some (.loop r)∧r.params=A.toArray∧r.assign=j∧r.body=B∧r.state=C∧r.pending=E∧r.tmps.size=N∧∀t,AS x (get w t) (r.tmps.getD t undef):=by
 obtain⟨_,b,r,I,J,M⟩:=l.obj _ _ F
 cases q with
 | yld _ _ q=>
  obtain⟨T,cap,u,O⟩:=q _ F rfl
  rw[I] at u
  simp only[wu,wz] at u
  obtain⟨rfl,rfl⟩:=u
  exact⟨b,r,I,O,J,M⟩
theorem Vv{x:Cx}(l:x.ok){id g N b}{B}{C}{j E}{T st'}{U pd'}{r}(u:x.H id=some (.lp g B N C j E T U))(q:x.β id=some (b,1))(V:x.w.heap[b]?=some (.loop r)) :
  x.le { x with w:=x.w.putObj b (.loop { r with state:=st',pending:=pd' }),H:=λi=>if id=i then some (.lp g B N C j E st' pd') else x.H i } ∧
  ({ x with w:=x.w.putObj b (.loop { r with state:=st',pending:=pd' }),H:=λi=>if id=i then some (.lp g B N C j E st' pd') else x.H i } : Cx).ok:=by
 obtain⟨hg,b',r',F,O,X,Y,Z,k6,k7,k8,k9⟩:=l.obj _ _ u
 rw[q] at F
 simp only[wu,wz] at F
 obtain⟨rfl,_⟩:=F
 rw[V] at O;cases O
 have w:=(l.own id _ b 1 u q).1
 have A:=Fw l id (.lp g B N C j E st' pd') (x.w.putObj b (.loop { r with state:=st',pending:=pd' })) (some (b,1)) x.n (by rw[World.putObj_size];exact wn _) rfl rfl rfl
  (λc I J=>World.putObj_heap_other λe=>J _ 1 u (by rw[e];exact q)) (λc k I=>by
   simp only[wu,wz] at I
   obtain⟨rfl,rfl⟩:=I
   exact⟨by rw[World.putObj_size];exact w,.inr ⟨_,1,u,q⟩⟩) (wn _) hg (λ_=>⟨_,u,rfl,rfl,q.symm⟩)
  (λM=>⟨b,{ r with state:=st',pending:=pd' },rfl,World.putObj_heap_same w,X,Y,Z,rfl,rfl,k8,λt=>(k9 t).mono M⟩)
 have e:(λi=>if id=i then some (b,1) else x.β i)=x.β:=by
  funext i
  split
  ·rename_i h;subst h;exact q.symm
  ·rfl
 rw[e] at A
 exact A
def UL:List Nat→List AV→AY→AY
 | p::j,b::l,e=>UL j l ((p,b)::e)
 | _,_,e=>e
theorem iT{x} : ∀(l:List Nat) (bs:List AV) (us:List Value) (e:AY) (t:Array Value),bs.length=l.length→us.length=l.length→(∀(i:Nat) (b:AV) (u:Value),bs[i]?=some b→us[i]?=some u→AS x b u)→(∀p∈l,p<t.size)→(∀j,AS x (get e j) (t.getD j undef)) →
  ((l.zip us).foldl (λt (p:Nat × Value)=>t.setIfInBounds p.1 p.2) t).size=t.size∧∀j,AS x (get (UL l bs e) j) (((l.zip us).foldl (λt (p:Nat × Value)=>t.setIfInBounds p.1 p.2) t).getD j undef)
 | [],bs,us,e,t,_,_,_,_,w=>by
  cases bs<;>cases us<;>exact⟨rfl,w⟩
 | p::l,[],us,e,t,h,_,_,_,w=>by cases h
 | p::l,b::bs,[],e,t,_,h,_,_,w=>by cases h
 | p::l,b::bs,u::us,e,t,C,E,A,B,w=>by
  have hp:=B p (wZ ..)
  obtain⟨F,I⟩:=iT (x:=x) l bs us ((p,b)::e) (t.setIfInBounds p u) (by simpa using C) (by simpa using E) (λi b u J M=>A (i+1) b u (by simpa using J) (by simpa using M))
   (λq O=>by rw[Array.size_setIfInBounds];exact B q (we _ O)) (λj=>by
    rw[Dh,NA hp]
    split
    ·exact A 0 b u rfl rfl
    ·exact w j)
  exact⟨by simpa using F,I⟩
def gu(id g:Nat)(C:Bool→AR→Nat→Prop):Exit→St→Prop
 | .normal,s=>∃l N q j u,hget s.h id=some (.lp g l N q j u .busy none)∧C true ((id,some (.lp g l N q j u .ready none))::s.h) s.n
 | .ret,s=>∃l N q j u,hget s.h id=some (.lp g l N q j u .busy none)∧C false ((id,some (.lp g l N q j u .done (some .ret)))::s.h) s.n
 | .exit i,s=>∃l N q j u,hget s.h id=some (.lp g l N q j u .busy none)∧C false ((id,some (.lp g l N q j u .done (some (.exit i))))::s.h) s.n
 | _,_=>False
def XH(P:Program)(id g:Nat)(w:Code)(C:Bool→AR→Nat→Prop):Exit→St→Prop
 | .normal,s=>∃q N u j l,hget s.h id=some (.lp g q N u j l .ready none)∧AW P w (gu id g C) ⟨s.e,(id,some (.lp g q N u j l .busy none))::s.h,s.n,s.N⟩
 | _,_=>False
section
variable{P:Program}{ops:Array Oper}{rest:List Oper}{s:St}{K:St→Prop}{o:Oper}
theorem lb{z:Cx}{id g N b f}{A e1}{w:List Nat}{j u}{r:Loop}{h}{n}{C}{tmps:Array Value}(a0:z.ok)(hH:z.H=hget h)(hn:z.n=n)(hh:hget h id=some (.lp g A N w j u .ready none))(hβ:z.β id=some (b, 1))
 (hb:z.w.heap[b]?=some (.loop r)) (hr:r.params=w.toArray∧r.assign=j∧r.body=u∧r.state=.ready∧r.pending=none) (hsz:tmps.size=N) (he:∀t, AS z (get e1 t) (tmps.getD t undef)) (a6:Cj j=true∧Cj u=true)
 (hw:AW P j (XH P id g u C) ⟨e1, h, n, N⟩):RoundIn (zF none) (0 - 1) P b f tmps j u z.w λe w' => ∃(x:Bool) (y:Cx) (h':AR) (n':Nat), e=.returned (.bool x)∧y.w=w'∧z.le y∧y.ok∧y.H=hget h'∧y.n=n'∧C x h' n' := by
  have ai:g<z.n := (a0.obj id (.lp g A N w j u .ready none) (by rw[hH];exact hh)).1
  have I:∀ {y:Cx} {A:AY} {N:Nat} {w:List Nat} {j u:Code} {Z:LoopState} {pd:Option Code}, z.le y→y.H id=some (.lp g A N w j u Z pd)→y.β id=some (b, 1) := by
    intro y A N w j u Z pd aj hy
    obtain⟨o', J, M, h3, h4⟩ := aj.H id _ hy ai
    rw[h4, hβ]
  have O:∀ {y:Cx} {A:AY} {N:Nat} {w:List Nat} {j u:Code} {Z:LoopState} {pd:Option Code}, y.ok→y.H id=some (.lp g A N w j u Z pd)→y.β id=some (b, 1)→∃r:Loop, y.w.heap[b]?=some (.loop r)∧r.state=Z∧r.pending=pd := by
    intro y A N w j u Z pd hy J M
    obtain⟨_, b', r', k1, k2, k3, k4, k5, k6, k7, _⟩ := hy.obj _ _ J
    rw[M] at k1
    simp only[wu, wz] at k1
    obtain⟨rfl, _⟩ := k1
    exact⟨r', k2, k6, k7⟩
  refine roundIn_of_wpIn (F := zF none) trivial (wpIn_mono (hw (some b) (.inr a6.1) z { tmps := tmps, defers := [] } z.w ⟨_, rfl, hsz, z, rfl, .refl z, a0, hH, hn, he⟩) λe a1 w1 ⟨ho, s1, hq, ak⟩ => ?_)
  obtain⟨al, an, ao, y1, aq, T, U, a7, ar, av⟩ := ak
  subst aq
  cases e with
  | normal =>
    obtain⟨A, N, w, j, aw, ax, ay⟩ := hq
    have E:y1.H id=some (.lp g A N w j aw .ready none) := by rw[a7];exact ax
    have a8 := I T.le E
    obtain⟨r1, aa, ab, ac⟩ := O U E a8
    obtain⟨t1, t2⟩ := Vv (st' := .busy) (pd' := none) U E a8 aa
    have ad := run_beginRound (P := P) aa ab
    have ae:({ r1 with state := .busy } : Loop) = { r1 with state := .busy, pending := none } := by rw[← ac]
    rw[ae] at ad
    refine⟨_, ad, ?_⟩
    refine wpIn_mono (ay (some b) (.inr a6.2) z a1 _ ⟨al, an, ao, _, rfl, T.trans t1, t2, by rw[a7];funext i;simp only[Cf], ar, λt => (av t).mono t1⟩) λe a2 w2 ⟨b5, s2, B, az⟩ => ?_
    obtain⟨b6, b7, b8, y2, b0, V, X, af, b1, b9⟩ := az
    subst b0
    have Y:∀(q:Option Code) (A:AY) (N:Nat) (w:List Nat) (j u:Code), hget s2.h id=some (.lp g A N w j u .busy none)→C q.isNone ((id, some (.lp g A N w j u (if q.isNone then .ready else .done) q))::s2.h) s2.n →
        ∃v w', (Instr.endRound b q).run P y2.w=.ok v w'∧∃(x:Bool) (y:Cx) (h':AR) (n':Nat), (Ending.returned v)=.returned (.bool x)∧y.w=w'∧z.le y∧y.ok∧y.H=hget h'∧y.n=n'∧C x h' n' := by
      intro q A N w j u b2 hc
      have F:y2.H id=some (.lp g A N w j u .busy none) := by rw[af];exact b2
      have ag := I V.le F
      obtain⟨r2, ah, b3, b4⟩ := O X F ag
      obtain⟨u1, u2⟩ := Vv (st' := if q.isNone then .ready else .done) (pd' := q) X F ag ah
      exact⟨_, _, run_endRound q ah, q.isNone, _, _, _, rfl, rfl, V.le.trans u1, u2, by rw[af];funext i;simp only[Cf], b1, hc⟩
    cases e with
    | normal => obtain⟨A, N, w, j, u, J, M⟩ := B;exact Y none A N w j u J M
    | ret => obtain⟨A, N, w, j, u, J, M⟩ := B;exact Y (some .ret) A N w j u J M
    | exit i => obtain⟨A, N, w, j, u, J, M⟩ := B;exact Y (some (.exit i)) A N w j u J M
    | goto l => exact B.elim
    | panic ch => exact B.elim
    | outgrown => exact B.elim
  | exit i => exact hq.elim
  | goto l => exact hq.elim
  | ret => exact hq.elim
  | panic ch => exact hq.elim
  | outgrown => exact hq.elim
theorem ta{o:Oper}{u}{xs:Array Operand}{j}{a:Act}{l}{w}(A:o.op=.call { callee:=.value u,args:=xs,argTypes:=j })(q:a.eval u=.func (.yield l) #[] #[]):(execOp a.eval o).run P w=(Instr.yield l (xs.map a.eval)).run P w:=by
 unfold execOp
 rw[A]
 simp only[resolve,q,Deferred.ofValue,Sem.run_bind,Sem.run_pure,Result.andThen_ok,invoke]
 simp
end
open Go.RowKit
section
variable{P:Program}{ops:Array Oper}{rest:List Oper}{s:St}{K:St→Prop}{o:Oper}
theorem wF{id g N}{U}{u:List Nat}{q M}{fo}{xs:Array Operand}{V}(bs:List AV)(hg:o.guard=none)(hd:∀d, o.dst=some d→Nat.blt d s.N=true)
 (ho:o.op=.call { callee := .value fo, args := xs, argTypes := V }) (X:Ev true s.e fo (.yld id g)) (hx:G6 true s.e xs.toList bs) (hh:hget s.h id=some (.lp g U N u q M .ready none))
 (Y:Nat.beq bs.length u.length=true) (Z:(u.all λp => Nat.blt p N)=true) (a0:(Cj q&&Cj M)=true)
 (hw:AW P q (XH P id g M λb h' n' => CE P ops rest { e := (match o.dst with | some d => (d, .r (.bool b))::s.e | none => s.e), h := h', n := n', N := s.N } K) ⟨UL u bs U, s.h, s.n, N⟩):CE P ops (o::rest) s K := by
  intro c0 a w ⟨ds, B, hsz, y, a1, a2, C, hH, hn, O⟩ Q E hQ
  subst a1
  refine wpListIn_plain hg λK' a6 => ?_
  obtain⟨F, a7⟩ := hx.rep rfl O
  obtain⟨b, r, hβ, hv, hb, r1, r2, r3, r4, r5, r6, r7⟩ := vc C (by rw[hH];exact hh) (X.rep O rfl)
  refine⟨λ_ _ => trivial, ?_⟩
  rw[show(zF none).round=none from rfl, Oper.semAt_none, ta ho hv]
  have a8:(xs.map a.eval).size=r.params.size := by
    rw[r1]
    have := wj Y
    simp only[Array.size_map, y9]
    rw[← this]
    simpa using F.symm
  rw[run_yield hb a8]
  have j:((r.params.zip (xs.map a.eval)).foldl (λtmps (x:Nat × Value) => tmps.setIfInBounds x.1 x.2) r.tmps)=(u.zip (xs.toList.map a.eval)).foldl (λt (p:Nat × Value) => t.setIfInBounds p.1 p.2) r.tmps := by
    rw[r1, ← Array.foldl_toList]
    simp
  obtain⟨k1, k2⟩ := iT (x := y) u bs (xs.toList.map a.eval) U r.tmps (wj Y) (by have := wj Y;rw[← this];simpa using F.symm) a7 (λp hp => by rw[r6];exact Ck (wx.1 Z p hp)) r7
  have I:Cj q=true∧Cj M=true := by simpa using a0
  refine⟨λe => (by cases e), ?_⟩
  have hR := lb (f := r.fn) (b := b) (tmps := (u.zip (xs.toList.map a.eval)).foldl (λt (p:Nat × Value) => t.setIfInBounds p.1 p.2) r.tmps) C hH hn hh hβ hb ⟨r1, r2, r3, r4, r5⟩ (by rw[k1];exact r6) k2 I hw
  have T := j
  rw[r2, r3]
  rw[show(r.params.zip (xs.map a.eval)).foldl (λtmps (x:Tmp × Value) => match x with | (t, a) => tmps.setIfInBounds t a) r.tmps=(u.zip (xs.toList.map a.eval)).foldl (λt (p:Nat × Value) => t.setIfInBounds p.1 p.2) r.tmps from j]
  refine hR.mono λe w' ⟨x, z, h', n', he', aa, A, J, ab, ac, hc⟩ => ?_
  subst he'
  subst aa
  refine a6 _ _ ?_
  refine hc c0 (a.put o.dst (.bool x)) z.w ⟨ds, ?_, ?_, z, rfl, a2.trans A, J, ab, ac, ?_⟩ Q E hQ
  · cases l:o.dst<;>simpa[Act.put, l] using B
  · cases l:o.dst<;>simpa[Act.put, l] using hsz
  · cases l:o.dst with
    | none => exact O.mono A
    | some d =>
      have ad:d<a.tmps.size := by rw[hsz];exact Ck (hd d l)
      exact(O.mono A).put ad (.r (.bool x))
end
theorem vz{y:Cx}(j:y.ok) o:y.le { y with w:=y.w.alloc o,S:=λb=>y.S b∨b=y.w.heap.size } ∧ ({ y with w:=y.w.alloc o,S:=λb=>y.S b∨b=y.w.heap.size } : Cx).ok:=by
 have q:y.le { y with w:=y.w.alloc o,S:=λb=>y.S b∨b=y.w.heap.size }:=
  ⟨by simp,rfl,rfl,rfl,λb l=>Below.heap_alloc _ _ _ (l.elim (j.S_lt b) (j.F_lt b)),λb h=>.inl h,rfl,wn _,λid C h _=>⟨C,h,rfl,rfl,rfl⟩⟩
 have hsz:∀o:Obj,(y.w.alloc o).heap.size=y.w.heap.size+1:=λo=>World.size_alloc _ _
 refine⟨q,λb l=>?_,λb l=>?_,λb l B=>?_,λid u h=>?_,λid u b k w A=>?_,j.inj,j.tabs.le q⟩
 ·show b<(y.w.alloc o).heap.size
  rw[hsz]
  rcases l with l | l
  ·have:=j.S_lt b l;omega
  ·omega
 ·show b<(y.w.alloc o).heap.size
  rw[hsz];have:=j.F_lt b l;omega
 ·rcases l with l | l
  ·exact j.SF b l B
  ·have:=j.F_lt b B;omega
 ·obtain⟨w,A⟩:=j.obj id u h
  exact⟨w,A.mono q λb k l=>Below.heap_alloc _ _ _ (j.own id u b k h l).1⟩
 ·have:=j.own id u b k w A
  refine⟨by show b<(y.w.alloc o).heap.size;rw[hsz];omega,λl=>?_,this.2.2⟩
  rcases l with l | l
  ·exact this.2.1 l
  ·omega
section
variable{P:Program}{s:St}
def UW(P:Program)(Q:Exit→St→Prop)(s:St)(id:Nat)(_:AV)(h':AR)(l:Nat):Prop:=
 ∃w N A j B q u,hget h' id=some (.lp s.n w N A j B q u)∧q≠.busy∧match u with
  | none=>Q .normal ⟨s.e,(id,none)::h',l,s.N⟩
  | some c=>AW P c Q ⟨s.e,(id,none)::h',l,s.N⟩
theorem vq {g} {E : Array Tmp} {j F} {Q} {f} {fn : Func} {code} {caps : List AV} {N} id (hg : BG s.e g = .fn f caps) (hf : P.funcs[f]? = some fn) (hb : fn.body = some code) (I : (fn.name == "runtime.NumGoroutine") = false)
 (hN:fn.ntmps=N) (a0:Nat.blt caps.length N=true) (hw:AW P code (Gr P fn.results.toList (UW P Q s id)) ⟨DB 0 (.yld id s.n::caps), (id, some (.lp s.n s.e s.N E.toList j F .ready none))::s.h, s.n+1, N⟩) :
    AW P (.rangeFunc g E j F) Q s := by
  intro z hz c0 a w ⟨ds, a1, hsz, y, ao, l, a2, hH, hn, he⟩
  have aq:z=none := hz.resolve_right (by simp[Cj])
  subst aq
  subst ao
  have J := he.eval g
  rw[hg] at J
  generalize a6:a.eval g=gv at J
  cases J with
  | @fn _ _ Z ar av =>
  refine wpIn_rangeFunc λa7 _ => ?_
  obtain⟨q1, q2⟩ := vz a2 (.deferred (some []))
  have a8:∀r:Loop, r.params=E→r.assign=j→r.body=F→r.state=.ready→r.pending=none→r.tmps=a.tmps →
      ∃z:Cx, z.w=(y.w.alloc (.deferred (some []))).alloc (.loop r)∧y.le z∧z.ok∧z.H=hget ((id, some (.lp s.n s.e s.N E.toList j F .ready none))::s.h)∧z.n=s.n+1∧z.S y.w.heap.size∧z.β id=some (y.w.heap.size+1, 1) := by
    intro r e1 e2 e3 e4 e5 e6
    have aa := Fw q2 id (.lp s.n s.e s.N E.toList j F .ready none) ((y.w.alloc (.deferred (some []))).alloc (.loop r)) (some (y.w.heap.size+1, 1)) (s.n+1) (by simp) rfl rfl rfl
      (λc hc _ => Below.heap_alloc _ _ _ hc) (λc k hc => by
        simp only[wu, wz] at hc
        obtain⟨rfl, rfl⟩ := hc
        exact⟨by simp, .inl (by simp)⟩) (by show y.n≤s.n+1;omega) (WAJ _) (λaw => by
          have:s.n<y.n := aw
          omega)
      (λab => ⟨y.w.heap.size+1, r, rfl, by
        have := World.alloc_heap_new (y.w.alloc (.deferred (some []))) (.loop r)
        rwa [World.size_alloc] at this, by simp[e1], e2, e3, e4, e5, by rw[e6];exact hsz, λt => by rw[e6];exact((he t).mono q1).mono ab⟩)
    refine⟨_, rfl, q1.trans aa.1, aa.2, ?_, rfl, .inr rfl, by simp⟩
    funext i
    simp only[Cf]
    rw[hH]
  obtain⟨r, M⟩:∃r:Loop, r = { state := .ready, pending := none, fn := a7, tmps := a.tmps, params := E, assign := j, body := F, defers := y.w.heap.size } := ⟨_, rfl⟩
  obtain⟨x, ac, ad, ae, af, O, ag, ah⟩ := a8 r (by rw[M]) (by rw[M]) (by rw[M]) (by rw[M]) (by rw[M]) (by rw[M])
  have b7:x.H id=some (.lp s.n s.e s.N E.toList j F .ready none) := by rw[af, Cf, wU rfl]
  have ax:x.w.heap[y.w.heap.size]?=some (.deferred (some [])) := by
    rw[ac];exact(Below.heap_alloc _ _ _ (by simp)).trans (World.alloc_heap_new _ _)
  have ay:AS x (.yld id s.n) (.func (.yield (y.w.heap.size+1)) #[] #[]) := .yld (by rw[O];omega) rfl λo ho _ => ⟨_, _, ah, rfl⟩
  have T:Hh x (.yld id s.n::caps) (#[Value.func (.yield (y.w.heap.size+1)) #[] #[]]++Z).toList := by
    refine⟨by simp[ar], λi c u U h2 => ?_⟩
    cases i with
    | zero =>
      simp only[List.getElem?_cons_zero, wu] at U
      have V:some (Value.func (.yield (y.w.heap.size+1)) #[] #[])=some u := by simpa using h2
      cases V;subst U;exact ay
    | succ i =>
      have V:Z[i]?=some u := by simpa[Array.getElem?_append] using h2
      exact(av i c u (by simpa using U) V).mono ad
  have q:∀(args:Array Value) (w:World), (callFunc f args).run P w=.ok (.enter f args) w := λargs w => by
    simp only[callFunc, Sem.run_bind, run_program, Result.andThen_ok, hf, I, hb]
    simp[Sem.run_pure]
  refine⟨y.w.heap.size+1, [{ target := .collected y.w.heap.size, args := #[] }], x.w, { target := .fn (.func f) Z, args := #[.func (.yield (y.w.heap.size+1)) #[] #[]] }, x.w, f,
    #[.func (.yield (y.w.heap.size+1)) #[] #[]]++Z, x.w, ?_, ?_, λ_ _ => trivial, ?_, λe => (by cases e), ?_⟩
  · rw[ac, M];exact run_enterLoop_outer _ _ _ _ _
  · simp only[resolve, a6, Deferred.ofValue]
    simp[Act.eval, go_sem]
  · simp[invoke, q]
  · have az := cF (vs := #[.func (.yield (y.w.heap.size+1)) #[] #[]]++Z) hf hb hN (show(AV.yld id s.n::caps).length≤N from Ck a0) ae af O T hw
    have b0:CallsIn (zF none) (0 - 1) P f (#[.func (.yield (y.w.heap.size+1)) #[] #[]]++Z) x.w _ := callsIn_wide.2 az
    refine b0.mono λe w' ⟨u, v, rv, h', n', he', b1, X, B, ai, b8, _, e0, N1, b2, b3, b4, st, pd, k1, k2, k3⟩ => ?_
    subst he'
    subst b1
    have Y:v.H id=some (.lp s.n e0 N1 b2 b3 b4 st pd) := by rw[ai];exact k1
    have aj:v.β id=some (y.w.heap.size+1, 1) := by
      obtain⟨o', _, _, _, h4⟩ := X.H id _ Y (show s.n<x.n by rw[O];omega)
      rw[h4];exact ah
    obtain⟨_, b', r', m1, m2, _, _, _, m6, m7, _⟩ := B.obj _ _ Y
    rw[aj] at m1
    simp only[wu, wz] at m1
    obtain⟨rfl, _⟩ := m1
    have ak := run_endLoop (P := P) m2 (by rw[m6];exact k2)
    obtain⟨t1, t2⟩ := Vv (st' := .exhausted) (pd' := r'.pending) B Y aj m2
    have b5:({ r' with state := .exhausted, pending := r'.pending } : Loop) = { r' with state := .exhausted } := rfl
    rw[b5] at t1 t2
    obtain⟨f1, f2⟩ := jS t2 (hget ((id, none)::h')) (λi o ho => by
      rw[Cf] at ho
      split at ho
      · cases ho
      · rename_i b6
        show(if id=i then _ else v.H i)=_
        rw[ne b6, ai];exact ho) n' (by show v.n≤n';omega)
    have A := ((ad.trans X).trans t1).trans f1
    have C:D6 c0 ⟨s.e, (id, none)::h', n', s.N⟩ { a with defers := [{ target := .collected y.w.heap.size, args := #[] }]++a.defers } (v.w.putObj (y.w.heap.size+1) (.loop { r' with state := .exhausted })) := by
      refine⟨{ target := .collected y.w.heap.size, args := #[] } :: ds, by rw[← a1];rfl, hsz, _, rfl, ⟨l.le.trans A, List.nodup_cons.2 ⟨λal => ?_, l.marks.1⟩, λd hd => ?_⟩, f2, rfl, rfl, he.mono A⟩
      · obtain⟨D, U, _, h3, _⟩ := l.marks.2 _ al
        have := a2.S_lt D h3
        simp only[Deferred.mk.injEq, Target.collected.injEq] at U
        omega
      · have an := (X.trans t1).trans f1
        rcases wo.1 hd with rfl | hd
        · exact⟨_, rfl, l.le.size, an.S _ ag, (an.blk _ (.inl ag)).trans ax⟩
        · obtain⟨D, U, h2, h3, h4⟩ := l.marks.2 d hd
          exact⟨D, U, h2, A.S D h3, (A.blk D (.inl h3)).trans h4⟩
    refine⟨r'.pending, _, ak, ?_⟩
    split
    · rename_i hp
      rw[m7] at hp
      subst hp
      exact⟨by simp, _, k3, C⟩
    · rename_i c hp
      rw[m7] at hp
      subst hp
      exact k3 none (.inl rfl) c0 _ _ C
end
section
variable{P:Program}{ops:Array Oper}{Q:Exit→Act→World→Prop}{md:Region.Mode}
theorem so(q:¬ LetsOut Q){i}{K}{a}{w}(h:wpOp P ops Q i K a w):wpOpIn (zF none) 0 P ops Q i K a w:=by
 unfold wpOp at h
 unfold wpOpIn
 split
 ·rename_i j;rw[j] at h;exact h
 ·rename_i o j
  rw[j] at h
  simp only at h
  split
  ·rename_i l
   rw[wU l] at h
   rcases h with h | h
   ·exact Ux (z:=none) (.inl rfl) h
   ·exact absurd h.2 q
  ·rename_i l
   rw[ne l] at h
   exact⟨λ_ _=>trivial,h⟩
theorem f9(j:¬ LetsOut Q){w}{n g}{L}(l:∀listed a,L listed a→wpAnyIn (zF none) 0 P md ops Q g listed a w) :
  ∀(f:Nat) (listed:Array Bool) (a:Act),wpAnyL P md ops w n L f listed a→wpAnyIn (zF none) 0 P md ops Q (f+g) listed a w
 | 0,listed,a,h=>by rw[xE];exact l _ _ h
 | f+1,listed,a,h=>by
  rw[show f+1+g=(f+g)+1 by omega]
  exact⟨λq=>absurd q h.1,λi u=>so j (wpOp_of_stOp (λA B=>f9 j l f _ A B) (h.2 i u).2)⟩
theorem fX:∀(l:List Oper) (k:Nat) (listed:Array Bool) (a:Act) (w:World),(∀j,l[j]?=ops[k+j]?) →
  Region.seqB md ops l.length k listed=true→wpListIn (zF none) 0 P ops Q l a w→wpAnyIn (zF none) 0 P md ops Q l.length listed a w
 | [],_,_,_,_,_,hB,h=>⟨by simpa[Region.seqB] using hB,h⟩
 | o::l,k,listed,a,w,u,hB,h=>by
  have C:ops[k]?=some o:=by simpa using(u 0).symm
  simp only[wm,Region.seqB,wY,wV] at hB
  refine⟨λA=>(by rw[hB.1] at A;cases A),λi B=>?_⟩
  rw[hB.1] at B
  have q:i=k:=by simpa using B
  subst q
  have E:wpOpIn (zF none) 0 P ops Q i (wpListIn (zF none) 0 P ops Q l) a w:=by unfold wpOpIn;simp only[C];exact h
  exact wpOpIn_mono (λF w' I=>fX l (i+1) _ F w' (λj=>by have:=u (j+1);simpa[yf,zY 1 j] using this) hB.2 I) E
theorem US{z}(j:z=none∨ops.toList.all HC=true):∀(l:List Nat) (a:Act) (w:World),wpOpsIn (zF none) 0 P ops Q l a w→wpOpsIn (zF z) 0 P ops Q l a w
 | [],_,_,h=>h
 | i::rest,a,w,h=>by
  simp only[wpOpsIn] at h ⊢
  split
  ·rename_i q;rw[q] at h;exact US j rest a w h
  ·rename_i o q
   rw[q] at h
   simp only at h
   split
   ·rename_i u
    rw[wU u] at h
    exact bK (j.imp _root_.id λA=>wx.1 A o (xT (by rw[yU];exact q))) (Oper.wpIn_mono (λa w h=>US j rest a w h) h)
   ·rename_i u
    rw[ne u] at h
    exact⟨λ_ _=>trivial,US j rest _ w h.2⟩
theorem wA{s}{id}{l Z l2:List Oper}{Q} n(hm:P.follows .mixedOrders=true)(hB:Region.lexTailB .any l.toArray n=true)(h1:l.take n=Z)(h2:l.drop n=l2)
 (h:AT P l.toArray Z s (λs' => CE P l.toArray l2 s' (Q .normal))):AW P (.region id l.toArray true) Q s := by
  intro z0 M J a w ⟨_, u, hsz, y, O, T, U, hH, hn, he⟩
  subst O
  subst h1;subst h2
  obtain⟨r1, r2⟩ := RR U
  simp only[Region.lexTailB, wY, wV] at hB
  obtain⟨⟨⟨⟨A, B⟩, hs⟩, hc⟩, C⟩ := hB
  have a0:n<l.length := by simpa using B
  have q:(l.take n).length=n := by simp;omega
  have E:(l.drop n).length=l.toArray.size - n := by simp
  have F:HeadInv .any l.toArray n (Array.replicate l.toArray.size false) :=
    ⟨by simp, λj oj _ hl => (by rw[getD_replicate_false] at hl;cases hl), λt _ ht => getD_in (by simpa using ht) (getD_replicate_false _ _)⟩
  have H := wpAnyL_lex (md := .any) (g := l.toArray.size - n) A hs hc B (l.take n) 0 _ a (λj hj => by
    have V:j<n := by rw[q] at hj;exact hj
    simp[V]) (by simpa using q) F (by rw[q];exact C)
    (h _ a r2 hH hn hsz (he.mono r1) (λI => wpListIn (zF none) 0 P l.toArray (Dr J Q) (l.drop n) I { y.w with drawn := y.w.drawn+1 }) λs' I k1 k2 k3 k4 k5 k6 k7 =>
      k1 J I _ ⟨_, k6.trans u, by rw[k5, k4], _, rfl, T.trans r1, r2, by rw[k2];exact hH, by rw[k3];exact hn, k7⟩ _ Jt λX a1 a2 k Y => ⟨by simp, X, k, Y⟩)
  refine wpIn_region_draw λt => ?_
  simp only[Region.schedule, hm, zD, yN]
  refine US (M.imp _root_.id λh => h) _ a _ (wpAnyIn_sound l.toArray.size t _ a _ ?_)
  have := f9 (Q := Dr J Q) (g := l.toArray.size - n) Jt (λlisted I hL => by
    have := fX (md := .any) (Q := Dr J Q) (l.drop n) n listed I { y.w with drawn := y.w.drawn+1 } (λj => by simp[yA]) (by rw[E];exact hL.1) hL.2
    rwa [E] at this) _ _ _ H
  rw[q, show n+(l.toArray.size - n)=l.toArray.size by omega] at this
  exact this
end
end Go.Proofs.YtdafahjmopdleaaGreatDoor.Al

namespace Go.Proofs.YtdafahjmopdleaaGreatDoor.Al
inductive Fr where
 | seq (y:Code)
 | block (id:Nat)
 | loop (n:Nat) (x:Code)
 | call (ops:Array Oper) (rest:List Oper) (d:Option Nat) (e:AY) (N:Nat) (rs:List ResultVar)
 | rng (id:Nat) (s:St) (rs:List ResultVar)
 | rndA (id g:Nat) (bd:Code) (ops:Array Oper) (rest:List Oper) (d:Option Nat) (e:AY) (N:Nat)
 | rndB (id g:Nat) (ops:Array Oper) (rest:List Oper) (d:Option Nat) (e:AY) (N:Nat)
def FE(d:Option Nat)(r:AV)(e:AY):AY:=match d with
 | some t=>(t,r)::e
 | none=>e
def Cw(P:Program)(Q:Exit→St→Prop):List Fr→Exit→St→Prop
 | []=>Q
 | .seq y::ks=>En (AW P y (Cw P Q ks)) (Cw P Q ks)
 | .block id::ks=>O6 id (Cw P Q ks)
 | .loop n x::ks=>En (Hl P x (Cw P Q ks) n) (Cw P Q ks)
 | .call ops rest d e N q::ks=>Gr P q λr j l=>CE P ops rest { e:=FE d r e,h:=j,n:=l,N:=N } (Cw P Q ks .normal)
 | .rng id s q::ks=>Gr P q (UW P (Cw P Q ks) s id)
 | .rndA id g u ops rest d e N::ks=>XH P id g u λb j l=>CE P ops rest { e:=FE d (.r (.bool b)) e,h:=j,n:=l,N:=N } (Cw P Q ks .normal)
 | .rndB id g ops rest d e N::ks=>gu id g λb j l=>CE P ops rest { e:=FE d (.r (.bool b)) e,h:=j,n:=l,N:=N } (Cw P Q ks .normal)
inductive DI where
 | code (c:Code) (ks:List Fr) (s:St)
 | ops (ops:Array Oper) (rest:List Oper) (ks:List Fr) (s:St)
 | out (x:Exit) (ks:List Fr) (s:St)
def DD(P:Program)(Q:Exit→St→Prop):DI→Prop
 | .code c ks s=>AW P c (Cw P Q ks) s
 | .ops ops rest ks s=>CE P ops rest s (Cw P Q ks .normal)
 | .out x ks s=>Cw P Q ks x s
def Ia(R:AY)(ops:Array Oper)(o:Oper):Option Bool:=match o.guard with
 | none=>none
 | some (j,l)=>match (ops[j]?).bind (·.dst) with
  | some q=>match BG R (.tmp q) with
   | .r (.bool b)=>some (b==l)
   | .whn u (.r (.bool b))=>some (u&&(b==l))
   | _=>none
  | none=>none
theorem GF{R}{ops}{o}{c}(h:Ia R ops o=some c):CI R ops o c:=by
 unfold Ia at h
 split at h
 ·cases h
 ·rename_i j q hg
  split at h
  ·rename_i w u
   split at h
   ·rename_i b l;cases h;exact .one hg u l
   ·rename_i A b l;cases h;exact .two hg u l
   ·cases h
  ·cases h
def SH(P:Program)(s:St):ResultVar→Option AV
 | .tmp t=>some (get s.e t)
 | .cell a t=>match get s.e a with
  | .ptr id g 0 0=>match hget s.h id with
   | some (.box l _ j)=>if l=g then match LV P t with
     | true=>match j with
      | [r]=>some r
      | _=>none
     | false=>match LU P t with
      | some sz=>if sz=j.length then some (.agg j) else none
      | none=>none
    else none
   | _=>none
  | _=>none
theorem bU{P}{s}{x}{r}(h:SH P s x=some r):Ii P x s r:=by
 unfold SH at h
 split at h
 ·cases h;rfl
 ·split at h
  ·rename_i id g hp
   split at h
   ·rename_i w e A j
    split at h
    ·rename_i hg;subst hg
     split at h
     ·rename_i l
      split at h
      ·cases h;exact .inl ⟨Qy l,id,_,_,hp,j⟩
      ·cases h
     ·split at h
      ·rename_i sz q
       split at h
       ·rename_i u;cases h;exact .inr ⟨_,rfl,by rw[← u];exact Qf q,id,_,_,hp,j⟩
       ·cases h
      ·cases h
    ·cases h
   ·cases h
  ·cases h
def Tv(P:Program)(s:St):List ResultVar→Option (List AV)
 | []=>some []
 | x::l=>match SH P s x,Tv P s l with
  | some r,some j=>some (r::j)
  | _,_=>none
theorem eB{P}{s} : ∀ {l:List ResultVar} {j:List AV},Tv P s l=some j→NS P l s j
 | [],j,h=>by cases h;trivial
 | x::l,j,h=>by
  unfold Tv at h
  split at h
  ·rename_i r q u w;cases h;exact⟨bU u,eB w⟩
  ·cases h
def LO(P:Program)(s:St):List ResultVar→Option AV
 | [x]=>SH P s x
 | l=>(Tv P s l).map .tup
theorem QL{P}{s}{l}{r}(h:LO P s l=some r):It P l s r:=by
 unfold LO at h
 split at h
 ·exact bU h
 ·rename_i A j
  rw[w0] at h
  obtain⟨q,u,rfl⟩:=h
  have w:=eB u
  unfold It
  split
  ·rename_i x;exact absurd rfl (j x)
  ·exact⟨q,rfl,w⟩
def R1(o:Oper):Bool:=match o.op with
 | .store _ _ _ | .alloc _ | .box _ _ | .buildSlice _ _ _ | .makeSlice _ _ _=>false
 | .call ⟨.builtin .len,_,_⟩ | .call ⟨.builtin .min,_,_⟩ | .call ⟨.builtin .max,_,_⟩=>true
 | .call _=>false
 | _=>true
def H7(P:Program)(ops:Array Oper):List Oper→St→Option St
 | [],s=>some s
 | o::rest,s=>match o.dst with
  | some d=>match Nat.blt d s.N with
   | true=>match o.guard with
    | none=>match Ko P s.e s.h o with
     | some v=>H7 P ops rest { e:=(d,v)::s.e,h:=s.h,n:=s.n,N:=s.N }
     | none=>none
    | some _=>match Ia s.e ops o with
     | some true=>match Ko P s.e s.h o with
      | some v=>H7 P ops rest { e:=(d,.whn true v)::s.e,h:=s.h,n:=s.n,N:=s.N }
      | none=>none
     | some false=>H7 P ops rest { e:=(d,.whn false (.r (.bool false)))::s.e,h:=s.h,n:=s.n,N:=s.N }
     | none=>none
   | false=>none
  | none=>none
theorem Rh{P}{ops}{K} : ∀ {l:List Oper} {s s':St},H7 P ops l s=some s'→K s'→AT P ops l s K
 | [],s,s',h,q=>by cases h;exact AT.nil q
 | o::rest,s,s',h,q=>by
  unfold H7 at h
  split at h
  ·rename_i d hd
   split at h
   ·rename_i u
    split at h
    ·rename_i hg
     split at h
     ·rename_i v w;exact AT.step hg hd u (Ky w) (Rh h q)
     ·cases h
    ·split at h
     ·rename_i j
      split at h
      ·rename_i v w;exact AT.stepW (GF j) hd u (Ky w) (Rh h q)
      ·cases h
     ·rename_i j;exact AT.stepW (GF j) hd u (AP.no rfl) (Rh h q)
     ·cases h
   ·cases h
  ·cases h
theorem Rv{P}{ops}{K} : ∀ {l:List Oper} {s s':St},H7 P ops l s=some s'→K s'→AQ P ops l s K
 | [],s,s',h,q=>by cases h;exact AQ.nil q
 | o::rest,s,s',h,q=>by
  unfold H7 at h
  split at h
  ·rename_i d hd
   split at h
   ·rename_i u
    split at h
    ·rename_i hg
     split at h
     ·rename_i v w;exact AQ.step hg hd u (Ky w) (Rv h q)
     ·cases h
    ·split at h
     ·rename_i j
      split at h
      ·rename_i v w;exact AQ.stepW (GF j) hd u (Ky w) (Rv h q)
      ·cases h
     ·rename_i j;exact AQ.stepW (GF j) hd u (AP.no rfl) (Rv h q)
     ·cases h
   ·cases h
  ·cases h
def Vf(P:Program)(ops:Array Oper)(ks:List Fr)(s:St):Option DI:=
 match ops.toList.all R1 with
 | true=>match Region.lexB .any ops with
  | true=>(H7 P ops ops.toList s).map (.out .normal ks ·)
  | false=>none
 | false=>
  let n:=(ops.toList.takeWhile R1).length
  match Region.lexTailB .any ops n with
  | true=>(H7 P ops (ops.toList.take n) s).map (.ops ops (ops.toList.drop n) ks ·)
  | false=>none
def Sw(P:Program)(ops:Array Oper)(o:Oper)(rest:List Oper)(ks:List Fr)(s:St)(l:Bool):Option DI:=
 match o.dst with
 | some d=>match Nat.blt d s.N with
  | true=>match Ko P s.e s.h o with
   | some v=>some (.ops ops rest ks { e:=(d,v)::s.e,h:=s.h,n:=s.n,N:=s.N })
   | none=>match Qe P s.e s.h s.n o with
    | some (v,u,w)=>some (.ops ops rest ks { e:=(d,v)::s.e,h:=u,n:=w,N:=s.N })
    | none=>match o.op with
     | .call ⟨.value A,q,_⟩=>match Ax s.e A with
      | .fn f j=>match P.funcs[f]? with
       | some fn=>match fn.body with
        | some code => if (fn.name == "runtime.NumGoroutine") = false ∧ Nat.ble (q.toList.map (Ax s.e) ++ j).length fn.ntmps = true then
          some (.code code (.call ops rest (some d) s.e s.N fn.results.toList::ks) ⟨DB 0 (q.toList.map (Ax s.e)++j),s.h,s.n,fn.ntmps⟩) else none
        | none=>none
       | none=>none
      | _=>none
     | _=>none
  | false=>none
 | none=>match l with
  | true=>none
  | false=>match Qe P s.e s.h s.n o with
   | some (_,u,w)=>some (.ops ops rest ks { e:=s.e,h:=u,n:=w,N:=s.N })
   | none=>match o.op with
    | .call ⟨.value A,q,_⟩=>match Ax s.e A with
     | .fn f j=>match P.funcs[f]? with
      | some fn=>match fn.body with
       | some code => if (fn.name == "runtime.NumGoroutine") = false ∧ Nat.ble (q.toList.map (Ax s.e) ++ j).length fn.ntmps = true then
         some (.code code (.call ops rest none s.e s.N fn.results.toList::ks) ⟨DB 0 (q.toList.map (Ax s.e)++j),s.h,s.n,fn.ntmps⟩) else none
       | none=>none
      | none=>none
     | _=>none
    | _=>none
def qU(N:Nat):Option Nat→Bool
 | some d=>Nat.blt d N
 | none=>true
def WQ(ops:Array Oper)(o:Oper)(rest:List Oper)(ks:List Fr)(s:St):Option DI:=match o.op with
 | .call ⟨.value w,q,_⟩=>match Ax s.e w with
  | .yld id g=>match hget s.h id with
   | some (.lp A B N l j u .ready none)=>if(A=g∧qU s.N o.dst=true)∧(Nat.beq (q.toList.map (Ax s.e)).length l.length=true∧(l.all λp=>Nat.blt p N)=true)∧(Cj j&&Cj u)=true then
     some (.code j (.rndA id g u ops rest o.dst s.e s.N::ks) ⟨UL l (q.toList.map (Ax s.e)) B,s.h,s.n,N⟩) else none
   | _=>none
  | _=>none
 | _=>none
def X0(P:Program)(g:Operand)(q:Array Tmp)(l u:Code)(ks:List Fr)(s:St):Option DI:=match BG s.e g with
 | .fn f j=>match P.funcs[f]? with
  | some fn=>match fn.body with
   | some code => if (fn.name == "runtime.NumGoroutine") = false ∧ Nat.blt j.length fn.ntmps = true then
     some (.code code (.rng s.n s fn.results.toList::ks) ⟨DB 0 (.yld s.n s.n::j),(s.n,some (.lp s.n s.e s.N q.toList l u .ready none))::s.h,s.n+1,fn.ntmps⟩) else none
   | none=>none
  | none=>none
 | _=>none
def SI(P:Program)(id:Nat)(j:St)(l:List ResultVar)(ks:List Fr)(s:St):Option DI:=match LO P s l with
 | some _=>match hget s.h id with
  | some (.lp g _ _ _ _ _ .busy _)=>none
  | some (.lp g _ _ _ _ _ _ q)=>if g=j.n then match q with
    | none=>some (.out .normal ks ⟨j.e,(id,none)::s.h,s.n,j.N⟩)
    | some c=>some (.code c ks ⟨j.e,(id,none)::s.h,s.n,j.N⟩)
   else none
  | _=>none
 | none=>none
def Ug(id g:Nat)(q:Code)(ops:Array Oper)(rest:List Oper)(d:Option Nat)(e:AY)(N:Nat)(ks:List Fr)(s:St):Option DI:=match hget s.h id with
 | some (.lp u w A B j l .ready none)=>if u=g then some (.code q (.rndB id g ops rest d e N::ks) ⟨s.e,(id,some (.lp g w A B j l .busy none))::s.h,s.n,s.N⟩) else none
 | _=>none
def XA(id g:Nat)(ops:Array Oper)(rest:List Oper)(d:Option Nat)(e:AY)(N:Nat)(ks:List Fr)(s:St)(x:Exit):Option DI:=match hget s.h id with
 | some (.lp A l q u j w .busy none)=>if A=g then match x with
   | .normal=>some (.ops ops rest ks { e:=FE d (.r (.bool true)) e,h:=(id,some (.lp g l q u j w .ready none))::s.h,n:=s.n,N:=N })
   | .ret=>some (.ops ops rest ks { e:=FE d (.r (.bool false)) e,h:=(id,some (.lp g l q u j w .done (some .ret)))::s.h,n:=s.n,N:=N })
   | .exit i=>some (.ops ops rest ks { e:=FE d (.r (.bool false)) e,h:=(id,some (.lp g l q u j w .done (some (.exit i))))::s.h,n:=s.n,N:=N })
   | _=>none
  else none
 | _=>none
def step(P:Program):DI→Option DI
 | .code c ks s=>match c with
  | .skip=>some (.out .normal ks s)
  | .ret=>some (.out .ret ks s)
  | .exit id=>some (.out (.exit id) ks s)
  | .seq x y=>some (.code x (.seq y::ks) s)
  | .block id x=>some (.code x (.block id::ks) s)
  | .loop x=>some (.code x (.loop 1000000 x::ks) s)
  | .cond b x y=>match BG s.e b with
   | .r (.bool true)=>some (.code x ks s)
   | .r (.bool false)=>some (.code y ks s)
   | _=>none
  | .region _ ops false=>some (.ops ops ops.toList ks s)
  | .region _ ops true=>Vf P ops ks s
  | .rangeFunc g w l q=>X0 P g w l q ks s
  | _=>none
 | .ops _ [] ks s=>some (.out .normal ks s)
 | .ops ops (o::rest) ks s=>match o.guard with
  | none=>match Sw P ops o rest ks s false with
   | some c=>some c
   | none=>WQ ops o rest ks s
  | some _=>match Ia s.e ops o with
   | some true=>Sw P ops o rest ks s true
   | some false=>match o.dst with
    | some d=>match Nat.blt d s.N with
     | true=>some (.ops ops rest ks { e:=(d,.whn false (.r (.bool false)))::s.e,h:=s.h,n:=s.n,N:=s.N })
     | false=>none
    | none=>some (.ops ops rest ks s)
   | none=>none
 | .out x (.seq y::ks) s=>match x with
  | .normal=>some (.code y ks s)
  | .ret=>some (.out .ret ks s)
  | .exit id=>some (.out (.exit id) ks s)
  | _=>none
 | .out x (.block id::ks) s=>match x with
  | .normal=>some (.out .normal ks s)
  | .ret=>some (.out .ret ks s)
  | .exit i=>if i=id then some (.out .normal ks s) else some (.out (.exit i) ks s)
  | _=>none
 | .out x (.loop n y::ks) s=>match x with
  | .normal=>match n with
   | n+1=>some (.code y (.loop n y::ks) s)
   | 0=>none
  | .ret=>some (.out .ret ks s)
  | .exit id=>some (.out (.exit id) ks s)
  | _=>none
 | .out x (.call ops rest d e N j::ks) s=>match x with
  | .normal=>(LO P s j).map λr=>.ops ops rest ks { e:=FE d r e,h:=s.h,n:=s.n,N:=N }
  | .ret=>(LO P s j).map λr=>.ops ops rest ks { e:=FE d r e,h:=s.h,n:=s.n,N:=N }
  | _=>none
 | .out x (.rng id u j::ks) s=>match x with
  | .normal=>SI P id u j ks s
  | .ret=>SI P id u j ks s
  | _=>none
 | .out x (.rndA id g q ops rest d e N::ks) s=>match x with
  | .normal=>Ug id g q ops rest d e N ks s
  | _=>none
 | .out x (.rndB id g ops rest d e N::ks) s=>XA id g ops rest d e N ks s x
 | .out _ [] _=>none
end Go.Proofs.YtdafahjmopdleaaGreatDoor.Al

set_option linter.unusedVariables false
namespace Go.Proofs.YtdafahjmopdleaaGreatDoor.Al
section
variable{P:Program}{Q:Exit→St→Prop}{ks:List Fr}{s:St}
theorem YI{ops}{rest}{K}{o:Oper}{d}{j}{v}{h'}{l}(hg:(j=false∧o.guard=none)∨CI s.e ops o true)(hd:o.dst=some d)(q:Nat.blt d s.N=true)
 (u:BH P true o s.e s.h s.n v h' l) (w:AL P ops rest { e := (d, v)::s.e, h := h', n := l, N := s.N } K):AL P ops (o::rest) s K := by
  rcases hg with ⟨_, hg⟩ | hg
  · exact AL.step hg hd q u w
  · exact Hz hg rfl hd q u w
theorem iU{ops}{o:Oper}{rest}{u}{c'}(hg:(u=false∧o.guard=none)∨(u=true∧CI s.e ops o true))(h:Sw P ops o rest ks s u=some c')(hc:DD P Q c') :
  CE P ops (o::rest) s (Cw P Q ks .normal):=by
 have one:∀ {E:St},AL P ops [o] s (λs2=>s2=E)→CE P ops rest E (Cw P Q ks .normal)→CE P ops (o::rest) s (Cw P Q ks .normal):=λC A=>CE.cons C λs2 e=>e ▸ A
 have I:(u=false∧o.guard=none)∨CI s.e ops o true:=hg.imp id λh=>h.2
 unfold Sw at h
 split at h
 ·rename_i d hd
  split at h
  ·rename_i U
   split at h
   ·rename_i v J;cases h
    exact one (YI I hd U ((Ky (c:=true) J).spec _) (AL.nil rfl)) hc
   ·split at h
    ·rename_i v h' n' J;cases h
     exact one (YI I hd U (Xw J) (AL.nil rfl)) hc
    ·split at h
     ·rename_i M V a0 X
      split at h
      ·rename_i f j F
       split at h
       ·rename_i fn Y
        split at h
        ·rename_i code Z
         split at h
         ·rename_i C;cases h
          have w:Ev true s.e M (.fn f j):=by rw[← F];exact BQ true s.e M
          rcases hg with ⟨_,hg⟩ | ⟨_,hg⟩
          ·exact CE.cons (vy (K:=λE=>CE P ops rest E (Cw P Q ks .normal)) j _ hg hd U X w (Ks true s.e V.toList) Y Z C.1 rfl C.2 (AW.mono hc λe s' q=>by
            cases e with
            | normal=>obtain⟨r,A,B⟩:=q;exact⟨r,A,AL.nil B⟩
            | ret=>obtain⟨r,A,B⟩:=q;exact⟨r,A,AL.nil B⟩
            | exit id=>exact q.elim
            | goto l=>exact q.elim
            | panic c=>exact q.elim
            | outgrown=>exact q.elim)) λ_ h=>h
          ·exact CE.cons (v7 (K:=λE=>CE P ops rest E (Cw P Q ks .normal)) j _ hg rfl hd U X w (Ks true s.e V.toList) Y Z C.1 rfl C.2 (λK' O=>AW.mono hc λe s' q=>by
            cases e with
            | normal=>obtain⟨r,A,B⟩:=q;exact⟨r,A,O _ _ _ (AL.nil B)⟩
            | ret=>obtain⟨r,A,B⟩:=q;exact⟨r,A,O _ _ _ (AL.nil B)⟩
            | exit id=>exact q.elim
            | goto l=>exact q.elim
            | panic c=>exact q.elim
            | outgrown=>exact q.elim)) λ_ h=>h
         ·cases h
        ·cases h
       ·cases h
      ·cases h
     ·cases h
  ·cases h
 ·rename_i hd
  split at h
  ·cases h
  ·have T:o.guard=none:=by
    rcases hg with ⟨_,hg⟩ | ⟨e,_⟩
    ·exact hg
    ·cases e
   split at h
   ·rename_i v h' n' J;cases h
    exact one (jM T hd (Xw J) (AL.nil rfl)) hc
   ·split at h
    ·rename_i M V a0 X
     split at h
     ·rename_i f j F
      split at h
      ·rename_i fn Y
       split at h
       ·rename_i code Z
        split at h
        ·rename_i C;cases h
         have w:Ev true s.e M (.fn f j):=by rw[← F];exact BQ true s.e M
         exact CE.cons (v6 (K:=λE=>CE P ops rest E (Cw P Q ks .normal)) j _ T hd X w (Ks true s.e V.toList) Y Z C.1 rfl C.2 (AW.mono hc λe s' q=>by
            cases e with
            | normal=>obtain⟨r,A,B⟩:=q;exact⟨r,A,AL.nil B⟩
            | ret=>obtain⟨r,A,B⟩:=q;exact⟨r,A,AL.nil B⟩
            | exit id=>exact q.elim
            | goto l=>exact q.elim
            | panic c=>exact q.elim
            | outgrown=>exact q.elim)) λ_ h=>h
        ·cases h
       ·cases h
      ·cases h
     ·cases h
    ·cases h
theorem sg{ops}{o:Oper}{rest}{q}(hg:o.guard=none)(h:WQ ops o rest ks s=some q)(hc:DD P Q q):CE P ops (o::rest) s (Cw P Q ks .normal):=by
 unfold WQ at h
 split at h
 ·rename_i u A B C
  split at h
  ·rename_i id g l
   split at h
   ·rename_i E U N V F X I
    split at h
    ·rename_i J
     obtain⟨⟨rfl,w⟩,⟨M,O⟩,T⟩:=J
     cases h
     have j:Ev true s.e u (.yld id E):=by rw[← l];exact BQ true s.e u
     exact wF _ hg (λd hd=>by rw[hd] at w;exact w) C j (Ks true s.e A.toList) I M O T hc
    ·cases h
   ·cases h
  ·cases h
 ·cases h
theorem o9{g}{l}{j q}{u}(h:X0 P g l j q ks s=some u)(hc:DD P Q u):AW P (.rangeFunc g l j q) (Cw P Q ks) s:=by
 unfold X0 at h
 split at h
 ·rename_i f w hg
  split at h
  ·rename_i fn B
   split at h
   ·rename_i code C
    split at h
    ·rename_i A;cases h
     exact vq _ hg B C A.1 rfl A.2 hc
    ·cases h
   ·cases h
  ·cases h
 ·cases h
theorem bS{id}{q}{u}{w}(h:SI P id q u ks s=some w)(hc:DD P Q w):∃r,It P u s r∧UW P (Cw P Q ks) q id r s.h s.n:=by
 unfold SI at h
 split at h
 ·rename_i r A
  refine⟨r,QL A,?_⟩
  split at h
  ·cases h
  ·rename_i g B N C j E F I l J
   split at h
   ·rename_i hg;subst hg
    refine⟨B,N,C,j,E,F,I,J,λe=>?_,?_⟩
    ·exact l e
    ·split at h
     ·cases h;exact hc
     ·cases h;exact hc
   ·cases h
  ·cases h
 ·cases h
theorem tF{id g}{q}{ops}{rest}{d}{e}{N}{u}(h:Ug id g q ops rest d e N ks s=some u)(hc:DD P Q u):Cw P Q (.rndA id g q ops rest d e N::ks) .normal s:=by
 unfold Ug at h
 split at h
 ·rename_i E w A B j l C
  split at h
  ·rename_i hg;subst hg;cases h
   exact⟨w,A,B,j,l,C,hc⟩
  ·cases h
 ·cases h
theorem pD{id g}{ops}{rest}{d}{e}{N}{x}{B}(h:XA id g ops rest d e N ks s x=some B)(hc:DD P Q B):Cw P Q (.rndB id g ops rest d e N::ks) x s:=by
 unfold XA at h
 split at h
 ·rename_i C l q u j w A
  split at h
  ·rename_i hg;subst hg
   split at h
   ·cases h;exact⟨l,q,u,j,w,A,hc⟩
   ·cases h;exact⟨l,q,u,j,w,A,hc⟩
   ·cases h;exact⟨l,q,u,j,w,A,hc⟩
   ·cases h
  ·cases h
 ·cases h
theorem tP(l:P.follows .mixedOrders=true){id}{ops:Array Oper}{q}(h:Vf P ops ks s=some q)(hc:DD P Q q):AW P (.region id ops true) (Cw P Q ks) s:=by
 unfold Vf at h
 split at h
 ·split at h
  ·rename_i hB
   rw[w0] at h
   obtain⟨u,j,rfl⟩:=h
   exact jQ (l:=ops.toList) l hB (Rv j hc)
  ·cases h
 ·dsimp only at h
  split at h
  ·rename_i hB
   rw[w0] at h
   obtain⟨u,j,rfl⟩:=h
   exact wA (l:=ops.toList) _ l hB rfl rfl (Rh j hc)
  ·cases h
theorem rY(B:P.follows .mixedOrders=true){c A}(h:step P c=some A)(hc:DD P Q A):DD P Q c:=by
 unfold step at h
 split at h
 ·split at h
  ·cases h;exact AW.skip hc
  ·cases h;exact AW.ret hc
  ·cases h;exact AW.exit hc
  ·cases h;exact AW.seq hc
  ·cases h;exact AW.block hc
  ·cases h;exact vl (1000000+1) (Hl.step hc)
  ·split at h
   ·rename_i q;cases h;exact AW.cond q (λ_=>hc) (λe=>by cases e)
   ·rename_i q;cases h;exact AW.cond q (λe=>by cases e) (λ_=>hc)
   ·cases h
  ·rename_i id ops;cases h;exact vf (l:=ops.toList) hc
  ·exact tP B h hc
  ·exact o9 h hc
  ·cases h
 ·cases h;exact CE.nil hc
 ·rename_i ops o rest ks s
  split at h
  ·rename_i hg
   split at h
   ·rename_i c C;cases h;exact iU (.inl ⟨rfl,hg⟩) C hc
   ·exact sg hg h hc
  ·split at h
   ·rename_i j;exact iU (.inr ⟨rfl,GF j⟩) h hc
   ·rename_i j
    split at h
    ·rename_i d hd
     split at h
     ·rename_i E;cases h;exact CE.cons (K1:=λl=>l=_) (Fv (GF j) rfl hd E (AL.nil rfl)) λl e=>e ▸ hc
     ·cases h
    ·rename_i hd;cases h;exact CE.cons (K1:=λl=>l=_) (ve (GF j) rfl hd (AL.nil rfl)) λl e=>e ▸ hc
   ·cases h
 ·split at h
  ·cases h;exact hc
  ·cases h;exact hc
  ·cases h;exact hc
  ·cases h
 ·split at h
  ·cases h;exact hc
  ·cases h;exact hc
  ·rename_i i
   split at h
   ·rename_i u;cases h;simp only[DD,Cw,O6];rw[wU u];exact hc
   ·rename_i u;cases h;simp only[DD,Cw,O6];rw[ne u];exact hc
  ·cases h
 ·split at h
  ·split at h
   ·cases h;exact Hl.step hc
   ·cases h
  ·cases h;exact hc
  ·cases h;exact hc
  ·cases h
 ·split at h
  ·rw[w0] at h
   obtain⟨r,w,rfl⟩:=h
   exact⟨r,QL w,hc⟩
  ·rw[w0] at h
   obtain⟨r,w,rfl⟩:=h
   exact⟨r,QL w,hc⟩
  ·cases h
 ·split at h
  ·exact bS h hc
  ·exact bS h hc
  ·cases h
 ·split at h
  ·exact tF h hc
  ·cases h
 ·exact pD h hc
 ·cases h
end
theorem jJ {P : Program} {f} {fn : Func} {code} {args : List AV} {r : AV} {N} (hf : P.funcs[f]? = some fn) (Y : fn.body = some code) (O : (fn.name == "runtime.NumGoroutine") = false) (hN : fn.ntmps = N) (hr : r.closed = true)
 (C:Dc args=true) (a2:args.length≤N) (hw:AW P code (FX P fn.results.toList r) ⟨DB 0 args, [], 0, N⟩):AM P f args r := by
  refine⟨⟨fn, hf, by rw[Y];rfl, O⟩, hr, λx I E Z B => ?_⟩
  have a0:I.size=args.length := by simpa using B.1
  have J:({ x with n := 0 } : Cx).ok :=
    ⟨E.S_lt, E.F_lt, E.SF, (λid o (A:x.H id=some o) => by rw[Z] at A;cases A), (λid o b k (A:x.H id=some o) => by rw[Z] at A;cases A), (λid a1 o o' b k k' (A:x.H id=some o) => by rw[Z] at A;cases A), Fm.same E.tabs rfl λ_ h => h⟩
  have T:D6 { x with n := 0 } ⟨DB 0 args, [], 0, N⟩ { tmps := I++Array.replicate (fn.ntmps - I.size) undef, defers := [] } x.w := by
    refine⟨_, rfl, by simp;omega, { x with n := 0 }, rfl, .refl _, J, by rw[Z];rfl, rfl, λt => ?_⟩
    rcases Rl args 0 t with h1 | ⟨j, a, h1, U, h3⟩
    · rw[h1];exact .any _
    · rw[h3]
      have hj:j<I.size := by rw[a0];exact(wc.1 U).1
      have ht:t=j := by omega
      subst ht
      have:(I++Array.replicate (fn.ntmps - I.size) undef).getD t undef=I[t] := by
        simp[Array.getD, hj]
        omega
      rw[this]
      exact JX (x := x) (y := { x with n := 0 }) rfl (λ_ h => h) (B.2 t a I[t] U (by simp[hj])) (LR C U)
  have V:∀ {e:Exit} {a:Act} {y:Cx} {s:St}, NW (Dd P s) fn.results.toList r→({ x with n := 0 } : Cx).le y→y.ok→y.H=hget s.h→y.n=s.n→Bz y s.e a→∃u, (results fn a.tmps).run P y.w=.ok u y.w∧∃u' y', Ending.returned u=.returned u'∧y'.w=y.w∧x.le y'∧y'.ok∧AS y' r u' := by
    intro e a y s M q w F _ he
    obtain⟨u, h1, U⟩ := aB (P := P) (fn := fn) (y := y) (z := y.frozen) (a := a) (Dd P s) (λx r h => Dd.rep w F he x r h) M
    have hz := UU w
    refine⟨u, h1, u, { y.frozen with n := x.n+y.n }, rfl, rfl, ?_, ?_, JX (x := y.frozen) (y := { y.frozen with n := x.n+y.n }) rfl (λ_ h => h) U hr⟩
    · exact⟨q.size, q.os, q.tape, q.output, q.blk, λb Y => .inl (q.S b Y), q.F, Nat.le_add_right _ _, λid o' A => by cases A⟩
    · exact⟨hz.S_lt, hz.F_lt, hz.SF, (λid o A => by cases A), (λid o b k A => by cases A), (λid a1 o o' b k k' A => by cases A), Fm.same hz.tabs rfl λ_ h => h⟩
  refine SN (c0 := { x with n := 0 }) hf Y J T (hw) λe s a y M q w F X he => ?_
  cases e with
  | normal => exact⟨.inl rfl, V (e := .normal) M q w F X he⟩
  | ret => exact⟨.inr rfl, V (e := .ret) M q w F X he⟩
  | exit id => exact M.elim
  | goto l => exact M.elim
  | panic ch => exact M.elim
  | outgrown => exact M.elim
def WW(j:List ResultVar):DI→Option Bool
 | .out .ret [] s=>match j with
  | [.tmp t]=>match get s.e t with
   | .r (.bool b)=>some b
   | _=>none
  | _=>none
 | .out .normal [] s=>match j with
  | [.tmp t]=>match get s.e t with
   | .r (.bool b)=>some b
   | _=>none
  | _=>none
 | _=>none
theorem qH{P}{j}{c}{b}(h:WW j c=some b):DD P (FX P j (.r (.bool b))) c:=by
 unfold WW at h
 split at h
 ·split at h
  ·split at h
   ·rename_i hg;cases h
    show Fz _ (get _ _) _
    rw[hg];exact .d rfl
   ·cases h
  ·cases h
 ·split at h
  ·split at h
   ·rename_i hg;cases h
    show Fz _ (get _ _) _
    rw[hg];exact .d rfl
   ·cases h
  ·cases h
 ·cases h
def Mu(id g:Nat)(xs:List (List RV)):AV→AV
 | .own j l=>if j=id∧l=g then .r (.sl xs) else .own j l
 | a=>a
def LL(id g:Nat)(xs:List (List RV)):AV→AV
 | .agg j=>.agg (j.map (Mu id g xs))
 | a=>Mu id g xs a
def Ss(id g:Nat)(xs:List (List RV)):Option Az→Option Az
 | some (.box j e l)=>some (.box j e (l.map (Mu id g xs)))
 | some (.hot _ _ _ _ _ _)=>none
 | o=>o
theorem cQ id g xs a:OU id g xs a (Mu id g xs a):=by
 unfold Mu
 split
 ·split
  ·rename_i h;obtain⟨rfl,rfl⟩:=h;exact .inr (.inr ⟨rfl,rfl⟩)
  ·exact .inl rfl
 ·exact .inl rfl
theorem Vd id g xs:∀cs:List AV,NJ id g xs cs (cs.map (Mu id g xs))
 | []=>trivial
 | a::l=>⟨cQ id g xs a,Vd id g xs l⟩
theorem pU id g xs a:W7 id g xs a (LL id g xs a):=by
 unfold LL
 split
 ·exact .inr ⟨_,_,rfl,rfl,Vd id g xs _⟩
 ·exact .inl (cQ id g xs _)
theorem mT id g xs o:Ul id g xs o (Ss id g xs o):=by
 unfold Ss
 split
 ·exact .inr (.inr (.inl ⟨_,_,_,_,rfl,rfl,Vd id g xs _⟩))
 ·exact .inr (.inl rfl)
 ·exact .inl rfl
theorem iG id g xs e:∀l:List Nat,Pn id g xs (l.map λt=>(t,LL id g xs (get e t))) e
 | []=>trivial
 | t::l=>⟨pU id g xs _,iG id g xs e l⟩
theorem eK id g xs h:∀l:List Nat,(∀i∈l,Nat.beq i id=false)→OT id g xs (l.map λi=>(i,Ss id g xs (hget h i))) h
 | [],_=>trivial
 | i::l,q=>⟨q i (wZ ..),mT id g xs _,eK id g xs h l λj u=>q j (we _ u)⟩
def Ti:List Nat→List Nat→List Nat
 | _,[]=>[]
 | CO,t::l=>match CO.any (Nat.beq t) with
  | true=>Ti CO l
  | false=>t::Ti (t::CO) l
def KD(id g:Nat)(xs:List (List RV))(s:St):St:=
 { e:=(Ti [] (s.e.map (·.1))).map λt=>(t,LL id g xs (get s.e t)),h:=((Ti [] (s.h.map (·.1))).filter λi=>!Nat.beq i id).map λi=>(i,Ss id g xs (hget s.h i)),n:=s.n,N:=s.N }
theorem TJ{id g}{e}{sz}{xs}{s:St}(h:hget s.h id=some (.arr g e sz xs)):Ag s (KD id g xs s):=
 Ag.frz id h (iG id g xs s.e _) (eK id g xs s.h _ λi j=>by
  have:=(zM.1 j).2
  simpa using this)
def P3(h:AR):AV→Option Nat
 | .own id g=>match hget h id with
  | some (.arr j _ _ _)=>if j=g then some id else none
  | _=>none
 | .agg l=>l.findSome? λa=>match a with
  | .own id g=>match hget h id with
   | some (.arr j _ _ _)=>if j=g then some id else none
   | _=>none
  | _=>none
 | _=>none
def gt(s:St)(o:Oper):Option Nat:=match o.op with
 | .buildSlice _ _ parts=>parts.toList.findSome? λp=>P3 s.h (Ax s.e p.2)
 | .store _ _ y=>P3 s.h (Ax s.e y)
 | .slice _ x _ _ _=>P3 s.h (Ax s.e x)
 | _=>none
def V9(P:Program)(c:DI):Option DI:=match step P c with
 | some j=>some j
 | none=>match c with
  | .ops ops (o::rest) ks s=>match gt s o with
   | some id=>match hget s.h id with
    | some (.arr g _ _ l)=>some (.ops ops (o::rest) ks (KD id g l s))
    | _=>none
   | none=>none
  | _=>none
section
variable{P:Program}{Q:Exit→St→Prop}
theorem eo(l:P.follows .mixedOrders=true){c j}(h:V9 P c=some j)(hc:DD P Q j):DD P Q c:=by
 unfold V9 at h
 split at h
 ·rename_i w q;cases h;exact rY l q hc
 ·split at h
  ·split at h
   ·rename_i id CQ
    split at h
    ·rename_i u;cases h;exact CE.weak (TJ u) hc
    ·cases h
   ·cases h
  ·cases h
end
section
variable{ops:Array Oper}{D:Nat→Bool}{G:Nat→Nat}{e:AY}{L:List PO}{t:Nat}
def Sj(ops:Array Oper)(i t:Nat):List PO→Nat→Bool
 | [],_=>true
 | p::L,k=>(match p.d with | some d=>!Nat.beq d t||wt ops 40 k i | none=>true)&&Sj ops i t L (k+1)
theorem bG{i}(w:BS ops D i):∀ {L:List PO} {k:Nat},Sj ops i t L k=true→F6 PO.wE D t L k
 | [],_,_=>λj p v h=>by simp at h
 | q::L,k,hB=>by
  simp only[Sj,wY] at hB
  obtain⟨l,C⟩:=hB
  intro j p v A u B
  cases j with
  | zero=>
   cases A
   rw[(Ok B).1] at l
   simp only[wh,xm,xv] at l u
   rcases l with l | l
   ·rw[WAM] at l;cases l
   ·rw[w.no l] at u;cases u
  | succ j=>
   exact bG w C j p v (by simpa using A) (by rwa [show k+1+j=k+(j+1) by omega]) B
theorem MO{i}(j:BS ops D i)(hB:Sj ops i t L 0=true){a}(l:get e t=a):get (CF D G e L) t=a:=(GV Dh L e 0 (bG j hB)).trans l
end
mutual
def GI:RV→RV→Bool
 | .int k n,.int k' n'=>(k=k')&&(n=n')
 | .bool b,.bool b'=>b==b'
 | .str s,.str s'=>decide (s=s')
 | .sl xs,.sl ys=>Lg xs ys
 | .any,.any=>true
 | _,_=>false
def Km:List RV→List RV→Bool
 | [],[]=>true
 | a::l,b::m=>GI a b&&Km l m
 | _,_=>false
def Lg:List (List RV)→List (List RV)→Bool
 | [],[]=>true
 | a::l,b::m=>Km a b&&Lg l m
 | _,_=>false
end
mutual
theorem il:∀ {a b:RV},GI a b=true→a=b
 | .int k n,.int k' n',h=>by simp only[GI,wY,wV] at h;rw[h.1,h.2]
 | .bool b,.bool b',h=>by simp only[GI,WAH] at h;rw[h]
 | .str s,.str s',h=>by simp only[GI,wV] at h;rw[h]
 | .sl xs,.sl ys,h=>by simp only[GI] at h;rw[Vl h]
 | .any,.any,_=>rfl
 | .int _ _,.bool _,h | .int _ _,.str _,h | .int _ _,.sl _,h | .int _ _,.any,h=>by simp[GI] at h
 | .bool _,.int _ _,h | .bool _,.str _,h | .bool _,.sl _,h | .bool _,.any,h=>by simp[GI] at h
 | .str _,.int _ _,h | .str _,.bool _,h | .str _,.sl _,h | .str _,.any,h=>by simp[GI] at h
 | .sl _,.int _ _,h | .sl _,.bool _,h | .sl _,.str _,h | .sl _,.any,h=>by simp[GI] at h
 | .any,.int _ _,h | .any,.bool _,h | .any,.str _,h | .any,.sl _,h=>by simp[GI] at h
theorem Um:∀ {a b:List RV},Km a b=true→a=b
 | [],[],_=>rfl
 | a::l,b::m,h=>by simp only[Km,wY] at h;rw[il h.1,Um h.2]
 | [],_::_,h=>by simp[Km] at h
 | _::_,[],h=>by simp[Km] at h
theorem Vl:∀ {a b:List (List RV)},Lg a b=true→a=b
 | [],[],_=>rfl
 | a::l,b::m,h=>by simp only[Lg,wY] at h;rw[Um h.1,Vl h.2]
 | [],_::_,h=>by simp[Lg] at h
 | _::_,[],h=>by simp[Lg] at h
end
def Wb:Value→Value→Bool
 | .slice none 0 0,.slice none 0 0=>true
 | .pointer none,.pointer none=>true
 | .map none,.map none=>true
 | .nilFunc,.nilFunc=>true
 | _,_=>false
theorem uQ{a b}(h:Wb a b=true):a=b:=by
 unfold Wb at h
 split at h<;>first | rfl | cases h
mutual
def EB:AV→AV→Bool
 | .r x,.r y=>GI x y
 | .agg cs,.agg ds=>H4 cs ds
 | .tup cs,.tup ds=>H4 cs ds
 | .own i g,.own i' g'=>Nat.beq i i'&&Nat.beq g g'
 | .ptr i g j k,.ptr i' g' j' k'=>(Nat.beq i i'&&Nat.beq g g')&&(Nat.beq j j'&&Nat.beq k k')
 | .rop row k,.rop row' k'=>Km row row'&&Nat.beq k k'
 | .fn f cs,.fn f' ds=>Nat.beq f f'&&H4 cs ds
 | .mref i g,.mref i' g'=>Nat.beq i i'&&Nat.beq g g'
 | .yld i g,.yld i' g'=>Nat.beq i i'&&Nat.beq g g'
 | .cst v,.cst v'=>Wb v v'
 | .whn b v,.whn b' v'=>(b==b')&&EB v v'
 | .any,.any=>true
 | _,_=>false
def H4:List AV→List AV→Bool
 | [],[]=>true
 | a::l,b::m=>EB a b&&H4 l m
 | _,_=>false
end
mutual
theorem Kl:∀ {a b:AV},EB a b=true→a=b:=by
 intro a b h
 cases a<;>cases b<;>first
  | (simp only[EB] at h;rw[il h])
  | (simp only[EB] at h;rw[Ts h])
  | (simp only[EB] at h;rw[uQ h])
  | (simp only[EB,wY] at h;rw[Um h.1,wj h.2])
  | (simp only[EB,wY] at h;rw[wj h.1.1,wj h.1.2,wj h.2.1,wj h.2.2])
  | (simp only[EB,wY] at h;rw[wj h.1,wj h.2])
  | (simp only[EB,wY] at h;rw[wj h.1,Ts h.2])
  | (simp only[EB,wY,WAH] at h;rw[h.1,Kl h.2])
  | rfl
  | (simp[EB] at h;done)
theorem Ts:∀ {a b:List AV},H4 a b=true→a=b
 | [],[],_=>rfl
 | a::l,b::m,h=>by simp only[H4,wY] at h;rw[Kl h.1,Ts h.2]
 | [],_::_,h=>by simp[H4] at h
 | _::_,[],h=>by simp[H4] at h
end
def Wo:Option Az→Option Az→Bool
 | some (.arr g e sz u),some (.arr j l q w)=>((Nat.beq g j&&Nat.beq e l)&&Nat.beq sz q)&&Lg u w
 | some (.box g e A),some (.box j l B)=>(Nat.beq g j&&Nat.beq e l)&&H4 A B
 | none,none=>true
 | _,_=>false
theorem uq{a b}(h:Wo a b=true):a=b:=by
 unfold Wo at h
 split at h
 ·simp only[wY] at h
  rw[wj h.1.1.1,wj h.1.1.2,wj h.1.2,Vl h.2]
 ·simp only[wY] at h
  rw[wj h.1.1,wj h.1.2,Ts h.2]
 ·rfl
 ·cases h
def HH:AR→AR→Bool
 | [],[]=>true
 | (i,o)::l,(j,p)::m=>(Nat.beq i j&&Wo o p)&&HH l m
 | _,_=>false
theorem TK:∀ {a b:AR},HH a b=true→a=b
 | [],[],_=>rfl
 | (i,o)::l,(j,p)::m,h=>by
  simp only[HH,wY] at h
  rw[wj h.1.1,uq h.1.2,TK h.2]
 | [],_::_,h=>by simp[HH] at h
 | _::_,[],h=>by simp[HH] at h
inductive Tw(ops:Array Oper):Nat→Nat→Prop
 | one {j i:Nat} (h:Region.waitsFor .any ops j i=true):Tw ops j i
 | more {j m i:Nat} (h:Region.waitsFor .any ops j m=true) (h2:Tw ops m i):Tw ops j i
section
variable{ops:Array Oper}
theorem Cl.tw{D}(h:Cl ops D){j i}(u:Tw ops j i):D j=true→D i=true:=by
 induction u with
 | one l=>exact λq=>h _ _ q l
 | more l _ w=>exact λq=>w (h _ _ q l)
theorem BS.yesT{D}{i k}(h:BS ops D i)(l:Tw ops i k):D k=true:=by
 cases l with
 | one j=>exact h.hw _ j
 | more j q=>exact h.cl.tw q (h.hw _ j)
theorem BS.noT{D}{i k}(h:BS ops D i)(j:Tw ops k i):D k=false:=by
 cases l:D k with
 | false=>rfl
 | true=>have:=h.cl.tw j l;rw[h.un] at this;cases this
def TY(o:Oper):List Nat:=o.after.toList.filterMap λe=>match Region.binds .any e with
 | true=>some e.on
 | false=>none
def Us(i:Nat)(l:List Nat):List Nat:=match l.any (Nat.beq i) with
 | true=>l
 | false=>i::l
def WT:List Nat→List Nat→List Nat
 | [],l=>l
 | i::r,l=>WT r (Us i l)
def MC(T:List (List Nat)):List Nat→List Nat→List Nat
 | [],j=>j
 | m::l,j=>match j.any (Nat.beq m) with
  | true=>MC T l j
  | false=>MC T l (WT (T.getD m []) (m::j))
def Uz:List Oper→List (List Nat)→List (List Nat)
 | [],T=>T
 | o::rest,T=>Uz rest (T++[MC T (TY o).reverse []])
theorem ow{i j}{l}(h:j∈Us i l):j=i∨j∈l:=by
 unfold Us at h
 split at h
 ·exact .inr h
 ·exact wo.1 h
theorem cC:∀ {r l:List Nat} {j:Nat},j∈WT r l→j∈r∨j∈l
 | [],l,j,h=>.inr h
 | i::r,l,j,h=>by
  rcases cC (r:=r) h with q | q
  ·exact .inl (we _ q)
  ·rcases ow q with rfl | u
   ·exact .inl (wZ ..)
   ·exact .inr u
theorem W5{T:List (List Nat)} : ∀ {l u:List Nat} {j:Nat},j∈MC T l u→j∈u∨∃m∈l,j=m∨j∈T.getD m []
 | [],u,j,h=>.inl h
 | m::l,u,j,h=>by
  unfold MC at h
  split at h
  ·rcases W5 h with q | ⟨w,q,A⟩
   ·exact .inl q
   ·exact .inr ⟨w,we _ q,A⟩
  ·rcases W5 h with q | ⟨w,q,A⟩
   ·rcases cC q with q | q
    ·exact .inr ⟨m,wZ ..,.inr q⟩
    ·rcases wo.1 q with rfl | q
     ·exact .inr ⟨_,wZ ..,.inl rfl⟩
     ·exact .inl q
   ·exact .inr ⟨w,we _ q,A⟩
theorem km{o:Oper}{j m}(u:ops[j]?=some o)(h:m∈TY o):Region.waitsFor .any ops j m=true:=by
 unfold TY at h
 obtain⟨e,w,l⟩:=List.mem_filterMap.1 h
 split at l
 ·rename_i A
  cases l
  unfold Region.waitsFor
  rw[u]
  show(o.after.any λq=>Region.binds .any q&&q.on==e.on)=true
  rw[← Array.any_toList,zW]
  exact⟨e,w,by rw[A];simp⟩
 ·cases l
theorem fc:∀ {l:List Oper} {T:List (List Nat)},(∀j,l[j]?=ops[T.length+j]?)→(∀j i,i∈T.getD j []→Tw ops j i)→∀j i,i∈(Uz l T).getD j []→Tw ops j i
 | [],T,_,h,j,i,q=>h j i q
 | o::rest,T,B,h,j,i,q=>by
  have E:ops[T.length]?=some o:=by have:=B 0;simpa using this.symm
  refine fc (l:=rest) (T:=T++[MC T (TY o).reverse []]) (λj=>by
   have:=B (j+1)
   simp only[yh] at this
   rw[this,wi,xY]
   congr 1;omega) (λj i q=>?_) j i q
  by_cases F:j<T.length
  ·refine h j i ?_
   rw[yn,xR F,← yn] at q
   exact q
  ·by_cases u:j=T.length
   ·subst u
    rw[yn,xK (wn _),zu] at q
    simp only[List.getElem?_cons_zero,zE] at q
    rcases W5 q with w | ⟨m,w,A⟩
    ·simp at w
    ·have C:=km E (List.mem_reverse.1 w)
     rcases A with rfl | A
     ·exact .one C
     ·exact .more C (h m i A)
   ·rw[yn,zo (by simp;omega)] at q
    simp at q
def gD(ops:Array Oper):List (List Nat):=Uz ops.toList []
def tw(T:List (List Nat))(a b:Nat):Bool:=(T.getD a []).any (Nat.beq b)
theorem uH{a b}(h:tw (gD ops) a b=true):Tw ops a b:=by
 refine fc (l:=ops.toList) (T:=[]) (λj=>by simp) (λj i l=>by simp at l) a b ?_
 obtain⟨x,q,u⟩:=zW.1 h
 have:=wj u
 subst this
 exact q
end
structure PE where
 d:Option Nat
 v:AV
 eff:Bool
def PE.po(p:PE):PO:=⟨p.d,λ_=>p.v,none,[]⟩
def DC(D:Nat→Bool):List PE→Nat→Nat
 | [],_=>0
 | p::l,k=>(match p.eff&&D k with | true=>1 | false=>0)+DC D l (k+1)
theorem KQ{D D'} : ∀(l:List PE) (k:Nat),(∀j,k≤j→j<k+l.length→D j=true→D' j=true)→DC D l k≤DC D' l k
 | [],_,_=>wn _
 | p::l,k,h=>by
  have q:=KQ l (k+1) λj A B=>h j (by omega) (by simp;omega)
  have u:=h k (wn _) (by simp)
  unfold DC
  cases p.eff
  ·simpa using q
  ·cases w:D k
   ·simp only[zZ];omega
   ·rw[u w];simp only[WAC];omega
theorem ap{D D'}{i}(A:D i=false)(B:D' i=true)(w:∀j,j≠i→D' j=D j):∀(l:List PE) (k:Nat) (p:PE),k≤i→l[i-k]?=some p→DC D' l k=DC D l k+(match p.eff with | true=>1 | false=>0)
 | [],k,p,_,h=>by simp at h
 | q::l,k,p,I,h=>by
  unfold DC
  by_cases u:k=i
  ·subst u
   rw[zu] at h
   cases h
   have:DC D' l (k+1)=DC D l (k+1):=Nat.le_antisymm (KQ l _ λj C _ E=>by rwa [← w j (by omega)]) (KQ l _ λj C _ E=>by rwa [w j (by omega)])
   rw[this,A,B]
   cases q.eff<;>simp<;>omega
  ·have F:=ap A B w l (k+1) p (by omega) (by rw[show i-k=(i-(k+1))+1 by omega] at h;simpa using h)
   rw[F,w k u];omega
section
variable{P:Program}{ops:Array Oper}
def SO(T:List (List Nat))(i t:Nat):List PO→Nat→Bool
 | [],_=>true
 | p::L,k=>(match p.d with | some d=>!Nat.beq d t||tw T k i | none=>true)&&SO T i t L (k+1)
theorem aO{T}(w:∀a b,tw T a b=true→Tw ops a b){D}{i t}(A:BS ops D i):∀ {L:List PO} {k:Nat},SO T i t L k=true→F6 PO.wE D t L k
 | [],_,_=>λj p v h=>by simp at h
 | q::L,k,hB=>by
  simp only[SO,wY] at hB
  obtain⟨l,E⟩:=hB
  intro j p v B u C
  cases j with
  | zero=>
   cases B
   rw[(Ok C).1] at l
   simp only[wh,xm,xv] at l u
   rcases l with l | l
   ·rw[WAM] at l;cases l
   ·rw[A.noT (w _ _ l)] at u;cases u
  | succ j=>exact aO w A E j p v (by simpa using B) (by rwa [show k+1+j=k+(j+1) by omega]) C
def Wc(T:List (List Nat))(e:AY)(L:List PO)(i t:Nat):Option AV:=
 match SO T i t L 0 with
 | true=>some (get e t)
 | false=>(List.range L.length).findSome? λj=>match L[j]? with
  | some p=>match p.d with
   | some l=>if(l=t∧tw T i j=true)∧Ji (L.drop (j+1)) t=true then some (p.v λ_=>0) else none
   | none=>none
  | none=>none
theorem rR{T}(q:∀a b,tw T a b=true→Tw ops a b){e}{L:List PE}{i t}{a}{D}(u:BS ops D i)(h:Wc T e (L.map PE.po) i t=some a):get (CF D (λ_=>0) e (L.map PE.po)) t=a:=by
 unfold Wc at h
 split at h
 ·rename_i hB;cases h;exact(GV Dh _ e 0 (aO q u hB)).trans rfl
 ·obtain⟨j,_,l⟩:=xq h
  split at l
  ·rename_i p hp
   split at l
   ·rename_i C hd
    split at l
    ·rename_i w;obtain⟨⟨rfl,A⟩,B⟩:=w
     cases l
     exact(Im Dh (TU hd) _ e 0 j hp (by rw[xE];exact u.yesT (q _ _ A)) (PP B)).trans rfl
    ·cases l
   ·cases l
  ·cases l
def qD:Op→List Operand
 | .move x | .assign x | .unOp _ _ x | .nilCheck x | .fieldAddr _ x _ | .field _ x _ | .load _ x | .convert _ _ x | .extract x _ | .box _ x=>[x]
 | .binOp _ _ x y _ | .indexAddr _ x y | .index _ x y | .store _ x y | .makeSlice _ x y=>[x,y]
 | .pick x y z=>[x,y,z]
 | .slice _ x l q u=>x::(l.toList++q.toList++u.toList)
 | .makeFunc _ _ w=>w.toList
 | .build _ j=>j.toList.map (·.2)
 | .buildSlice _ _ j=>j.toList.map (·.2)
 | .call c=>(match c.callee with | .value f=>[f] | _=>[])++c.args.toList
 | _=>[]
def nv(ops:Array Oper)(o:Oper):List Nat:=
 (qD o.op).filterMap (λx=>match x with | .tmp t=>some t | _=>none)++(match o.guard with | some (j,_)=>((ops[j]?).bind (·.dst)).toList | none=>[])
def SD(T:List (List Nat))(e:AY)(L:List PO)(i:Nat):List Nat→Option AY
 | []=>some []
 | t::l=>match Wc T e L i t,SD T e L i l with
  | some a,some r=>some ((t,a)::r)
  | _,_=>none
theorem ip{T}(j:∀a b,tw T a b=true→Tw ops a b){e}{L:List PE}{i}{D}(q:BS ops D i):∀ {l:List Nat} {R:AY},SD T e (L.map PE.po) i l=some R→∀t,get R t=.any∨get R t=get (CF D (λ_=>0) e (L.map PE.po)) t
 | [],R,h,t=>by cases h;exact .inl rfl
 | t0::l,R,h,t=>by
  unfold SD at h
  split at h
  ·rename_i a r u w
   cases h
   rw[Dh]
   split
   ·rename_i A;subst A;exact .inr (rR j q u).symm
   ·exact ip j q w t
  ·cases h
theorem BH.weakE{c}{o}{R q}{h h'}{n u}{v}(w:BH P c o R h n v h' u)(A:∀t,get R t=.any∨get R t=get q t):BH P c o q h n v h' u:=
 λB x a j C E F K Q I=>w B x a j C E (λt=>by
  rcases A t with l | l
  ·rw[l];exact .any _
  ·rw[l];exact F t) K Q I
theorem CI.weakE{o}{c}{R B}(h:CI R ops o c)(C:∀t,get R t=.any∨get R t=get B t):CI B ops o c:=by
 cases h with
 | @one j l w b hg A q=>
  refine .one hg A ?_
  rcases C l with u | u
  ·rw[show BG R (.tmp l)=get R l from rfl,u] at q;cases q
  ·exact u.symm.trans q
 | @two j l w b E hg A q=>
  refine .two hg A ?_
  rcases C l with u | u
  ·rw[show BG R (.tmp l)=get R l from rfl,u] at q;cases q
  ·exact u.symm.trans q
abbrev Gm:=AY→AR→Nat→Oper→Option (AV × AR × Nat)
def Jr(P:Program)(S:Gm):Prop:=∀R h n o r,S R h n o=some r→BH P true o R h n r.1 r.2.1 r.2.2
abbrev JY:=AY→AR→Oper→Option AV
def LQ(P:Program)(j:JY):Prop:=∀R h o v,j R h o=some v→∀n,BH P true o R h n v h n
def S3(P:Program)(j:JY)(R:AY)(h:AR)(o:Oper):Option AV:=match Ko P R h o with
 | some v=>some v
 | none=>j R h o
theorem YL{P}{q}(l:LQ P q){R}{h}{o}{v}(j:S3 P q R h o=some v)(n:Nat):BH P true o R h n v h n:=by
 unfold S3 at j
 split at j
 ·rename_i w u;cases j;exact(Ky (c:=true) u).spec n
 ·exact l R h o v j n
def VW(P:Program)(S:Gm)(A:JY)(ops:Array Oper)(j:List (AR × Nat))(R:AY)(k:Nat)(o:Oper)(p:PE):Bool:=match p.eff with
 | false=>match j[k]? with
  | some (h,_)=>match o.guard with
   | none=>match S3 P A R h o with
    | some v=>EB v p.v
    | none=>false
   | some _=>match Ia R ops o with
    | some true=>match S3 P A R h o with
     | some v=>EB v p.v
     | none=>false
    | some false=>EB (.whn false (.r (.bool false))) p.v
    | none=>false
  | none=>false
 | true=>match j[k]?,j[k+1]? with
  | some (h,n),some (l,q)=>
   match o.guard with
   | none=>match S R h n o with
    | some (v,u,w)=>(EB v p.v&&HH u l)&&Nat.beq w q
    | none=>false
   | some _=>match Ia R ops o with
    | some true=>match S R h n o with
     | some (v,u,w)=>(EB v p.v&&HH u l)&&Nat.beq w q
     | none=>false
    | some false=>(EB (.whn false (.r (.bool false))) p.v&&HH h l)&&Nat.beq n q
    | none=>false
  | _,_=>false
theorem sw{P}{S}{U}(Z:Jr P S)(w:LQ P U){ops}{F}{R}{k}{o:Oper}{p:PE}{h}{n}(I:F[k]?=some (h,n))(j:VW P S U ops F R k o p=true) :
  ∃(q:AR) (u:Nat),F[k+(match p.eff with | true=>1 | false=>0)]?=some (q,u) ∧
   ((o.guard=none∧BH P true o R h n p.v q u)∨(CI R ops o true∧BH P true o R h n p.v q u)∨(CI R ops o false∧p.v=.whn false (.r (.bool false))∧q=h∧u=n)):=by
 unfold VW at j
 cases V:p.eff with
 | false=>
  rw[V,I] at j
  refine⟨h,n,I,?_⟩
  simp only at j
  split at j
  ·rename_i hg
   split at j
   ·rename_i v J;rw[← Kl j];exact .inl ⟨hg,YL w J n⟩
   ·cases j
  ·split at j
   ·rename_i l
    split at j
    ·rename_i v J;rw[← Kl j];exact .inr (.inl ⟨GF l,YL w J n⟩)
    ·cases j
   ·rename_i l;exact .inr (.inr ⟨GF l,(Kl j).symm,rfl,rfl⟩)
   ·cases j
 | true=>
  rw[V,I] at j
  simp only at j
  split at j
  ·rename_i h0 n0 q u X e2
   simp only[wu,wz] at X
   obtain⟨rfl,rfl⟩:=X
   refine⟨q,u,e2,?_⟩
   have A:∀ {v B C},S R h n o=some (v,B,C)→((EB v p.v&&HH B q)&&Nat.beq C u)=true→BH P true o R h n p.v q u:=by
    intro v B C E Y
    simp only[wY] at Y
    obtain⟨⟨M,O⟩,T⟩:=Y
    rw[← Kl M,← TK O,← wj T]
    exact Z R h n o _ E
   split at j
   ·rename_i hg
    split at j
    ·rename_i v B C E;exact .inl ⟨hg,A E j⟩
    ·cases j
   ·split at j
    ·rename_i l
     split at j
     ·rename_i v B C E;exact .inr (.inl ⟨GF l,A E j⟩)
     ·cases j
    ·rename_i l
     simp only[wY] at j
     obtain⟨⟨M,O⟩,T⟩:=j
     exact .inr (.inr ⟨GF l,(Kl M).symm,(TK O).symm,(wj T).symm⟩)
    ·cases j
  ·cases j
def Ww(P:Program)(T:List (List Nat))(S:Gm)(l:JY)(ops:Array Oper)(e:AY)(N:Nat)(L:List PE)(q:List (AR × Nat))(i:Nat)(o:Oper)(p:PE):Bool:=
 (match o.dst,p.d with | some d,some u=>Nat.beq d u&&Nat.blt d N | none,none=>true | _,_=>false) &&
 match SD T e (L.map PE.po) i (nv ops o) with
 | some R=>(List.range (DC (λj=>!(tw T j i||Nat.beq j i)) L 0+1)).all λk=>Nat.blt k (DC (λj=>tw T i j) L 0)||VW P S l ops q R k o p
 | none=>false
def Uy(P:Program)(S:Gm)(l:JY)(ops:Array Oper)(s:St)(L:List PE)(j:List (AR × Nat)):Bool:=
 (U0 ops ops.size&&Gj (L.map PE.po)&&Nat.beq L.length ops.size)&&(match j[0]? with | some (h,n)=>HH s.h h&&Nat.beq s.n n | none=>false) &&
 (List.range ops.size).all λi=>match ops[i]?,L[i]? with
  | some o,some p=>Ww P (gD ops) S l ops s.e s.N L j i o p
  | _,_=>false
def G5(c0:Cx)(s:St)(L:List PE)(l:List (AR × Nat))(listed:Array Bool)(a:Act)(w:World):Prop:=
 ∃j,a.defers=j∧a.tmps.size=s.N∧∃(y:Cx) (h:AR) (n:Nat),l[DC (λk=>listed.getD k false) L 0]?=some (h,n)∧y.w=w∧c0.leM j y∧y.ok∧y.H=hget h∧y.n=n ∧
  ∀t,AS y (get (CF (λk=>listed.getD k false) (λ_=>0) s.e (L.map PE.po)) t) (a.tmps.getD t undef)
theorem G5.put{c0:Cx}{s:St}{L:List PE}{Hs}{listed:Array Bool}{a:Act}{i}{p:PE}{y z:Cx}{u}{I}{T}(hp:L[i]?=some p)(hN:∀d, p.d=some d→Nat.blt d s.N=true)(hE:Gj (L.map PE.po)=true)
 (hi:i<listed.size) (hr:BS ops (λk => listed.getD k false) i) {ds} (J:a.defers=ds) (hsz:a.tmps.size=s.N) (U:c0.leM ds y)
 (B:Hs[DC (λk => listed.getD k false) L 0+(match p.eff with | true => 1 | false => 0)]?=some (I, T))
 (he:∀t, AS y (get (CF (λk => listed.getD k false) (λ_ => 0) s.e (L.map PE.po)) t) (a.tmps.getD t undef)) (M:y.le z) (O:z.ok) (V:z.H=hget I) (X:z.n=T)
 (hv:AS z p.v u):G5 c0 s L Hs (listed.setIfInBounds i true) (a.put p.d u) z.w := by
  have C:(L.map PE.po)[i]?=some p.po := by rw[xJ, hp];rfl
  have E:∀k, (listed.setIfInBounds i true).getD k false=(listed.getD k false||(k=i)) := λk => by
    by_cases B:i=k
    · subst B;simp[hi]
    · rw[getD_set_ne false B];simp[Ne.symm B]
  have A:∀k, k≠i→(listed.setIfInBounds i true).getD k false=listed.getD k false := λk B => by rw[E];simp[B]
  have Y:(λk => (listed.setIfInBounds i true).getD k false) (0+i)=true := by show(listed.setIfInBounds i true).getD (0+i) false=true;rw[xE, E];simp
  refine⟨ds, by cases l:p.d<;>simpa[Act.put, l] using J, ?_, z, I, T, ?_, rfl, U.trans M, O, V, X, λt => ?_⟩
  · cases l:p.d<;>simpa[Act.put, l] using hsz
  · rw[ap (D := λk => listed.getD k false) (i := i) hr.un (by show(listed.setIfInBounds i true).getD i false=true;rw[E];simp) A L 0 p (yt _) (by simpa using hp)]
    exact B
  · by_cases w:p.d=some t
    · have Z:get (CF (λk => (listed.setIfInBounds i true).getD k false) (λ_ => 0) s.e (L.map PE.po)) t=p.v :=
        Im Dh (TU (p := p.po) w) (L.map PE.po) _ 0 i C Y (PP (U3 hE C w))
      have F:t<a.tmps.size := by rw[hsz];exact Ck (hN t w)
      rw[Z, w]
      simp only[Act.put, NA F, yN]
      exact hv
    · have Z:get (CF (λk => (listed.setIfInBounds i true).getD k false) (λ_ => 0) s.e (L.map PE.po)) t=get (CF (λk => listed.getD k false) (λ_ => 0) s.e (L.map PE.po)) t := by
        refine G3 Dh (L.map PE.po) _ _ 0 rfl λj q v h1 I => ?_
        obtain⟨h4, h5⟩ := Ok I
        have a0:j≠i := λe => by subst e;rw[C] at h1;cases h1;exact w h4
        rw[xE]
        exact⟨A j a0, λ_ => by
          have:q ∈ L.map PE.po := xT h1
          obtain⟨q', _, rfl⟩ := yC.1 this
          rfl⟩
      rw[Z]
      have h0 := (he t).mono M
      cases l:p.d with
      | none => exact h0
      | some d =>
        have a1:d≠t := λe => w (by rw[l, e])
        have F:d<a.tmps.size := by rw[hsz];exact Ck (hN d l)
        simp only[Act.put, NA F, ne a1]
        exact h0
theorem G5.step{T}(hT:∀a b, tw T a b=true→Tw ops a b){S}{Sp}(hS:Jr P S)(a0:LQ P Sp){c0}{s:St}{L:List PE}{Hs}{listed:Array Bool}{a:Act}{w}{i}{p:PE}{o:Oper}{Q}(hp:L[i]?=some p)(ho:ops[i]?=some o)(l:Ww P T S Sp ops s.e s.N L Hs i o p=true)
 (hE:Gj (L.map PE.po)=true) (hi:i<listed.size) (J:BS ops (λk => listed.getD k false) i) (O:G5 c0 s L Hs listed a w) :
    wpOp P ops Q i (G5 c0 s L Hs (listed.setIfInBounds i true)) a w := by
  obtain⟨_, B, hsz, y, h, n, a1, a2, U, V, X, Y, Z⟩ := O
  subst a2
  unfold Ww at l
  rw[wY] at l
  obtain⟨q, l⟩ := l
  have hd:o.dst=p.d∧∀d, p.d=some d→Nat.blt d s.N=true := by
    split at q
    · rename_i d d' A C
      rw[wY] at q
      have := wj q.1
      subst this
      exact⟨A.trans C.symm, λd2 h3 => by rw[C] at h3;cases h3;exact q.2⟩
    · rename_i A C;exact⟨A.trans C.symm, λd2 h3 => by rw[C] at h3;cases h3⟩
    · cases q
  split at l
  · rename_i R hR
    have E := ip hT (D := λk => listed.getD k false) J hR
    have a7:DC (λj => tw T i j) L 0≤DC (λk => listed.getD k false) L 0 := KQ L 0 λj _ _ A => J.yesT (hT _ _ A)
    have a8:DC (λk => listed.getD k false) L 0≤DC (λj => !(tw T j i||Nat.beq j i)) L 0 := KQ L 0 λj _ _ A => by
      cases hw:tw T j i with
      | true => have := J.noT (hT _ _ hw);rw[this] at A;cases A
      | false =>
        cases a6:Nat.beq j i with
        | true => have := wj a6;subst this;exact absurd (A.symm.trans J.un) (by decide)
        | false => rfl
    have M := wx.1 l (DC (λk => listed.getD k false) L 0) (xP.2 (by omega))
    rw[wh] at M
    rcases M with M | M
    · have := Ck M;omega
    · obtain⟨C, n2, e2, F⟩ := sw hS a0 a1 M
      unfold wpOp
      simp only[ho]
      have run:BH P true o R h n p.v C n2→o.wp P a y.w (G5 c0 s L Hs (listed.setIfInBounds i true)) Q := λhs =>
        (hs.weakE E) rfl y a V X Y Z _ Q λu z k1 k2 k3 k4 k5 => by
          rw[hd.1]
          exact G5.put hp hd.2 hE hi J B hsz U e2 Z k1 k2 k3 k4 k5
      rcases F with ⟨hg, hs⟩ | ⟨I, hs⟩ | ⟨I, hv, rfl, rfl⟩
      · rw[wU (by simp[Region.wanted, hg])]
        exact .inl (run hs)
      · have hw:Region.wanted o (yielded ops a.tmps)=true := CI.wanted (s := ⟨_, [], 0, 0⟩) (I.weakE E) Z
        rw[hw, wU rfl]
        exact .inl (run hs)
      · have hw:Region.wanted o (yielded ops a.tmps)=false := CI.wanted (s := ⟨_, [], 0, 0⟩) (I.weakE E) Z
        rw[hw, ne (by decide), hd.1]
        refine G5.put hp hd.2 hE hi J B hsz U e2 Z (.refl y) V X Y ?_
        rw[hv];exact .whn (λe => by cases e) (λ_ => rfl)
  · cases l
theorem vg{S}{Sp}(hS:Jr P S)(a8:LQ P Sp){id}{s:St}{Q}(L:List PE)(Hs:List (AR × Nat)){h'}{n'}(hm:P.follows .mixedOrders=true)(hB:Uy P S Sp ops s L Hs=true)(a0:Hs[DC (λ_ => true) L 0]?=some (h', n'))
 (h:Q .normal ⟨CF (λ_ => true) (λ_ => 0) s.e (L.map PE.po), h', n', s.N⟩):AW P (.region id ops true) Q s := by
  intro z0 aa c0 a w ⟨_, a1, hsz, y, ab, ac, ad, hH, hn, T⟩
  subst ab
  obtain⟨r1, r2⟩ := RR ad
  unfold Uy at hB
  simp only[wY] at hB
  obtain⟨⟨⟨⟨b1, b2⟩, b3⟩, b4⟩, b5⟩ := hB
  have ay := wj b3
  have ae:Hs[0]?=some (s.h, s.n) := by
    split at b4
    · rename_i h0 n0 e0
      rw[wY] at b4
      rw[e0, TK b4.1, wj b4.2]
    · cases b4
  refine Q0 Jt hm aa ?_
  generalize hz:({ y with w := { y.w with drawn := y.w.drawn+1 } } : Cx)=z at r1 r2
  have af:z.w = { y.w with drawn := y.w.drawn+1 } := by rw[← hz]
  have ag:z.H=hget s.h := by rw[← hz];exact hH
  have ah:z.n=s.n := by rw[← hz];exact hn
  rw[← af]
  have B:∀j, (Array.replicate ops.size false).getD j false=false := getD_replicate_false _
  have key:∀(f:Nat) (listed:Array Bool) (a:Act) (w:World), Dw listed ops.size=f→HeadInv .any ops ops.size listed→G5 c0 s L Hs listed a w→wpAny P .any ops (Dr c0 Q) f listed a w := by
    intro f
    induction f with
    | zero =>
      intro listed a w M C E
      have u := WM M
      refine⟨?_, ?_⟩
      · rw[List.eq_nil_iff_forall_not_mem]
        intro j Z
        obtain⟨U, o, I, _⟩ := mem_ready.1 Z
        have ai:j<ops.size := (xi.1 I).1
        have := getD_both U
        rw[u j ai] at this;cases this
      · obtain⟨_, i1, i2, z', hh, nn, J, i3, i4, i5, i6, aj, i7⟩ := E
        subst i3
        have ak:DC (λk => listed.getD k false) L 0=DC (λ_ => true) L 0 :=
          Nat.le_antisymm (KQ L 0 λ_ _ _ _ => rfl) (KQ L 0 λj _ Z _ => u j (by omega))
        rw[ak, a0] at J
        cases J
        refine⟨by simp, _, h, _, i1, i2, z', rfl, i4, i5, i6, aj, λt => ?_⟩
        show AS z' (get (D8 _ _ _ _ _ _) t) _
        rw[Tf (L.map PE.po) _ 0 (D' := λk => listed.getD k false) λj _ Z => (u j (by simp at Z;omega)).symm]
        exact i7 t
    | succ f ih =>
      intro listed a w M C E
      obtain⟨J, al, a2, F⟩ := WE (listed := listed) (n := ops.size) (by omega)
      have an:J<listed.size := by rw[C.size];omega
      have A:J ∈ Region.ready .any ops listed := by
        refine mem_ready.2 ⟨getD_in an a2, ?_⟩
        have ao:∃o, ops[J]?=some o := ⟨ops[J]'(by omega), by simp[xW (show J<ops.size by omega)]⟩
        obtain⟨o, I⟩ := ao
        refine⟨o, I, λe T hb => ?_⟩
        have U := wx.1 b1 J (xP.2 al)
        simp only[I] at U
        have h2 := (zk.1 U) e T
        simp only[hb, zg, yL, wV] at h2
        exact F _ h2
      refine⟨λh => (by rw[h] at A;cases A), λi hi => ?_⟩
      obtain⟨aq, o, I, u⟩ := mem_ready.1 hi
      have V:i<ops.size := (xi.1 I).1
      have O := getD_both aq
      have a6:i<listed.size := by rw[C.size];omega
      obtain⟨p, hp⟩:∃p, L[i]?=some p := ⟨L[i]'(by omega), by simp[wd (show i<L.length by omega)]⟩
      have a7 := wx.1 b5 i (xP.2 V)
      simp only[I, hp] at a7
      have ar:BS ops (λk => listed.getD k false) i := by
        refine⟨λj k Z hk => ?_, λk hk => ?_, O⟩
        · obtain⟨oj, av, e, T, hb, X⟩ := Region.waitsFor_spec hk
          rw[← X];exact C.closed j oj av Z e T hb
        · obtain⟨oi, aw, e, T, hb, X⟩ := Region.waitsFor_spec hk
          have:oi=o := xc (aw.symm.trans I)
          subst this
          rw[← X];exact u e T hb
      have step := G5.step (Q := Dr c0 Q) (λ_ _ => uH) hS a8 hp I a7 b2 a6 ar E
      refine wpOp_mono (λa' w' h' => ih _ a' w' ?_ (C.set hi V) h') step
      have := XM a6 O ops.size
      rw[wU V] at this
      omega
  have Y:Dw (Array.replicate ops.size false) ops.size=ops.size := WO B ops.size
  have ax:DC (λk => (Array.replicate ops.size false).getD k false) L 0=0 := by
    have:∀(l:List PE) (k:Nat), DC (λk => (Array.replicate ops.size false).getD k false) l k=0 := by
      intro l
      induction l with
      | nil => intro k;rfl
      | cons q l ih => intro k;unfold DC;rw[ih, B, zZ]
    exact this L 0
  exact key ops.size _ a z.w Y ⟨by simp, λj oj _ hl => (by rw[B] at hl;cases hl), λt az ht => by omega⟩
    ⟨_, a1, hsz, z, s.h, s.n, by rw[ax];exact ae, rfl, ac.trans r1, r2, ag, ah, λt => by
      have e1:get (CF (λk => (Array.replicate ops.size false).getD k false) (λ_ => 0) s.e (L.map PE.po)) t=get s.e t := GV Dh (L.map PE.po) _ 0 λj p _ _ U => by rw[B] at U;cases U
      rw[e1];exact(T t).mono r1⟩
end
variable{β:Type}
def Cs(n:Nat)(k:Nat→β):β:=match n with
 | 0=>k 0
 | m+1=>k (m+1)
theorem DL(n:Nat)(k:Nat→β):Cs n k=k n:=by cases n<;>rfl
def SW(z:Int)(k:Int→β):β:=match z with
 | .ofNat n=>Cs n λn=>k (.ofNat n)
 | .negSucc n=>Cs n λn=>k (.negSucc n)
theorem ic(z:Int)(k:Int→β):SW z k=k z:=by cases z<;>simp only[SW,DL]
def Ui(c:UInt8)(k:UInt8→β):β:=Cs c.toNat λn=>k (UInt8.ofNat n)
theorem kl(c:UInt8)(k:UInt8→β):Ui c k=k c:=by unfold Ui;rw[DL];congr 1;simp
def Sc:List UInt8→(List UInt8→β)→β
 | [],k=>k []
 | c::r,k=>Ui c λc=>Sc r λr=>k (c::r)
theorem fH:∀(l:List UInt8) (k:List UInt8→β),Sc l k=k l
 | [],_=>rfl
 | c::r,k=>by unfold Sc;rw[kl,fH r]
def Uu(x:IntKind)(k:IntKind→β):β:=match x with
 | .i8=>k .i8 | .i16=>k .i16 | .i32=>k .i32 | .i64=>k .i64 | .u8=>k .u8 | .u16=>k .u16 | .u32=>k .u32 | .u64=>k .u64
theorem am(x:IntKind)(k:IntKind→β):Uu x k=k x:=by cases x<;>rfl
def YC(x:Bool)(k:Bool→β):β:=match x with
 | true=>k true
 | false=>k false
theorem jA(x:Bool)(k:Bool→β):YC x k=k x:=by cases x<;>rfl
mutual
def Jq:RV→(RV→β)→β
 | .int kd n,k=>Uu kd λkd=>SW n λn=>k (.int kd n)
 | .bool b,k=>YC b λb=>k (.bool b)
 | .str s,k=>Sc s λs=>k (.str s)
 | .sl xs,k=>L8 xs λxs=>k (.sl xs)
 | .any,k=>k .any
def MU:List RV→(List RV→β)→β
 | [],k=>k []
 | a::l,k=>Jq a λa=>MU l λl=>k (a::l)
def L8:List (List RV)→(List (List RV)→β)→β
 | [],k=>k []
 | a::l,k=>MU a λa=>L8 l λl=>k (a::l)
end
mutual
theorem gi:∀(a:RV) (k:RV→β),Jq a k=k a
 | .int kd n,k=>by unfold Jq;rw[am,ic]
 | .bool b,k=>by unfold Jq;rw[jA]
 | .str s,k=>by unfold Jq;rw[fH]
 | .sl xs,k=>by unfold Jq;rw[Wy xs]
 | .any,k=>by unfold Jq;rfl
theorem Vc:∀(a:List RV) (k:List RV→β),MU a k=k a
 | [],k=>by unfold MU;rfl
 | a::l,k=>by unfold MU;rw[gi a,Vc l]
theorem Wy:∀(a:List (List RV)) (k:List (List RV)→β),L8 a k=k a
 | [],k=>by unfold L8;rfl
 | a::l,k=>by unfold L8;rw[Vc a,Wy l]
end
mutual
def Em:AV→(AV→β)→β
 | .r x,k=>Jq x λx=>k (.r x)
 | .agg cs,k=>Ha cs λcs=>k (.agg cs)
 | .tup cs,k=>Ha cs λcs=>k (.tup cs)
 | .own i g,k=>Cs i λi=>Cs g λg=>k (.own i g)
 | .ptr i g j m,k=>Cs i λi=>Cs g λg=>Cs j λj=>Cs m λm=>k (.ptr i g j m)
 | .rop row m,k=>MU row λrow=>Cs m λm=>k (.rop row m)
 | .fn f cs,k=>Cs f λf=>Ha cs λcs=>k (.fn f cs)
 | a,k=>k a
def Ha:List AV→(List AV→β)→β
 | [],k=>k []
 | a::l,k=>Em a λa=>Ha l λl=>k (a::l)
end
mutual
theorem Yl:∀(a:AV) (k:AV→β),Em a k=k a
 | .r x,k=>by unfold Em;rw[gi]
 | .agg cs,k=>by unfold Em;rw[Ke cs]
 | .tup cs,k=>by unfold Em;rw[Ke cs]
 | .own i g,k=>by unfold Em;rw[DL,DL]
 | .ptr i g j m,k=>by unfold Em;rw[DL,DL,DL,DL]
 | .rop row m,k=>by unfold Em;rw[Vc,DL]
 | .fn f cs,k=>by unfold Em;rw[DL,Ke cs]
 | .mref _ _,k=>by unfold Em;rfl
 | .yld _ _,k=>by unfold Em;rfl
 | .full _,k=>by unfold Em;rfl
 | .cst _,k=>by unfold Em;rfl
 | .whn _ _,k=>by unfold Em;rfl
 | .any,k=>by unfold Em;rfl
theorem Ke:∀(a:List AV) (k:List AV→β),Ha a k=k a
 | [],k=>by unfold Ha;rfl
 | a::l,k=>by unfold Ha;rw[Yl a,Ke l]
end
def VQ:Option Az→(Option Az→β)→β
 | some (.arr g e sz j),k=>Cs g λg=>Cs e λe=>Cs sz λsz=>L8 j λj=>k (some (.arr g e sz j))
 | some (.box g e l),k=>Cs g λg=>Cs e λe=>Ha l λl=>k (some (.box g e l))
 | o,k=>k o
theorem mh(o:Option Az)(k:Option Az→β):VQ o k=k o:=by
 unfold VQ
 split
 ·rw[DL,DL,DL,Wy]
 ·rw[DL,DL,Ke]
 ·rfl
def UQ:AR→(AR→β)→β
 | [],k=>k []
 | (i,o)::r,k=>Cs i λi=>VQ o λo=>UQ r λr=>k ((i,o)::r)
theorem gm:∀(h:AR) (k:AR→β),UQ h k=k h
 | [],_=>rfl
 | (i,o)::r,k=>by unfold UQ;rw[DL,mh,gm r]
def Ua(a:AV)(k:AV→β):β:=match a with
 | .r (.int l n)=>Uu l λl=>SW n λn=>k (.r (.int l n))
 | .r (.bool b)=>YC b λb=>k (.r (.bool b))
 | .own i g=>Cs i λi=>Cs g λg=>k (.own i g)
 | .ptr i g j m=>Cs i λi=>Cs g λg=>Cs j λj=>Cs m λm=>k (.ptr i g j m)
 | a=>k a
theorem sM(a:AV)(k:AV→β):Ua a k=k a:=by
 unfold Ua
 split
 ·rw[am,ic]
 ·rw[jA]
 ·rw[DL,DL]
 ·rw[DL,DL,DL,DL]
 ·rfl
def Xb(s:St)(k:St→β):β:=match s with
 | ⟨(d,v)::e,h,n,N⟩=>Ua v λv=>Cs n λn=>k ⟨(d,v)::e,h,n,N⟩
 | s=>k s
theorem kU(s:St)(k:St→β):Xb s k=k s:=by
 unfold Xb
 split
 ·rw[sM,DL]
 ·rfl
section
variable{P:Program}
theorem BH.frzV{c}{o}{R}{h j}{n n1}{v}{id g e sz}{xs}(M:BH P c o R h n v j n1)(O:hget j id=some (.arr g e sz xs)) :
  BH P c o R h n (LL id g xs v) (KD id g xs ⟨[(0,v)],j,n1,1⟩).h n1:=by
 intro T x a w U V X K Q Y
 refine M T x a w U V X K Q λu y Z k2 k3 k4 k5=>?_
 have l:D6 y ⟨[(0,v)],j,n1,1⟩ { tmps:=#[u],defers:=[] } y.w:=by
  refine⟨_,rfl,rfl,y,rfl,.refl y,k2,k3,k4,λt=>?_⟩
  rw[Dh]
  split
  ·rename_i ht;subst ht;exact k5
  ·exact .any _
 obtain⟨_,_,_,z,A,B,q,C,E,F⟩:=TJ (s:=⟨[(0,v)],j,n1,1⟩) O y _ _ l
 have I:=F 0
 have:get (KD id g xs ⟨[(0,v)],j,n1,1⟩).e 0=LL id g xs v:=rfl
 rw[this] at I
 have J:=Y u z (Z.trans B.le) q C E I
 rw[A] at J;exact J
def Nr:Nat→AV→AR→Nat→AV × AR
 | 0,v,h,_=>(v,h)
 | f+1,v,h,n=>match P3 h v with
  | some id=>match hget h id with
   | some (.arr g _ _ j)=>Nr f (LL id g j v) (KD id g j ⟨[(0,v)],h,n,1⟩).h n
   | _=>(v,h)
  | none=>(v,h)
theorem Y3{c}{o}{R}{h}{n n1} : ∀(f:Nat) {v:AV} {j:AR},BH P c o R h n v j n1→BH P c o R h n (Nr f v j n1).1 (Nr f v j n1).2 n1
 | 0,v,j,l=>l
 | f+1,v,j,l=>by
  unfold Nr
  split
  ·split
   ·rename_i q;exact Y3 f (l.frzV q)
   ·exact l
  ·exact l
def ka(o:Oper):Bool:=match o.op with
 | .buildSlice _ _ _=>true
 | .call ⟨.builtin .append,⟨[.const _,_]⟩,_⟩=>true
 | .call ⟨.value _,_,_⟩=>true
 | _=>false
def RT(S:Gm):Gm:=λR h n o=>match S R h n o with
 | some (v,l,j)=>match ka o with
  | true=>some ((Nr 9 v l j).1,(Nr 9 v l j).2,j)
  | false=>some (v,l,j)
 | none=>none
theorem lQ{S}(q:Jr P S):Jr P (RT S):=by
 intro R h n o r j
 unfold RT at j
 split at j
 ·rename_i v w A u
  have l:=q R h n o _ u
  split at j
  ·cases j;exact Y3 9 l
  ·cases j;exact l
 ·cases j
def QU(S:Gm)(l:JY)(ops:Array Oper):List Oper→List PE→List (AR × Nat)→AY→AR→Nat→Option (List PE × List (AR × Nat))
 | [],L,j,_,_,_=>some (L.reverse,j.reverse)
 | o::rest,L,j,e,h,n=>
  match (match o.guard with | none=>some true | some _=>Ia e ops o) with
  | some true=>match R1 o with
   | true=>match S e h n o with
    | some (v,_,_)=>QU S l ops rest (⟨o.dst,v,false⟩::L) j (FE o.dst v e) h n
    | none=>none
   | false=>match l e h o with
    | some v=>QU S l ops rest (⟨o.dst,v,false⟩::L) j (FE o.dst v e) h n
    | none=>match S e h n o with
     | some (v,q,u)=>QU S l ops rest (⟨o.dst,v,true⟩::L) ((q,u)::j) (FE o.dst v e) q u
     | none=>none
  | some false=>QU S l ops rest (⟨o.dst,.whn false (.r (.bool false)),false⟩::L) j (FE o.dst (.whn false (.r (.bool false))) e) h n
  | none=>none
def Xo(P:Program)(S:Gm)(j:JY)(ops:Array Oper)(s:St):Option St:=match QU S j ops ops.toList [] [(s.h,s.n)] s.e s.h s.n with
 | some (L,l)=>match Uy P S j ops s L l with
  | true=>match l[DC (λ_=>true) L 0]? with
   | some (q,u)=>some ⟨CF (λ_=>true) (λ_=>0) s.e (L.map PE.po),q,u,s.N⟩
   | none=>none
  | false=>none
 | none=>none
def R5(S:Gm)(ops:Array Oper):List Oper→AY→AR→Nat→Option Nat
 | [],_,_,_=>none
 | o::rest,e,h,n=>
  match (match o.guard with | none=>some true | some _=>Ia e ops o) with
  | some true=>match S e h n o with
   | some (v,j,l)=>match R1 o with
    | true=>R5 S ops rest (FE o.dst v e) h n
    | false=>R5 S ops rest (FE o.dst v e) j l
   | none=>gt ⟨e,h,n,0⟩ o
  | some false=>R5 S ops rest (FE o.dst (.whn false (.r (.bool false))) e) h n
  | none=>none
def uU(F:List Nat)(s:St)(o:Oper):Option Nat:=match o.op with
 | .call ⟨.value j,l,_⟩=>match Ax s.e j with
  | .fn f _=>match F.any (Nat.beq f) with
   | true=>l.toList.findSome? λx=>P3 s.h (Ax s.e x)
   | false=>none
  | _=>none
 | _=>none
def T1(F:List Nat)(c:DI):DI:=match c with
 | .ops ops (o::rest) ks s=>match uU F s o with
  | some id=>match hget s.h id with
   | some (.arr g _ _ j)=>.ops ops (o::rest) ks (KD id g j s)
   | _=>c
  | none=>c
 | c=>c
theorem iM{F}{Q}{c}(h:DD P Q (T1 F c)):DD P Q c:=by
 unfold T1 at h
 split at h
 ·split at h
  ·split at h
   ·rename_i j;exact CE.weak (TJ j) h
   ·exact h
  ·exact h
 ·exact h
structure Lv where
 S:Gm
 Sp:JY
structure Kg(P:Program)(p:Lv):Prop where
 S:Jr P p.S
 Sp:LQ P p.Sp
def Xv(p:Lv)(ops:Array Oper)(o:Oper)(rest:List Oper)(ks:List Fr)(s:St):Option DI:=match o.op with
 | .call ⟨.value _,_,_⟩=>match (match o.guard with | none=>some true | some _=>Ia s.e ops o) with
  | some true=>match p.Sp s.e s.h o with
   | some v=>match o.dst with
    | some d=>match Nat.blt d s.N with
     | true=>some (.ops ops rest ks { e:=(d,v)::s.e,h:=s.h,n:=s.n,N:=s.N })
     | false=>none
    | none=>none
   | none=>none
  | _=>none
 | _=>none
theorem sY{p}(hp:Kg P p){Q}{ops}{o:Oper}{rest}{ks}{s:St}{u}(h:Xv p ops o rest ks s=some u)(hc:DD P Q u):DD P Q (.ops ops (o::rest) ks s):=by
 unfold Xv at h
 split at h
 ·split at h
  ·rename_i hg
   split at h
   ·rename_i v A
    split at h
    ·rename_i d hd
     split at h
     ·rename_i B;cases h
      have l:(false=false∧o.guard=none)∨CI s.e ops o true:=by
       cases q:o.guard with
       | none=>exact .inl ⟨rfl,rfl⟩
       | some j=>rw[q] at hg;exact .inr (GF hg)
      exact CE.cons (K1:=λw=>w=_) (YI l hd B (hp.Sp _ _ _ _ A _) (AL.nil rfl)) λw e=>e ▸ hc
     ·cases h
    ·cases h
   ·cases h
  ·cases h
 ·cases h
def Rw(P:Program)(p:Lv)(c:DI):Option DI:=match V9 P c with
 | some (.ops o r ks s)=>Xb s λs=>some (.ops o r ks s)
 | some j=>some j
 | none=>match c with
  | .code (.region i ops true) ks s=>match Xo P (RT p.S) p.Sp ops s with
   | some l=>some (.out .normal ks l)
   | none=>match R5 (RT p.S) ops ops.toList s.e s.h s.n with
    | some id=>match hget s.h id with
     | some (.arr g _ _ q)=>some (.code (.region i ops true) ks (KD id g q s))
     | _=>none
    | none=>none
  | _=>none
def W0(P:Program)(p:Lv)(c:DI):Option DI:=match c with
 | .ops ops (o::rest) ks s=>match Xv p ops o rest ks s with
  | some j=>some j
  | none=>Rw P p c
 | c=>Rw P p c
theorem vX{S}{u}{Q}(w:P.follows .mixedOrders=true)(A:Jr P S)(q:LQ P u){ops}{s s'}{id}(j:Xo P S u ops s=some s')(hc:Q .normal s'):AW P (.region id ops true) Q s:=by
 unfold Xo at j
 split at j
 ·rename_i L B _
  split at j
  ·rename_i hB
   split at j
   ·rename_i C E l
    cases j
    exact vg A q L B w hB l hc
   ·cases j
  ·cases j
 ·cases j
theorem iN{p}{Q}(l:P.follows .mixedOrders=true)(hp:Kg P p){c q}(h:Rw P p c=some q)(hc:DD P Q q):DD P Q c:=by
 unfold Rw at h
 split at h
 ·rename_i o r ks s j;rw[kU] at h;cases h;exact eo l j hc
 ·rename_i w _ j;cases h;exact eo l j hc
 ·split at h
  ·split at h
   ·rename_i A j;cases h;exact vX l (lQ hp.S) hp.Sp j hc
   ·split at h
    ·split at h
     ·rename_i u;cases h;exact AW.weak (TJ u) hc
     ·cases h
    ·cases h
  ·cases h
theorem te{p}{Q}(j:P.follows .mixedOrders=true)(hp:Kg P p){c l}(h:W0 P p c=some l)(hc:DD P Q l):DD P Q c:=by
 unfold W0 at h
 split at h
 ·split at h
  ·rename_i u q;cases h;exact sY hp q hc
  ·exact iN j hp h hc
 ·exact iN j hp h hc
def runX(P:Program)(F:List Nat)(p:Lv):Nat→DI→DI
 | 0,c=>c
 | n+1,c=>match W0 P p (T1 F (T1 F c)) with
  | some j=>runX P F p n j
  | none=>c
theorem QB{F}{p}{Q}(j:P.follows .mixedOrders=true)(hp:Kg P p):∀ {n:Nat} {c:DI},DD P Q (runX P F p n c)→DD P Q c
 | 0,c,h=>h
 | n+1,c,h=>by
  unfold runX at h
  split at h
  ·rename_i q l;exact iM (iM (te j hp l (QB j hp h)))
  ·exact h
def UM(P:Program):Gm:=λR h n o=>match Ko P R h o with
 | some v=>some (v,h,n)
 | none=>Qe P R h n o
theorem iS:Jr P (UM P):=by
 intro R h n o r j
 unfold UM at j
 split at j
 ·rename_i v l;cases j;exact(Ky (c:=true) l).spec _
 ·exact Xw j
def XC(P:Program)(F:List Nat)(p:Lv)(R:AY)(h:AR)(n:Nat)(o:Oper):Option (AV × AR × Nat):=match o.op with
 | .call ⟨.value q,l,_⟩=>match Ax R q with
  | .fn f j=>match P.funcs[f]? with
   | some fn=>match fn.body with
    | some code => if (fn.name == "runtime.NumGoroutine") = false ∧ Nat.ble (l.toList.map (Ax R) ++ j).length fn.ntmps = true then
      Ha (l.toList.map (Ax R)++j) λu=>Cs n λn=>UQ h λh=>
      match runX P F p 1000000 (.code code [] ⟨DB 0 u,h,n,fn.ntmps⟩) with
      | .out .ret [] s=>match LO P s fn.results.toList with
       | some r=>some (r,s.h,s.n)
       | none=>none
      | .out .normal [] s=>match LO P s fn.results.toList with
       | some r=>some (r,s.h,s.n)
       | none=>none
      | _=>none
     else none
    | none=>none
   | none=>none
  | _=>none
 | _=>none
theorem ns{F}{p}(U:P.follows .mixedOrders=true)(hp:Kg P p){R}{h}{n}{o}{r}(j:XC P F p R h n o=some r):BH P true o R h n r.1 r.2.1 r.2.2:=by
 unfold XC at j
 split at j
 ·rename_i V X Z ho
  split at j
  ·rename_i f q I
   split at j
   ·rename_i fn hf
    split at j
    ·rename_i code hb
     split at j
     ·rename_i Y
      rw[Ke,DL,gm] at j
      have B:Ev true R V (.fn f q):=by rw[← I];exact BQ true R V
      have C:∀(v:AV) (J:AR) (M:Nat),AW P code (Gr P fn.results.toList λr w A=>r=v∧w=J∧A=M) ⟨DB 0 (X.toList.map (Ax R)++q),h,n,fn.ntmps⟩→BH P true o R h n v J M:=by
       intro v J M hw hc z a O hH hn he K Q hK
       refine UC ho B (Ks true R X.toList) hf hb Y.1 rfl (xj Y.2) O hH hn he hw K Q λu y r w A k1 k2 k3 k4 k5 ⟨e1,e2,e3⟩=>?_
       subst e1;subst e2;subst e3
       exact hK u y k1 k2 k3 k4 k5
      split at j
      ·rename_i s T
       split at j
       ·rename_i E l;cases j
        refine C _ _ _ (QB (F:=F) (Q:=Gr P fn.results.toList λr w A=>r=E∧w=s.h∧A=s.n) (c:=.code code [] _) (n:=1000000) U hp ?_)
        rw[T];exact⟨E,QL l,rfl,rfl,rfl⟩
       ·cases j
      ·rename_i s T
       split at j
       ·rename_i E l;cases j
        refine C _ _ _ (QB (F:=F) (Q:=Gr P fn.results.toList λr w A=>r=E∧w=s.h∧A=s.n) (c:=.code code [] _) (n:=1000000) U hp ?_)
        rw[T];exact⟨E,QL l,rfl,rfl,rfl⟩
       ·cases j
      ·cases j
     ·cases j
    ·cases j
   ·cases j
  ·cases j
 ·cases j
def Mx(h:AR):List AV→Option (List AV)
 | []=>some []
 | a::l=>match (match a with
   | .own id g=>match hget h id with
    | some (.arr j _ _ q)=>if j=g then some (.r (.sl q)) else none
    | _=>none
   | a=>match a.closed with
    | true=>some a
    | false=>none),Mx h l with
  | some b,some m=>some (b::m)
  | _,_=>none
def Kv(h:AR)(a:AV):Option AV:=match a with
 | .own id g=>match hget h id with
  | some (.arr j _ _ l)=>if j=g then some (.r (.sl l)) else none
  | _=>none
 | .agg q=>(Mx h q).map .agg
 | a=>match a.closed with
  | true=>some a
  | false=>none
theorem iW{h} : ∀ {cs ds:List AV},Mx h cs=some ds→Qq h cs ds
 | [],ds,q=>by cases q;trivial
 | a::l,ds,q=>by
  unfold Mx at q
  split at q
  ·rename_i b m j u
   cases q
   refine⟨?_,iW u⟩
   split at j
   ·split at j
    ·rename_i w
     split at j
     ·rename_i hg;subst hg;cases j;exact .own w
     ·cases j
    ·cases j
   ·split at j
    ·rename_i A;cases j;exact .closed _ A
    ·cases j
  ·cases q
theorem T6{h}{a b}(j:Kv h a=some b):Fz h a b:=by
 unfold Kv at j
 split at j
 ·split at j
  ·rename_i l
   split at j
   ·rename_i hg;subst hg;cases j;exact .one (.own l)
   ·cases j
  ·cases j
 ·rw[w0] at j
  obtain⟨w,q,rfl⟩:=j
  exact .agg (iW q)
 ·split at j
  ·rename_i u;cases j;exact .one (.closed _ u)
  ·cases j
def Md(R:AY)(h:AR):List Operand→Option (List AV)
 | []=>some []
 | x::j=>match Kv h (Ax R x),Md R h j with
  | some b,some l=>some (b::l)
  | _,_=>none
theorem iO{R}{h} : ∀ {xs:List Operand} {bs:List AV},Md R h xs=some bs→G8 true R h xs bs
 | [],bs,j=>by cases j;trivial
 | x::xs,bs,j=>by
  unfold Md at j
  split at j
  ·rename_i b l q u
   cases j
   exact⟨⟨_,BQ true R x,T6 q⟩,iO u⟩
  ·cases j
theorem ib{R} : ∀(xs:List Operand),Dc (xs.map (Ax R))=true→Qo true R xs (xs.map (Ax R))
 | [],_=>trivial
 | x::xs,h=>by
  simp only[ww,Dc,wY] at h
  exact⟨.inl ⟨BQ true R x,h.1⟩,ib xs h.2⟩
def R3(P:Program)(s:St):ResultVar→Option AV
 | .tmp t=>Kv s.h (get s.e t)
 | .cell a t=>match get s.e a with
  | .ptr id g 0 0=>match hget s.h id with
   | some (.box l _ j)=>if l=g then match LV P t with
     | true=>match j with
      | [r]=>Kv s.h r
      | _=>none
     | false=>match LU P t with
      | some sz=>if j.length=sz then Kv s.h (.agg j) else none
      | none=>none
    else none
   | _=>none
  | _=>none
theorem YU{s}{x}{r}(h:R3 P s x=some r):Dd P s x r:=by
 unfold R3 at h
 split at h
 ·exact T6 h
 ·split at h
  ·rename_i id g hp
   split at h
   ·rename_i w e A j
    split at h
    ·rename_i hg;subst hg
     split at h
     ·rename_i l
      split at h
      ·exact .inl ⟨id,_,_,_,Qy l,hp,j,T6 h⟩
      ·cases h
     ·split at h
      ·rename_i sz q
       split at h
       ·rename_i u;exact .inr ⟨sz,id,_,_,_,Qf q,hp,j,u,T6 h⟩
       ·cases h
      ·cases h
    ·cases h
   ·cases h
  ·cases h
def Rq(P:Program)(s:St):List ResultVar→Option (List AV)
 | []=>some []
 | x::l=>match R3 P s x,Rq P s l with
  | some r,some j=>some (r::j)
  | _,_=>none
theorem Yz{s} : ∀ {l:List ResultVar} {j:List AV},Rq P s l=some j→Nf (Dd P s) l j
 | [],j,h=>by cases h;trivial
 | x::l,j,h=>by
  unfold Rq at h
  split at h
  ·rename_i r q u w;cases h;exact⟨YU u,Yz w⟩
  ·cases h
def RY(P:Program)(s:St)(l:List ResultVar):Option AV:=match l with
 | [x]=>R3 P s x
 | l=>(Rq P s l).map .tup
theorem Ym{s}{l}{r}(h:RY P s l=some r):NW (Dd P s) l r:=by
 unfold RY at h
 split at h
 ·exact YU h
 ·rename_i A j
  rw[w0] at h
  obtain⟨q,u,rfl⟩:=h
  have w:=Yz u
  unfold NW
  split
  ·rename_i x;exact absurd rfl (j x)
  ·exact⟨q,rfl,w⟩
def XQ(P:Program)(j:List ResultVar):DI→Option AV
 | .out .ret [] s=>RY P s j
 | .out .normal [] s=>RY P s j
 | _=>none
theorem l7{j}{c}{r}(h:XQ P j c=some r):DD P (FX P j r) c:=by
 unfold XQ at h
 split at h
 ·exact Ym h
 ·exact Ym h
 ·cases h
def T7(P:Program)(F X:List Nat)(p:Lv)(R:AY)(h:AR)(o:Oper):Option AV:=match o.op with
 | .call ⟨.value u,q,_⟩=>match Ax R u with
  | .fn f j=>match X.any (Nat.beq f) with
   | true=>none
   | false=>match Dc j,Md R h q.toList with
    | true,some l=>match P.funcs[f]? with
     | some fn=>match fn.body with
      | some code => if (fn.name == "runtime.NumGoroutine") = false ∧ Nat.ble (l ++ j).length fn.ntmps = true ∧ Dc (l ++ j) = true then
        Ha (l++j) λw=>
        match XQ P fn.results.toList (runX P F p 1000000 (.code code [] ⟨DB 0 w,[],0,fn.ntmps⟩)) with
        | some r=>Em r λr=>if r.closed=true∧(r.flat=true∨Dc (q.toList.map (Ax R))=true) then some r else none
        | none=>none
       else none
      | none=>none
     | none=>none
    | _,_=>none
  | _=>none
 | _=>none
theorem Y7{R}{h} : ∀ {xs:List Operand} {bs:List AV},Md R h xs=some bs→Dc (xs.map (Ax R))=true→bs=xs.map (Ax R)
 | [],bs,j,_=>by cases j;rfl
 | x::xs,bs,j,A=>by
  unfold Md at j
  simp only[ww,Dc,wY] at A
  split at j
  ·rename_i b F q I
   cases j
   rw[ww,Y7 I A.2]
   congr 1
   unfold Kv at q
   split at q
   ·rename_i E;rw[E] at A;cases A.1
   ·rename_i u E
    rw[w0] at q
    obtain⟨B,J,rfl⟩:=q
    rw[E] at A ⊢
    have:∀(u B:List AV),Dc u=true→Mx h u=some B→B=u:=by
     intro u
     induction u with
     | nil=>intro B _ j;cases j;rfl
     | cons a l M=>
      intro B w j
      simp only[Dc,wY] at w
      unfold Mx at j
      split at j
      ·rename_i b m C O
       cases j
       rw[M m w.2 O]
       congr 1
       split at C
       ·cases w.1
       ·split at C
        ·cases C;rfl
        ·cases C
      ·cases j
    rw[this u B A.1 J]
   ·split at q
    ·cases q;rfl
    ·cases q
  ·cases j
theorem iq{F X}{p}(U:P.follows .mixedOrders=true)(hp:Kg P p):LQ P (T7 P F X p):=by
 intro R h o v j n
 unfold T7 at j
 split at j
 ·rename_i M V Y O
  split at j
  ·rename_i f u E
   split at j
   ·cases j
   ·split at j
    ·rename_i I l q
     split at j
     ·rename_i fn Z
      split at j
      ·rename_i code hb
       split at j
       ·rename_i J
        rw[Ke] at j
        split at j
        ·rename_i r B
         rw[Yl] at j
         split at j
         ·rename_i T
          cases j
          have w:Ev true R M (.fn f u):=by rw[← E];exact BQ true R M
          have A:AM P f (I++u) v:=jJ Z hb J.1 rfl T.1 J.2.2 (xj J.2.1) (QB (F:=F) (Q:=FX P fn.results.toList v) U hp (l7 B))
          rcases T.2 with C | C
          ·exact Du O w l (iO q) (λ_=>A) C
          ·refine eQ O w l (ib V.toList C) (λ_=>?_)
           rw[← Y7 q C];exact A
         ·cases j
        ·cases j
       ·cases j
      ·cases j
     ·cases j
    ·cases j
  ·cases j
 ·cases j
def VI(P:Program)(T:List (FuncId × Bool)):Prop:=∀p∈T,AM P p.1 [] (.r (.bool p.2))
def Rr(T:List (FuncId × Bool))(R:AY)(o:Oper):Option AV:=match o.op with
 | .call ⟨.value j,⟨[]⟩,_⟩=>match Ax R j with
  | .fn f []=>match T.find? (λp=>Nat.beq p.1 f) with
   | some p=>some (.r (.bool p.2))
   | none=>none
  | _=>none
 | _=>none
theorem cV{T}(A:VI P T){R}{h}{n}{o}{r}(j:Rr T R o=some r):BH P true o R h n r h n:=by
 unfold Rr at j
 split at j
 ·rename_i u B C
  split at j
  ·rename_i f q
   split at j
   ·rename_i p hp
    cases j
    have E:=List.mem_of_find?_eq_some hp
    have F:p.1=f:=wj (by have:=List.find?_some hp;exact this)
    have l:Ev true R u (.fn f []):=by rw[← q];exact BQ true R u
    have w:=A p E
    rw[F] at w
    exact Du (caps:=[]) (bs:=[]) C l rfl trivial (λ_=>w) rfl
   ·cases j
  ·cases j
 ·cases j
def LM(P:Program)(T:List (FuncId × Bool))(F X:List Nat):Nat→Lv
  | 0 => ⟨UM P, λ_ _ _ => none⟩
  | l+1 =>
    ⟨λR h n o => match UM P R h n o with
      | some r => some r
      | none => match Rr T R o with
        | some v => some (v, h, n)
        | none => match T7 P F X (LM P T F X l) R h o with
          | some v => some (v, h, n)
          | none => XC P F (LM P T F X l) R h n o,
     λR h o => match Rr T R o with
      | some v => some v
      | none => T7 P F X (LM P T F X l) R h o⟩
theorem Z6{T}{F X}(u:P.follows .mixedOrders=true)(w:VI P T):∀l:Nat,Kg P (LM P T F X l)
 | 0=>⟨iS,λR h o v j=>by cases j⟩
 | l+1=>by
  have A:=Z6 u w l (F:=F) (X:=X)
  refine⟨λR h n o r j=>?_,λR h o v j n=>?_⟩
  ·unfold LM at j
   dsimp only at j
   split at j
   ·rename_i B q;cases j;exact iS R h n o _ q
   ·split at j
    ·rename_i v q;cases j;exact cV w q
    ·split at j
     ·rename_i v q;cases j;exact iq u A _ _ _ _ q _
     ·exact ns u A j
  ·unfold LM at j
   dsimp only at j
   split at j
   ·rename_i C q;cases j;exact cV w q
   ·exact iq u A _ _ _ _ j _
theorem AM.runX {f} {fn : Func} {code} {N} {b} (T : List (FuncId × Bool)) (u : VI P T) (F X : List Nat) (l n : Nat) (q : P.follows .mixedOrders = true) (w : P.funcs[f]? = some fn) (A : fn.body = some code) (j : (fn.name == "runtime.NumGoroutine") = false) (B : fn.ntmps = N)
 (C:WW fn.results.toList (Al.runX P F (LM P T F X l) n (.code code [] ⟨[], [], 0, N⟩))=some b):AM P f [] (.r (.bool b)) :=
  jJ w A j B rfl rfl (yt _) (QB (F := F) (Q := FX P fn.results.toList (.r (.bool b))) q (Z6 q u l) (qH C))
end
theorem iL{α:Sort _}{x:α}{p:Prop} : x=x∨p:=.inl rfl
section
variable{P:Program}{ops:Array Oper}{rest:List Oper}{s:St}{K:St→Prop}{o:Oper}
theorem sQ{d}{v}(hg:(o.guard, o.dst, Nat.blt d s.N)=(none, some d, true))(j:AP P true o s.e s.h v)
 (l:AL P ops rest { e := (d, v)::s.e, h := s.h, n := s.n, N := s.N } K):AL P ops (o::rest) s K :=
  AL.step (yY hg).1 (yY (yY hg).2).1 (yY (yY hg).2).2 (AP.spec j _) l
end
theorem jL{α:Sort _}{x:α}{p q:Prop} : (x=x∨p)∨q:=.inl (.inl rfl)
theorem iR{c}{R}{x}{v}(h:BG R x=.whn c v):Ev c R x v:=.inr ⟨c,id,h⟩
theorem nL{n:Nat} : n≤n:=wn n
theorem fR{α β:Sort _}{x:β}(_:α):x=x:=rfl
section
variable{P:Program}{ops:Array Oper}{rest:List Oper}{s:St}{K:St→Prop}{o:Oper}
theorem sA{d}{x}(hg:(o.guard, o.dst, Nat.blt d s.N)=(none, some d, true))(j:o.op=.assign x)
 (l:AL P ops rest { e := (d, BG s.e x)::s.e, h := s.h, n := s.n, N := s.N } K):AL P ops (o::rest) s K := sQ hg (DQ j (.inl rfl)) l
theorem aZ(h:K s):AL P ops [] s K:=AL.nil h
end
section
variable{P:Program}{Q:Exit→St→Prop}{s:St}{x y:Code}
theorem aS(h:∀K:St→Prop,(∀s,AW P y Q s→K s)→(∀s j,Ag s j→K j→K s)→AW P x (En K Q) s):AW P (.seq x y) Q s:=wD h
theorem aR{id}{l:List Oper}(h:AL P l.toArray l s (Q .normal)):AW P (.region id l.toArray false) Q s:=AW.region h
theorem aC{c}{b}(hc:BG s.e c=.r (.bool b))(j:b=true→AW P x Q s)(l:b=false→AW P y Q s):AW P (.cond c x y) Q s:=AW.cond hc j l
end
theorem fB{P}{c}{o:Oper}{R}{h}{t}{x}{f off}{id g j i k}{e}{cs}(l:o.op=.fieldAddr t x f)(q:AU P t f off)(u:Ev c R x (.ptr id g i k))(w:c=true→hget h id=some (.box j e cs))
 (hg:j=g):AP P c o R h (.ptr id g i (k+off)) := FG (ob := .box j e cs) l q u w hg
@[reducible] def rI(k:Int):AV:=.r (.int .i64 k)
@[reducible] def rB(b:Bool):AV:=.r (.bool b)
theorem oQ{P}{ops}{s:St}{L}{i}{p:PO}{o:Oper}(j:(Nat→Nat)→AY)(l:(Nat→Nat)→AR)
 (u:∀D G, BS ops D i→FK (CF D G s.e L) (j G)) (w:∀D G, BS ops D i→FU (DP D G s.h L) (l G)) (h:∀G e q, AP P true o (j G++e) (l G++q) (p.v G))
 (hg:o.guard=none := by rfl) (hd:o.dst=p.d := by rfl) (A:∀d, p.d=some d→Nat.blt d s.N=true := by intro d h;cases h;rfl) (hp:p.hp=none := by rfl) (B:∀G n, p.v (Cg G i n)=p.v G := by intros;rfl):Ob P ops s L i p o :=
  UV (n1 := λn => n) hg hd A hp j l u w B λG e q _ => AP.spec (h G e q) _
@[reducible] def cZ:AV:=.cst (.slice none 0 0)
inductive CJ(e:AY):List Nat→AY→Prop
 | nil:CJ e [] []
 | cons {k:Nat} {ks:List Nat} {v:AV} {r:AY} (h:get e k=v) (t:CJ e ks r):CJ e (k::ks) ((k,v)::r)
inductive E6(e:AR):List Nat→AR→Prop
 | nil:E6 e [] []
 | cons {k:Nat} {ks:List Nat} {v:Az} {r:AR} (h:hget e k=some v) (t:E6 e ks r):E6 e (k::ks) ((k,some v)::r)
theorem CJ.cv{e}{ks}{e'}(h:CJ e ks e'):P9 e' e:=by
 induction h with
 | nil=>trivial
 | cons h _ j=>exact⟨.inl (.inl h),j⟩
theorem E6.cv{e}{ks}{e'}(h:E6 e ks e'):PC e' e:=by
 induction h with
 | nil=>trivial
 | cons h _ j=>exact⟨.inl h,j⟩
section
variable{e:AY}{k:Nat}{ks:List Nat}{r:AY}
theorem kR{d}(t:CJ e ks r)(h:get e k=.r d):CJ e (k::ks) ((k,.r d)::r):=.cons h t
theorem kP{a b c d}(t:CJ e ks r)(h:get e k=.ptr a b c d):CJ e (k::ks) ((k,.ptr a b c d)::r):=.cons h t
theorem kO{a b}(t:CJ e ks r)(h:get e k=.own a b):CJ e (k::ks) ((k,.own a b)::r):=.cons h t
theorem kA{d}(t:CJ e ks r)(h:get e k=.agg d):CJ e (k::ks) ((k,.agg d)::r):=.cons h t
theorem kC{d}(t:CJ e ks r)(h:get e k=.cst d):CJ e (k::ks) ((k,.cst d)::r):=.cons h t
theorem kT{d}(t:CJ e ks r)(h:get e k=.tup d):CJ e (k::ks) ((k,.tup d)::r):=.cons h t
theorem kF{f}{d}(t:CJ e ks r)(h:get e k=.fn f d):CJ e (k::ks) ((k,.fn f d)::r):=.cons h t
theorem kQ{d}{i}(t:CJ e ks r)(h:get e k=.rop d i):CJ e (k::ks) ((k,.rop d i)::r):=.cons h t
theorem kM{a b}(t:CJ e ks r)(h:get e k=.mref a b):CJ e (k::ks) ((k,.mref a b)::r):=.cons h t
theorem kW{b}{v}(t:CJ e ks r)(h:get e k=.whn b v):CJ e (k::ks) ((k,.whn b v)::r):=.cons h t
theorem kL{xs}(t:CJ e ks r)(h:get e k=.full xs):CJ e (k::ks) ((k,.full xs)::r):=.cons h t
end
section
variable{e:AR}{k:Nat}{ks:List Nat}{r:AR}
theorem hB{g}{t}{cs}(t1:E6 e ks r)(h:hget e k=some (.box g t cs)):E6 e (k::ks) ((k,some (.box g t cs))::r):=.cons h t1
theorem hA{g}{t}{sz}{xs}(t1:E6 e ks r)(h:hget e k=some (.arr g t sz xs)):E6 e (k::ks) ((k,some (.arr g t sz xs))::r):=.cons h t1
theorem hC{o}(t1:E6 e ks r)(h:hget e k=some o):E6 e (k::ks) ((k,some o)::r):=.cons h t1
end
section
variable{P:Program}{Q:Exit→St→Prop}{x y:Code}
theorem aF{e:AY}{h:AR}{n N:Nat}(ks:List Nat){e':AY}(hr:AW P x Q ⟨e',[],n,N⟩)
  (he:CJ e ks e':=by repeat' first | exact CJ.nil | apply kR _ rfl | apply kP _ rfl | apply kA _ rfl | apply kO _ rfl | apply kC _ rfl | apply kT _ rfl | apply kF _ rfl | apply kQ _ rfl | apply kM _ rfl | apply kW _ rfl | apply kL _ rfl):AW P x Q ⟨e,h,n,N⟩:=
 AW.weak (Ag.cv (h':=[]) he.cv trivial (wn _)) hr
theorem aG{e:AY}{h:AR}{n N:Nat}(ks js:List Nat){e':AY}{h':AR}(hr:AW P x Q ⟨e',h',n,N⟩)
  (he:CJ e ks e':=by repeat' first | exact CJ.nil | apply kR _ rfl | apply kP _ rfl | apply kA _ rfl | apply kO _ rfl | apply kC _ rfl | apply kT _ rfl | apply kF _ rfl | apply kQ _ rfl | apply kM _ rfl | apply kW _ rfl | apply kL _ rfl)
  (hh:E6 h js h':=by repeat' first | exact E6.nil | apply hB _ rfl | apply hA _ rfl | apply hC _ rfl):AW P x Q ⟨e,h,n,N⟩:=
 AW.weak (Ag.cv he.cv hh.cv (wn _)) hr
end
section
variable{P:Program}{ops:Array Oper}{rest:List Oper}{K:St→Prop}{o o2:Oper}{e:AY}{h:AR}{n N:Nat}
theorem Ay(ks js:List Nat){e':AY}{h':AR}(hr:AL P ops rest ⟨e',h',n,N⟩ K)
  (he:CJ e ks e':=by repeat' first | exact CJ.nil | apply kR _ rfl | apply kP _ rfl | apply kA _ rfl | apply kO _ rfl | apply kC _ rfl | apply kT _ rfl | apply kF _ rfl | apply kQ _ rfl | apply kM _ rfl | apply kW _ rfl | apply kL _ rfl)
  (hh:E6 h js h':=by repeat' first | exact E6.nil | apply hB _ rfl | apply hA _ rfl | apply hC _ rfl):AL P ops rest ⟨e,h,n,N⟩ K:=
 AL.weak (Ag.cv he.cv hh.cv (wn _)) hr
end
section
variable{P:Program}{ops:Array Oper}{rest:List Oper}{K:St→Prop}{o o2:Oper}{s:St}
theorem vQ{d j q}{l b}{v}(hg:(o.guard, o.dst, Nat.blt d s.N, (ops[j]?).bind (·.dst), BG s.e (.tmp q))=(some (j, l), some d, true, some q, .r (.bool b)))(u:AP P (b==l) o s.e s.h v)
 (w:AL P ops rest { e := (d, .whn (b==l) v)::s.e, h := s.h, n := s.n, N := s.N } K):AL P ops (o::rest) s K := by
  simp only[wz] at hg
  obtain⟨A, B, C, E, F⟩ := hg
  exact AL.stepW (.one A E F) B C (AP.spec u _) w
theorem wQ{d j u}{l b q}{v}(hg:(o.guard, o.dst, Nat.blt d s.N, (ops[j]?).bind (·.dst), BG s.e (.tmp u))=(some (j, l), some d, true, some u, .whn q (.r (.bool b))))(w:AP P (q&&(b==l)) o s.e s.h v)
 (A:AL P ops rest { e := (d, .whn (q&&(b==l)) v)::s.e, h := s.h, n := s.n, N := s.N } K):AL P ops (o::rest) s K := by
  simp only[wz] at hg
  obtain⟨B, C, E, F, I⟩ := hg
  exact AL.stepW (.two B F I) C E (AP.spec w _) A
theorem qP{d}{v}(hg:(o.guard, o.dst, Nat.blt d s.N)=(none, some d, true))(j:AP P true o s.e s.h v)
 (l:AQ P ops rest { e := (d, v)::s.e, h := s.h, n := s.n, N := s.N } K):AQ P ops (o::rest) s K :=
  AQ.step (yY hg).1 (yY (yY hg).2).1 (yY (yY hg).2).2 j l
theorem qO{d j q}{l b}{v}(hg:(o.guard, o.dst, Nat.blt d s.N, (ops[j]?).bind (·.dst), BG s.e (.tmp q))=(some (j, l), some d, true, some q, .r (.bool b)))(u:AP P (b==l) o s.e s.h v)
 (w:AQ P ops rest { e := (d, .whn (b==l) v)::s.e, h := s.h, n := s.n, N := s.N } K):AQ P ops (o::rest) s K := by
  simp only[wz] at hg
  obtain⟨A, B, C, E, F⟩ := hg
  exact AQ.stepW (.one A E F) B C u w
theorem qT{d j u}{l b q}{v}(hg:(o.guard, o.dst, Nat.blt d s.N, (ops[j]?).bind (·.dst), BG s.e (.tmp u))=(some (j, l), some d, true, some u, .whn q (.r (.bool b))))(w:AP P (q&&(b==l)) o s.e s.h v)
 (A:AQ P ops rest { e := (d, .whn (q&&(b==l)) v)::s.e, h := s.h, n := s.n, N := s.N } K):AQ P ops (o::rest) s K := by
  simp only[wz] at hg
  obtain⟨B, C, E, F, I⟩ := hg
  exact AQ.stepW (.two B F I) C E w A
theorem sS{d}{v}{h'}{j}(hg:(o.guard, o.dst, Nat.blt d s.N)=(none, some d, true))(l:BH P true o s.e s.h s.n v h' j)
 (q:AL P ops rest { e := (d, v)::s.e, h := h', n := j, N := s.N } K):AL P ops (o::rest) s K :=
  AL.step (yY hg).1 (yY (yY hg).2).1 (yY (yY hg).2).2 l q
theorem lF{t t2}{x y}{f off id g i k d1 d2 j q u}{e1 e2}{cs l}{a}(B:AU P t f off)(C:BV P t2)
 (w:(o.guard, o.dst, Nat.blt d1 s.N, o.op, BG s.e x, hget s.h id)=(none, some d1, true, .fieldAddr t x f, .ptr id g i k, some (.box g e1 cs)))
 (A:(o2.guard, o2.dst, Nat.blt d2 s.N, o2.op, BG ((d1, .ptr id g i (k+off))::s.e) y, hget s.h j, l[u]?)=(none, some d2, true, .load t2 y, .ptr j q 0 u, some (.box q e2 l), some a))
 (E:AL P ops rest { e := (d2, a)::(d1, .ptr id g i (k+off))::s.e, h := s.h, n := s.n, N := s.N } K):AL P ops (o::o2::rest) s K := by
  simp only[wz] at w A
  obtain⟨F, I, a3, a4, a5, J⟩ := w
  obtain⟨M, O, T, U, V, X, Y⟩ := A
  exact AL.step F I a3 (AP.spec (FG (ob := .box g e1 cs) a4 B (.inl a5) (λ_ => J) rfl) _) (AL.step M O T (AP.spec (Xh U C (.inl V) X Y) _) E)
theorem vF{t t2}{x y}{f off id g i k d1 d2 l C E j F I q}{w b B u}{e1 e2}{cs A}{a}(O:AU P t f off)(T:BV P t2)
 (J:(o.guard, o.dst, Nat.blt d1 s.N, (ops[j]?).bind (·.dst), BG s.e (.tmp F), o.op, BG s.e x, hget s.h id)=(some (j, w), some d1, true, some F, .r (.bool b), .fieldAddr t x f, .ptr id g i k, some (.box g e1 cs)))
 (M:(o2.guard, o2.dst, Nat.blt d2 s.N, (ops[I]?).bind (·.dst), BG ((d1, .whn (b==w) (.ptr id g i (k+off)))::s.e) (.tmp q), o2.op, BG ((d1, .whn (b==w) (.ptr id g i (k+off)))::s.e) y, hget s.h l, A[E]?)=(some (I, B), some d2, true, some q, .r (.bool u), .load t2 y, .whn (u==B) (.ptr l C 0 E), some (.box C e2 A), some a))
 (U:AL P ops rest { e := (d2, .whn (u==B) a)::(d1, .whn (b==w) (.ptr id g i (k+off)))::s.e, h := s.h, n := s.n, N := s.N } K):AL P ops (o::o2::rest) s K := by
  simp only[wz] at J M
  obtain⟨V, X, a3, a4, a5, Y, Z, a8⟩ := J
  obtain⟨b1, u, b3, b4, b5, b6, b7, b8, b9⟩ := M
  exact AL.stepW (.one V a4 a5) X a3 (AP.spec (FG (ob := .box g e1 cs) Y O (.inl Z) (λ_ => a8) rfl) _) (AL.stepW (.one b1 b4 b5) u b3 (AP.spec (Xh b6 T (iR b7) b8 b9) _) U)
end
def AV.isR:AV→Bool
 | .r _=>true
 | _=>false
theorem mR{l:List AV}(h:l.all AV.isR=true):∃cs:List RV,l=cs.map .r:=by
 induction l with
 | nil=>exact⟨[],rfl⟩
 | cons a l j=>
  rw[zf,wY] at h
  obtain⟨cs,rfl⟩:=j h.2
  cases a with
  | r d=>exact⟨d::cs,rfl⟩
  | _=>exact Bool.noConfusion h.1
theorem Fz.g2{h}{a}{ds:List AV}(e:a=.agg ds)(e2:ds.all AV.isR=true):Fz h a (.agg ds):=by
 obtain⟨l,j⟩:=mR e2
 exact .g e j
section
variable{P:Program}{ops:Array Oper}{rest:List Oper}{K:St→Prop}{o:Oper}{s:St}
theorem cL{d:Nat}{f:FuncId}{fo:Operand}{xs:Array Operand}{ats:Array TypeId}{bs:List AV}{r:AV}(hq:AM P f bs r)
  (hg:(o.guard,o.dst,Nat.blt d s.N,o.op,BG s.e fo,r.flat)=(none,some d,true,.call { callee:=.value fo,args:=xs,argTypes:=ats },.fn f [],true))
  (hr:AL P ops rest { e:=(d,r)::s.e,h:=s.h,n:=s.n,N:=s.N } K)
  (hx:G8 true s.e s.h xs.toList bs:=by repeat' first | exact trivial | refine⟨⟨_,iL,.d rfl⟩,?_⟩ | refine⟨⟨_,iL,.g2 rfl rfl⟩,?_⟩ | refine⟨⟨_,iL,.one (.own rfl)⟩,?_⟩ | refine⟨⟨_,iR rfl,.d rfl⟩,?_⟩ | refine⟨⟨_,iR rfl,.g2 rfl rfl⟩,?_⟩):AL P ops (o::rest) s K:=by
 simp only[wz] at hg
 obtain⟨h1,h2,h3,h4,h5,h6⟩:=hg
 exact AL.step h1 h2 h3 (Du (caps:=[]) h4 (.inl h5) rfl hx (λ_=>by rw[wv];exact hq) h6) hr
theorem vL{d j dj:Nat}{want b:Bool}{f:FuncId}{fo:Operand}{xs:Array Operand}{ats:Array TypeId}{bs:List AV}{r:AV}(hq:(b==want)=true→AM P f bs r)
  (hg:(o.guard,o.dst,Nat.blt d s.N,(ops[j]?).bind (·.dst),BG s.e (.tmp dj),o.op,BG s.e fo,r.flat)=(some (j,want),some d,true,some dj,.r (.bool b),.call { callee:=.value fo,args:=xs,argTypes:=ats },.fn f [],true))
  (hr:AL P ops rest { e:=(d,.whn (b==want) r)::s.e,h:=s.h,n:=s.n,N:=s.N } K)
  (hx:G8 (b==want) s.e s.h xs.toList bs:=by repeat' first | exact trivial | refine⟨⟨_,iL,.d rfl⟩,?_⟩ | refine⟨⟨_,iL,.g2 rfl rfl⟩,?_⟩ | refine⟨⟨_,iL,.one (.own rfl)⟩,?_⟩ | refine⟨⟨_,iR rfl,.d rfl⟩,?_⟩ | refine⟨⟨_,iR rfl,.g2 rfl rfl⟩,?_⟩):AL P ops (o::rest) s K:=by
 simp only[wz] at hg
 obtain⟨h1,h2,h3,h4,h5,h6,h7,h8⟩:=hg
 exact AL.stepW (.one h1 h4 h5) h2 h3 (Du (caps:=[]) h6 (.inl h7) rfl hx (λhc=>by rw[wv];exact hq hc) h8) hr
end
section
variable{P:Program}{Q:Exit→St→Prop}{s:St}{x y:Code}
theorem aU{id}{l:List Oper}(h:AL P l.toArray l s λj=>AW P y Q j):AW P (.seq (.region id l.toArray false) y) Q s:=.seq (.region h)
theorem aT(h:∀ {K:St→Prop},(∀s,AW P y Q s→K s)→AW P x (En K Q) s):AW P (.seq x y) Q s:=vu λ_ j=>h j
theorem cI{α:Type}{b:Bool}{c:Operand}{X Y Z:α}(hc:BG s.e c=.r (.bool b))(h:(if b=true then X else Y)=Z)(j:X=Z→AW P x Q s)(l:Y=Z→AW P y Q s):AW P (.cond c x y) Q s:=
 AW.cond hc (λe=>j (Ba e h)) (λe=>l (Be e h))
end
theorem mF{P:Program}{f}{fn:Func}{code}{args:List AV}{r:AV}{N}(l:P.funcs[f]?=some fn)(q:fn.ntmps=N)
 (j : (fn.body, fn.name == "runtime.NumGoroutine", r.closed, Nat.ble args.length N) = (some code, false, true, true)) (u : ∀ w, AW P code (FX P fn.results.toList r) ⟨DB 0 args, [], w, N⟩) : AM P f args r := by
  simp only[wz] at j
  obtain⟨A, B, C, E⟩ := j
  exact v8 l A B q C (xj E) u
theorem oZ{P}{ops}{s}{K}{y}{Q}(j:∀s,AW P y Q s→K s)(h:AW P y Q s):AL P ops [] s K:=AL.nil (j _ h)
def Z5(t i:Nat):List PO→Nat→Option Nat→Option Nat
 | [],_,r=>r
 | p::L,k,r=>match Nat.blt k i with
  | true=>Z5 t i L (k+1) (match p.d with
   | some d=>(match Nat.beq d t with
    | true=>some k
    | false=>r)
   | none=>r)
  | false=>r
def Y2(t i:Nat):List PO→Nat→Option Nat→Option Nat
 | [],_,r=>r
 | p::L,k,r=>match Nat.blt k i with
  | true=>Y2 t i L (k+1) (match p.hp with
   | some (d,_)=>(match Nat.beq d t with
    | true=>some k
    | false=>r)
   | none=>r)
  | false=>r
section
variable{P:Program}{ops:Array Oper}{s:St}{L:List PO}{i:Nat}{p:PO}{o:Oper}
theorem Nx{D}{G}{e}{t j}(l:BS ops D i)(_:Z5 t i L 0 none=some j){p:PO}{a}(q:L[j]?=some p)(hd:p.d=some t)(u:wt ops 40 i j=true)(hB:Ji (L.drop (j+1)) t=true)(w:p.v G=a):get (CF D G e L) t=a:=QH l j q hd u hB w
theorem Nn{D}{G}{h}{t j}(l:BS ops D i)(_:Y2 t i L 0 none=some j){p:PO}{ob}{a}(q:L[j]?=some p)(hd:p.hp=some (t,ob))(u:wt ops 40 i j=true)(hB:M9 ops i t (L.drop (j+1)) (j+1)=true)(w:ob G=a):hget (DP D G h L) t=a:=rq l j q hd u hB w
theorem oB(ie:AY)(ih:AR)(h:∀ {G e h'},AP P true o (ie++e) (ih++h') (p.v G))
  (hg:o.guard=none:=by rfl) (hd:o.dst=p.d:=by rfl) (hN:∀d,p.d=some d→Nat.blt d s.N=true:=by intro d h;cases h<;>rfl) (hp:p.hp=none:=by rfl) (hv:∀G n,p.v (Cg G i n)=p.v G:=by intros;rfl)
  (hE:∀D G,BS ops D i→FK (CF D G s.e L) ie:=by intro _ _ hr;repeat' first | exact trivial | refine⟨NM rfl rfl,?_⟩ | refine⟨Nx hr rfl rfl rfl (by kernel_rfl) rfl rfl,?_⟩ | refine⟨MO hr (by kernel_rfl) rfl,?_⟩)
  (hH:∀D G,BS ops D i→FU (DP D G s.h L) ih:=by intro _ _ hr;repeat' first | exact trivial | refine⟨Ml rfl rfl,?_⟩ | refine⟨Nn hr rfl rfl rfl (by kernel_rfl) (by kernel_rfl) rfl,?_⟩ | refine⟨JI hr (by kernel_rfl) rfl,?_⟩):Ob P ops s L i p o:=
 UV (n1:=λn=>n) hg hd hN hp (λ_=>ie) (λ_=>ih) hE hH hv λ_ _ _ _=>AP.spec h _
theorem oC(ie:(Nat→Nat)→AY)(ih:(Nat→Nat)→AR)(h:∀G e h',AP P true o (ie G++e) (ih G++h') (p.v G))
  (hg:o.guard=none:=by rfl) (hd:o.dst=p.d:=by rfl) (hN:∀d,p.d=some d→Nat.blt d s.N=true:=by intro d h;cases h<;>rfl) (hp:p.hp=none:=by rfl) (hv:∀G n,p.v (Cg G i n)=p.v G:=by intros;rfl)
  (hE:∀D G,BS ops D i→FK (CF D G s.e L) (ie G):=by intro _ _ hr;repeat' first | exact trivial | refine⟨NM rfl rfl,?_⟩ | refine⟨Nx hr rfl rfl rfl (by kernel_rfl) rfl rfl,?_⟩ | refine⟨MO hr (by kernel_rfl) rfl,?_⟩)
  (hH:∀D G,BS ops D i→FU (DP D G s.h L) (ih G):=by intro _ _ hr;repeat' first | exact trivial | refine⟨Ml rfl rfl,?_⟩ | refine⟨Nn hr rfl rfl rfl (by kernel_rfl) (by kernel_rfl) rfl,?_⟩ | refine⟨JI hr (by kernel_rfl) rfl,?_⟩):Ob P ops s L i p o:=
 UV (n1:=λn=>n) hg hd hN hp ie ih hE hH hv λG e h' _=>AP.spec (h G e h') _
theorem oD(ie:(Nat→Nat)→AY)(ih:(Nat→Nat)→AR){n1:Nat→Nat}(h:∀G e h' n,BH P true o (ie G++e) (ih G++h') n (p.v G) (ih G++h') (n1 n))
  (hg:o.guard=none:=by rfl) (hd:o.dst=p.d:=by rfl) (hN:∀d,p.d=some d→Nat.blt d s.N=true:=by intro d h;cases h<;>rfl) (hp:p.hp=none:=by rfl) (hv:∀G n,p.v (Cg G i n)=p.v G:=by intros;rfl)
  (hE:∀D G,BS ops D i→FK (CF D G s.e L) (ie G):=by intro _ _ hr;repeat' first | exact trivial | refine⟨NM rfl rfl,?_⟩ | refine⟨Nx hr rfl rfl rfl (by kernel_rfl) rfl rfl,?_⟩ | refine⟨MO hr (by kernel_rfl) rfl,?_⟩)
  (hH:∀D G,BS ops D i→FU (DP D G s.h L) (ih G):=by intro _ _ hr;repeat' first | exact trivial | refine⟨Ml rfl rfl,?_⟩ | refine⟨Nn hr rfl rfl rfl (by kernel_rfl) (by kernel_rfl) rfl,?_⟩ | refine⟨JI hr (by kernel_rfl) rfl,?_⟩):Ob P ops s L i p o:=
 UV hg hd hN hp ie ih hE hH hv h
theorem oG{c:Bool}{v0:(Nat→Nat)→AV}(ie:AY)(ih:AR)(hv:∀G n,p.v (Cg G i n)=.whn c (v0 G))(h:∀ {G e h'},AP P c o (ie++e) (ih++h') (v0 G))
  (hd:o.dst=p.d:=by rfl) (hN:∀d,p.d=some d→Nat.blt d s.N=true:=by intro d h;cases h<;>rfl) (hp:p.hp=none:=by rfl)
  (hE:∀D G,BS ops D i→FK (CF D G s.e L) ie:=by intro _ _ hr;repeat' first | exact trivial | refine⟨NM rfl rfl,?_⟩ | refine⟨Nx hr rfl rfl rfl (by kernel_rfl) rfl rfl,?_⟩ | refine⟨MO hr (by kernel_rfl) rfl,?_⟩)
  (hH:∀D G,BS ops D i→FU (DP D G s.h L) ih:=by intro _ _ hr;repeat' first | exact trivial | refine⟨Ml rfl rfl,?_⟩ | refine⟨Nn hr rfl rfl rfl (by kernel_rfl) (by kernel_rfl) rfl,?_⟩ | refine⟨JI hr (by kernel_rfl) rfl,?_⟩)
  (hg:∀e,CI (ie++e) ops o c:=by intros;first | exact .one rfl rfl rfl | exact .two rfl rfl rfl):Ob P ops s L i p o:=
 jO (n1:=λn=>n) (c:=c) (v0:=v0) hd hN hp (λ_=>ie) (λ_=>ih) hE hH hv (λ_ e=>hg e) λ_ _ _ _=>AP.spec h _
theorem oH{c:Bool}{v0:(Nat→Nat)→AV}(ie:(Nat→Nat)→AY)(ih:(Nat→Nat)→AR)(hv:∀G n,p.v (Cg G i n)=.whn c (v0 G)){n1:Nat→Nat}(h:∀G e h' n,BH P c o (ie G++e) (ih G++h') n (v0 G) (ih G++h') (n1 n))
  (hd:o.dst=p.d:=by rfl) (hN:∀d,p.d=some d→Nat.blt d s.N=true:=by intro d h;cases h<;>rfl) (hp:p.hp=none:=by rfl)
  (hE:∀D G,BS ops D i→FK (CF D G s.e L) (ie G):=by intro _ _ hr;repeat' first | exact trivial | refine⟨NM rfl rfl,?_⟩ | refine⟨Nx hr rfl rfl rfl (by kernel_rfl) rfl rfl,?_⟩ | refine⟨MO hr (by kernel_rfl) rfl,?_⟩)
  (hH:∀D G,BS ops D i→FU (DP D G s.h L) (ih G):=by intro _ _ hr;repeat' first | exact trivial | refine⟨Ml rfl rfl,?_⟩ | refine⟨Nn hr rfl rfl rfl (by kernel_rfl) (by kernel_rfl) rfl,?_⟩ | refine⟨JI hr (by kernel_rfl) rfl,?_⟩)
  (hg:∀G e,CI (ie G++e) ops o c:=by intros;first | exact .one rfl rfl rfl | exact .two rfl rfl rfl):Ob P ops s L i p o:=
 jO (c:=c) (v0:=v0) hd hN hp ie ih hE hH hv hg h
theorem oM{id:Nat}{ob:(Nat→Nat)→Option Az}{n1:Nat→Nat}(ie:(Nat→Nat)→AY)(ih:(Nat→Nat)→AR)(hp:p.hp=some (id,ob))(h:∀(G:Nat→Nat) e h' n,BH P true o (ie G++e) (ih G++h') n (p.v (Cg G i n)) ((id,ob (Cg G i n))::(ih G++h')) (n1 n))
  (hg:o.guard=none:=by rfl) (hd:o.dst=p.d:=by rfl) (hN:∀d,p.d=some d→Nat.blt d s.N=true:=by intro d h;cases h<;>rfl)
  (hE:∀D G,BS ops D i→FK (CF D G s.e L) (ie G):=by intro _ _ hr;repeat' first | exact trivial | refine⟨NM rfl rfl,?_⟩ | refine⟨Nx hr rfl rfl rfl (by kernel_rfl) rfl rfl,?_⟩ | refine⟨MO hr (by kernel_rfl) rfl,?_⟩)
  (hH:∀D G,BS ops D i→FU (DP D G s.h L) (ih G):=by intro _ _ hr;repeat' first | exact trivial | refine⟨Ml rfl rfl,?_⟩ | refine⟨Nn hr rfl rfl rfl (by kernel_rfl) (by kernel_rfl) rfl,?_⟩ | refine⟨JI hr (by kernel_rfl) rfl,?_⟩):Ob P ops s L i p o:=
 vp hg hd hN hp ie ih hE hH h
end
@[reducible] def pO(d:Nat)(v:AV):PO:=⟨some d,λ_=>v,none,[]⟩
theorem rP{P:Program}{id:Nat}{l:List Oper}{s:St}{Q:Exit→St→Prop}(n:Nat)(L:List PO){lt:List Oper}(hm:P.follows .mixedOrders=true)(e4:l.drop n=lt)(hOb:LB P l.toArray s L 0 L l)
  (h:∀(G:Nat→Nat) (n':Nat),AL P l.toArray lt ⟨CF (λ_=>true) G s.e L,DP (λ_=>true) G s.h L,n',s.N⟩ (Q .normal)) (hB:XJ l.toArray n L=true:=by kernel_rfl)
  (hLoc:Il L:=by repeat' first | exact trivial | refine⟨λ_ _ _=>⟨rfl,λ_ _ e=>by cases e<;>rfl⟩,?_⟩):AW P (.region id l.toArray true) Q s:=Ip n L hm hB hLoc e4 hOb h
theorem wk{s s'}(h:Ag s s':=by refine Ag.cv ?_ ?_ nL<;>repeat (first | exact trivial | refine⟨jL,?_⟩ | refine⟨.inl rfl,?_⟩)):Ag s s':=h
section
variable{P:Program}{ops:Array Oper}{rest:List Oper}{K:St→Prop}{o:Oper}{s:St}
theorem mM{d}{x}(hg:(o.guard,o.dst,Nat.blt d s.N,o.op)=(none,some d,true,.move x))(j:AL P ops rest { e:=(d,BG s.e x)::s.e,h:=s.h,n:=s.n,N:=s.N } K):AL P ops (o::rest) s K:=by
 simp only[wz] at hg
 obtain⟨l,q,u,w⟩:=hg
 exact AL.step l q u (AP.spec (ST w (.inl rfl)) _) j
theorem mA{d}{x}(hg:(o.guard,o.dst,Nat.blt d s.N,o.op)=(none,some d,true,.assign x))(j:AL P ops rest { e:=(d,BG s.e x)::s.e,h:=s.h,n:=s.n,N:=s.N } K):AL P ops (o::rest) s K:=by
 simp only[wz] at hg
 obtain⟨l,q,u,w⟩:=hg
 exact AL.step l q u (AP.spec (DQ w (.inl rfl)) _) j
theorem vM{d j q}{l b}{x}(hg:(o.guard, o.dst, Nat.blt d s.N, (ops[j]?).bind (·.dst), BG s.e (.tmp q), o.op)=(some (j, l), some d, true, some q, .r (.bool b), .move x))
 (u:AL P ops rest { e := (d, .whn (b==l) (BG s.e x))::s.e, h := s.h, n := s.n, N := s.N } K):AL P ops (o::rest) s K := by
  simp only[wz] at hg
  obtain⟨w, A, B, C, E, F⟩ := hg
  exact AL.stepW (.one w C E) A B (AP.spec (ST F (.inl rfl)) _) u
end
section
variable{P:Program}{ops:Array Oper}{rest:List Oper}{K:St→Prop}{o:Oper}{s:St}{d:Nat}{x y:Operand}
theorem one{v}(hg:o.guard=none)(hd:o.dst=some d)(j:Nat.blt d s.N=true)(l:AP P true o s.e s.h v)(q:AL P ops rest { e:=(d,v)::s.e,h:=s.h,n:=s.n,N:=s.N } K):AL P ops (o::rest) s K:=AL.step hg hd j (AP.spec l _) q
theorem xI{α:Type}{f}{t e}{sz b}{l:List α}{k}{z}{a}(q:Bg P t e sz b)(hg:(o.guard, o.dst, Nat.blt d s.N, o.op, BG s.e x, BG s.e y)=(none, some d, true, .indexAddr t x y, .r (.sl (l.map f)), .r (.int k z)))
 (u:AJ l z=some a) (w:AL P ops rest { e := (d, .rop (f a) 0)::s.e, h := s.h, n := s.n, N := s.N } K) (j:∀a, (f a).length=sz := by intro _;rfl):AL P ops (o::rest) s K := by
  simp only[wz] at hg
  exact one hg.1 hg.2.1 hg.2.2.1 (fA hg.2.2.2.1 q.slice (.inl hg.2.2.2.2.1) (.inl hg.2.2.2.2.2) j λ_ => u) w
theorem xL{α:Type}{f}{t e}{sz b}{l:List α}(j:Bg P t e sz b)(hg:(o.guard, o.dst, Nat.blt d s.N, o.op, BG s.e x)=(none, some d, true, .call { callee := .builtin .len, args := #[x], argTypes := #[t] }, .r (.sl (l.map f))))
 (q:AL P ops rest { e := (d, .r (.int .i64 l.length))::s.e, h := s.h, n := s.n, N := s.N } K):AL P ops (o::rest) s K := by
  simp only[wz] at hg
  exact one hg.1 hg.2.1 hg.2.2.1 (Bd hg.2.2.2.1 j.slice (.inl hg.2.2.2.2)) q
theorem xA{t j}{k}{a b r}(hg:(o.guard, o.dst, Nat.blt d s.N, o.op, BG s.e x, BG s.e y)=(none, some d, true, .binOp .add t x y j, .r (.int k a), .r (.int k b)))
 (l:AK k (a+b)=some r) (q:AL P ops rest { e := (d, .r (.int k r))::s.e, h := s.h, n := s.n, N := s.N } K):AL P ops (o::rest) s K := by
  simp only[wz] at hg
  exact one hg.1 hg.2.1 hg.2.2.1 (Ga hg.2.2.2.1 (.inl hg.2.2.2.2.1) (.inl hg.2.2.2.2.2) λ_ => l) q
theorem xN{a b}(hg:(o.guard, o.dst, Nat.blt d s.N, o.op, BG s.e x, BG s.e y)=(none, some d, true, .pick x y (.const (.bool false)), .r (.bool a), .whn (a==true) (.r (.bool b))))
 (j:AL P ops rest { e := (d, .r (.bool (a&&b)))::s.e, h := s.h, n := s.n, N := s.N } K):AL P ops (o::rest) s K := by
  simp only[wz] at hg
  exact one hg.1 hg.2.1 hg.2.2.1 (Ly hg.2.2.2.1 (.inl hg.2.2.2.2.1) (iR hg.2.2.2.2.2)) j
theorem xO{a b}(hg:(o.guard, o.dst, Nat.blt d s.N, o.op, BG s.e x, BG s.e y)=(none, some d, true, .pick x (.const (.bool true)) y, .r (.bool a), .whn (a==false) (.r (.bool b))))
 (j:AL P ops rest { e := (d, .r (.bool (a||b)))::s.e, h := s.h, n := s.n, N := s.N } K):AL P ops (o::rest) s K := by
  simp only[wz] at hg
  exact one hg.1 hg.2.1 hg.2.2.1 (B1 hg.2.2.2.1 (.inl hg.2.2.2.2.1) (iR hg.2.2.2.2.2)) j
theorem xB{t}{row:List RV}{sz}(cs:List AV)(j:BW P t sz)(hg:(o.guard, o.dst, Nat.blt d s.N, o.op, BG s.e x, row.length, row.map AV.r)=(none, some d, true, .load t x, .rop row 0, sz, cs))
 (l:AL P ops rest { e := (d, .agg cs)::s.e, h := s.h, n := s.n, N := s.N } K):AL P ops (o::rest) s K := by
  simp only[wz] at hg
  exact one hg.1 hg.2.1 hg.2.2.1 (gj hg.2.2.2.1 j (.inl hg.2.2.2.2.1) hg.2.2.2.2.2.1 hg.2.2.2.2.2.2) l
theorem xC{t}{id g}{e}{sz}{cs:List AV}(j:BW P t sz)(hg:(o.guard, o.dst, Nat.blt d s.N, o.op, BG s.e x, hget s.h id, cs.length)=(none, some d, true, .load t x, .ptr id g 0 0, some (.box g e cs), sz))
 (l:AL P ops rest { e := (d, .agg cs)::s.e, h := s.h, n := s.n, N := s.N } K):AL P ops (o::rest) s K := by
  simp only[wz] at hg
  exact one hg.1 hg.2.1 hg.2.2.1 (iF hg.2.2.2.1 j (.inl hg.2.2.2.2.1) hg.2.2.2.2.2.1 hg.2.2.2.2.2.2) l
theorem xV{t}{row}{k}(r:RV)(j:BV P t)(hg:(o.guard, o.dst, Nat.blt d s.N, o.op, BG s.e x, row[k]?)=(none, some d, true, .load t x, .rop row k, some r))
 (l:AL P ops rest { e := (d, .r r)::s.e, h := s.h, n := s.n, N := s.N } K):AL P ops (o::rest) s K := by
  simp only[wz] at hg
  exact one hg.1 hg.2.1 hg.2.2.1 (ZX hg.2.2.2.1 j (.inl hg.2.2.2.2.1) hg.2.2.2.2.2) l
theorem xX{vs}{i}{a}(hg:(o.guard, o.dst, Nat.blt d s.N, o.op, BG s.e x, vs[i]?)=(none, some d, true, .extract x i, .tup vs, some a))
 (j:AL P ops rest { e := (d, a)::s.e, h := s.h, n := s.n, N := s.N } K):AL P ops (o::rest) s K := by
  simp only[wz] at hg
  exact one hg.1 hg.2.1 hg.2.2.1 (bZ hg.2.2.2.1 (.inl hg.2.2.2.2.1) hg.2.2.2.2.2) j
theorem xS{t j}{k}{a b}(hg:(o.guard, o.dst, Nat.blt d s.N, o.op, BG s.e x, BG s.e y)=(none, some d, true, .binOp .lss t x y j, .r (.int k a), .r (.int k b)))
 (l:AL P ops rest { e := (d, .r (.bool (decide (a<b))))::s.e, h := s.h, n := s.n, N := s.N } K):AL P ops (o::rest) s K := by
  simp only[wz] at hg
  exact one hg.1 hg.2.1 hg.2.2.1 (Bp hg.2.2.2.1 (.inl hg.2.2.2.2.1) (.inl hg.2.2.2.2.2)) l
theorem xQ{t j}{k}{a b}(hg:(o.guard, o.dst, Nat.blt d s.N, o.op, BG s.e x, BG s.e y)=(none, some d, true, .binOp .eql t x y j, .r (.int k a), .r (.int k b)))
 (l:AL P ops rest { e := (d, .r (.bool (decide (a=b))))::s.e, h := s.h, n := s.n, N := s.N } K):AL P ops (o::rest) s K := by
  simp only[wz] at hg
  exact one hg.1 hg.2.1 hg.2.2.1 (X3 hg.2.2.2.1 (.inl hg.2.2.2.2.1) (.inl hg.2.2.2.2.2)) l
theorem xU{t j}{k}{a b}(hg:(o.guard, o.dst, Nat.blt d s.N, o.op, BG s.e x, BG s.e y)=(none, some d, true, .binOp .neq t x y j, .r (.int k a), .r (.int k b)))
 (l:AL P ops rest { e := (d, .r (.bool (!(a=b))))::s.e, h := s.h, n := s.n, N := s.N } K):AL P ops (o::rest) s K := by
  simp only[wz] at hg
  exact one hg.1 hg.2.1 hg.2.2.1 (CP hg.2.2.2.1 (.inl hg.2.2.2.2.1) (.inl hg.2.2.2.2.2)) l
end
theorem xH{ρ α:Type}{o:ρ}{v:α ⊕ ρ}{q:ρ}(j:∀q,v=.inr q→o=q)(h:some (.inr q)=some v):o=q:=j _ (xc h).symm
theorem gx{P}{T r}{s:St}{t}(e:some T=some r)(h:get s.e t=rI T):FX P [.tmp t] (rI r) .ret s:=CX (λr=>rI r) e (.inl rfl) (.t (.d h))
theorem iB{P}{T r}{s:St}{t}(e:some T=some r)(h:get s.e t=rB T):FX P [.tmp t] (rB r) .ret s:=CX (λr=>rB r) e (.inl rfl) (.t (.d h))
theorem zI{P}{T r}{s:St}{t id}{x}{o:Oper}{Q}(e:some T=some r)(h:(o.guard, o.dst, Nat.blt t s.N, o.op, BG s.e x)=(none, some t, true, .assign x, rI T))
 (k:FX P [.tmp t] (rI r) .ret { e := (t, BG s.e x)::s.e, h := s.h, n := s.n, N := s.N } → Q .ret { e := (t, BG s.e x)::s.e, h := s.h, n := s.n, N := s.N }):AW P (.seq (.region id [o].toArray false) .ret) Q s := by
  simp only[wz] at h
  refine aU (AL.step h.1 h.2.1 h.2.2.1 (AP.spec (DQ h.2.2.2.1 (.inl rfl)) _) (AL.nil (AW.ret (k (gx e ?_)))))
  show get (_::_) t=_
  unfold get
  rw[WAM]
  exact h.2.2.2.2
theorem zB{P}{T r}{s:St}{t id}{x}{o:Oper}{Q}(e:some T=some r)(h:(o.guard, o.dst, Nat.blt t s.N, o.op, BG s.e x)=(none, some t, true, .assign x, rB T))
 (k:FX P [.tmp t] (rB r) .ret { e := (t, BG s.e x)::s.e, h := s.h, n := s.n, N := s.N } → Q .ret { e := (t, BG s.e x)::s.e, h := s.h, n := s.n, N := s.N }):AW P (.seq (.region id [o].toArray false) .ret) Q s := by
  simp only[wz] at h
  refine aU (AL.step h.1 h.2.1 h.2.2.1 (AP.spec (DQ h.2.2.2.1 (.inl rfl)) _) (AL.nil (AW.ret (k (iB e ?_)))))
  show get (_::_) t=_
  unfold get
  rw[WAM]
  exact h.2.2.2.2
@[reducible] def rL{α:Type}(l:List α):AV:=rI (l.length:Int)
@[reducible] def rS(l:List UInt8):AV:=.r (.str l)
abbrev NN:=Nat→Nat
open Go.WideShapes
section
variable{H:Type}(K:F7 H){enc:TypeId × Value→H}{P:Program}{W:World}
theorem iu{t:TypeId}{A:Array Field}{α:Type}{f:α→List RV}{ok:α→Prop}{μ:α→Nat}{v:Value}{d:DataW H}{p:List MemPlace}{r:Reach}{b0:Nat}(B:P.underlying t=some (.struct A))(C:BO K enc P W t f ok μ)
  (j:Value.okWide P W r b0 t v) (h:DataW.Trod enc P W 0 (λ_=>true) true t v d p):∃a,ok a∧AS (Cx.start W) (.agg ((f a).map .r)) v∧μ a≤K.B d:=by
 obtain⟨O,rfl,_⟩:=okWide_struct B j
 obtain⟨l,E⟩:=h
 obtain⟨a,F,q,I⟩:=C l _ _ E
 refine⟨a,F,.agg ?_ λi c u w J=>?_,I⟩
 ·have:=q.1
  rw[wq,← this];rfl
 ·rw[xJ,w0] at w
  obtain⟨M,hd,rfl⟩:=w
  exact .r (q.2 i M u hd (by rw[← J];exact yU))
end
end Go.Proofs.YtdafahjmopdleaaGreatDoor.Al

namespace Go.Proofs.YtdafahjmopdleaaGreatDoor.Al
open Go.Lib
theorem cS{W:World}{g}{row}(h:∀j d,row[j]?=some d→∃v,W.cell? ⟨g,j,none⟩=some v∧BY W (· < W.heap.size) d v):AS (Cx.start W) (.rop row 0) (.pointer (some ⟨g,0,none⟩)):=by
 have u:row≠[]→g<W.heap.size:=by
  intro w
  obtain⟨d,hd⟩:∃d,row[0]?=some d:=by
   cases row with
   | nil=>exact absurd rfl w
   | cons d r=>exact⟨d,rfl⟩
  obtain⟨v,l,_⟩:=h 0 d hd
  unfold World.cell? at l
  rcases yw g W.heap.size with q | q
  ·exact q
  ·rw[zd q] at l;cases l
 exact AS.rop (x:=Cx.start W) (row:=row) (k:=0) (b:=g) (off:=0) (λj=>(W.cell? ⟨g,j,none⟩).getD undef) u
  (λj d A=>by obtain⟨v,l,_⟩:=h j d A;rw[xE];show W.cell? _=_;rw[l];rfl)
  (λj d A=>by obtain⟨v,l,q⟩:=h j d A;rw[l];exact q)
theorem gb{α β:Type}(f:α→β):∀(l:List α) (j:Nat),(l.flatMap λz=>[f z])[j]?=(l[j]?).map f
 | [],j=>by simp
 | x::l,0=>by simp
 | x::l,j+1=>by
  have:=gb f l j
  rw[zb,zn,yh,this,yh]
theorem eV{α β:Type}(f g:α→β):∀(l:List α) (j:Nat) (d:β),(l.flatMap λz=>[f z,g z])[j]?=some d→∃i a,l[i]?=some a∧((j=2 * i∧d=f a)∨(j=2 * i+1∧d=g a))
 | [],j,d,h=>by simp at h
 | x::l,0,d,h=>by
  have:f x=d:=by simpa using h
  exact⟨0,x,rfl,.inl ⟨rfl,this.symm⟩⟩
 | x::l,1,d,h=>by
  have:g x=d:=by simpa using h
  exact⟨0,x,rfl,.inr ⟨rfl,this.symm⟩⟩
 | x::l,j+2,d,h=>by
  rw[zb] at h
  have w:(l.flatMap λz=>[f z,g z])[j]?=some d:=by simpa using h
  obtain⟨i,a,A,q⟩:=eV f g l j d w
  refine⟨i+1,a,by simpa using A,?_⟩
  rcases q with ⟨q,u⟩ | ⟨q,u⟩
  ·exact .inl ⟨by omega,u⟩
  ·exact .inr ⟨by omega,u⟩
theorem jw {P : Program} {W : World} {d1 d2 : DataW Unit} {t1 t2 e1 e2 : TypeId} {fs : Array Field} (h1 : VarReads P W "unicode/utf8.first" d1) (hd1 : d1 = tabData .u8 FH) (n1 : P.globalNamed "unicode/utf8.first" = some If)
  (y1:(P.globals[If]?).map (·.type)=some t1) (u1:P.underlying t1=some (.array 256 e1)) (ue:P.underlying e1=some (.int .u8)) (ce:P.cellsOf e1=1) (ct:P.cellsOf t1=256)
  (h2 : VarReads P W "unicode/utf8.acceptRanges" d2) (hd2 : d2 = .agg (JJ.map fun p => .agg ([p.1, p.2].map fun z => .lit (.int .u8 z)))) (n2 : P.globalNamed "unicode/utf8.acceptRanges" = some Ig)
  (y2:(P.globals[Ig]?).map (·.type)=some t2) (u2:P.underlying t2=some (.array 16 e2)) (us:P.underlying e2=some (.struct fs)) (hfs:∀(i:Nat) (f:Field),fs[i]?=some f→P.underlying f.type=some (.int .u8)∧f.offset=i∧P.cellsOf f.type=1)
  (hsz:fs.size=2) (c2:P.cellsOf e2=2)
  (hw:∀g cs,gZ g=some cs→0<cs.size∧∃t p,W.heap[g]?=some (.cells cs t p):=by intro _ _ h;cases h):Fm (Cx.start W):=by
 refine⟨λg row hg=>?_,λg cs hg=>⟨?_,hw g cs hg⟩⟩
 rotate_left
 ·obtain⟨_,t,p,h⟩:=hw g cs hg
  show g<W.heap.size
  exact(xi.1 h).1
 unfold Hc at hg
 by_cases hF:g=If
 ·rw[wU hF] at hg
  cases hg
  subst hF
  obtain⟨g,t,cs,fuel,p,hg,hty,hvar,hd⟩:=h1
  obtain rfl:=xc (n1.symm.trans hg)
  obtain rfl:=xc (y1.symm.trans hty)
  subst hd1
  have hcs:=cells_of_tab u1 ue ce ct hd
  refine cS λj d hj=>?_
  rw[gb,w0] at hj
  obtain⟨z,hz,rfl⟩:=hj
  refine⟨.int .u8 z,?_,.int _ _⟩
  rw[World.var?_cell hg hvar j,← yU,hcs,xJ,hz];rfl
 ·rw[ne hF] at hg
  by_cases hA:g=Ig
  ·rw[wU hA] at hg
   cases hg
   subst hA
   obtain⟨g,t,cs,fuel,p,hg,hty,hvar,hd⟩:=h2
   obtain rfl:=xc (n2.symm.trans hg)
   obtain rfl:=xc (y2.symm.trans hty)
   subst hd2
   refine cS λj d hj=>?_
   obtain⟨i,a,hi,hja⟩:=eV _ _ _ _ _ hj
   have hil:i<16:=(wc.1 hi).1
   obtain⟨fuel',d',q,hdi,he⟩:=array_elem u2 hd i hil
   rw[xJ,hi] at hdi
   cases hdi
   rw[c2] at he
   have hcs:=ints_of_struct us hfs (by rw[c2,hsz]) he
   have e0:=yz (·[0]?) hcs
   have e1:=yz (·[1]?) hcs
   simp only[yJ,yA] at e0 e1
   rcases hja with ⟨rfl,rfl⟩ | ⟨rfl,rfl⟩
   ·refine⟨.int .u8 a.1,?_,.int _ _⟩
    rw[World.var?_cell hg hvar (2 * i),← yU]
    simpa[yv] using e0
   ·refine⟨.int .u8 a.2,?_,.int _ _⟩
    rw[World.var?_cell hg hvar (2 * i+1),← yU]
    simpa[yv] using e1
  ·rw[ne hA] at hg;cases hg
end Go.Proofs.YtdafahjmopdleaaGreatDoor.Al
