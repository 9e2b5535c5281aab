/- The program logic, a part of it. -/
import Derived.Test.YtdafahjmopdleaaGreatDoorAl1
import Derived.Below
import Derived.Laws.BytesString
import Derived.Laws.RangeString
import Derived.Lib.Bytealg
import Derived.Lib.LaidU8
import Derived.MapKept
import Derived.Maps.RangeRun
import Derived.OrdersIn
import Derived.Shelf.Unicode.ValidAny
set_option linter.all false
namespace Go.Proofs.YtdafahjmopdleaaGreatDoor.Al
section
variable{P:Program}{ops:Array Oper}
def V6(ops:Array Oper)(n:Nat):Bool:=(List.range n).all λi=>match ops[i]? with | some o=>o.after.all λe=>!Region.binds .any e||(e.on<i) | none=>false
def LD(P:Program)(ops:Array Oper)(s:St)(j:List PO):Nat→List PO→List Oper→Prop
 | _,[],_=>True
 | _,_::_,[]=>False
 | i,p::L,o::l=>Ob P ops s j i p o∧LD P ops s j (i+1) L l
theorem LD.at{s}{A} : ∀ {L:List PO} {l:List Oper} {q:Nat},LD P ops s A q L l→∀ {j:Nat} {p:PO} {o:Oper},L[j]?=some p→l[j]?=some o→Ob P ops s A (q+j) p o
 | _::_,_::_,q,h,0,_,_,u,w=>by cases u;cases w;exact h.1
 | _::L,_::l,q,h,j+1,p,o,u,w=>by
  have:=LD.at (j:=j) h.2 (p:=p) (o:=o) (by simpa using u) (by simpa using w)
  rwa [show q+(j+1)=q+1+j by omega]
 | _::_,[],_,h,_,_,_,_,_=>h.elim
 | [],_,_,_,_,_,_,u,_=>by simp at u
def EJ(listed:Array Bool):Nat→Nat
 | 0=>0
 | n+1=>EJ listed n+(if listed.getD n false then 0 else 1)
theorem U4{listed:Array Bool}{i}(q:i<listed.size)(j:listed.getD i false=false):∀n,EJ (listed.setIfInBounds i true) n+(if i<n then 1 else 0)=EJ listed n
 | 0=>by simp[EJ]
 | n+1=>by
  have u:=U4 q j n
  unfold EJ
  by_cases l:i=n
  ·subst l
   rw[j]
   have:(listed.setIfInBounds i true).getD i false=true:=by simp[q]
   rw[this]
   simp at u ⊢
   exact u
  ·rw[getD_set_ne false l]
   have:(i<n+1)↔(i<n):=by omega
   simp only[this]
   omega
theorem X5{listed:Array Bool} : ∀ {n:Nat}, 0<EJ listed n→∃i, i<n∧listed.getD i false=false∧∀j, j<i→listed.getD j false=true
  | 0, h => by simp[EJ] at h
  | n+1, h => by
    by_cases w:0<EJ listed n
    · obtain⟨i, E, A, B⟩ := X5 w
      exact⟨i, by omega, A, B⟩
    · have l:∀m, m≤n→EJ listed m=0 := by
        intro m F
        have:EJ listed m≤EJ listed n := by
          clear h w
          induction n with
          | zero => have:m=0 := by omega
                    subst this;exact wL _
          | succ n C =>
            by_cases q:m=n+1
            · subst q;exact wL _
            · exact w0 (C (by omega)) (Nat.le_add_right ..)
        omega
      unfold EJ at h
      refine⟨n, by omega, ?_, λj I => ?_⟩
      · cases u:listed.getD n false with
        | false => rfl
        | true => rw[u] at h;simp at h;omega
      · have := l (j+1) (by omega)
        unfold EJ at this
        cases u:listed.getD j false with
        | true => rfl
        | false => rw[u] at this;simp at this
theorem VT{listed:Array Bool} : ∀ {n:Nat},EJ listed n=0→∀j,j<n→listed.getD j false=true
 | 0,_,j,q=>by omega
 | n+1,h,j,q=>by
  unfold EJ at h
  by_cases l:j=n
  ·subst l
   cases u:listed.getD j false with
   | true=>rfl
   | false=>rw[u] at h;simp at h
  ·exact VT (n:=n) (by omega) j (by omega)
theorem VD{listed:Array Bool}(h:∀j,listed.getD j false=false):∀n,EJ listed n=n
 | 0=>rfl
 | n+1=>by unfold EJ;rw[VD h n,h n];simp
theorem pB{c0}{s}{L:List PO}{n g}{l:List Oper}{Q}(hl:l.toArray=ops)(T:n=ops.size∨(n<ops.size∧Region.sinkB .any ops n=true∧Region.chainB .any ops n=true))(ag:L.length=n)(J:V6 ops n=true)
 (hD:QJ ops L=true) (hE:HM L=true) (hH:O6 ops L=true) (U:Ik L) (a7:LD P ops s L 0 L l)
 (V:∀listed a w, HeadInv .any ops n listed→(∀j, j<n→listed.getD j false=true)→HP c0 s L listed a w→wpAny P .any ops Q g listed a w) :
    ∀(f:Nat) (listed:Array Bool) (a:Act) (w:World), EJ listed n=f→HeadInv .any ops n listed→HP c0 s L listed a w→wpAny P .any ops Q (f+g) listed a w := by
  have hn:n≤ops.size := by rcases T with h | h<;>omega
  intro f
  induction f with
  | zero =>
    intro listed a w C u A
    rw[wY]
    exact V listed a w u (VT C) A
  | succ f ih =>
    intro listed a w C u A
    rw[show f+1+g=(f+g)+1 by omega]
    obtain⟨M, X, E, B⟩ := X5 (listed := listed) (n := n) (by omega)
    have Y:M<listed.size := by rw[u.size];omega
    have q:M ∈ Region.ready .any ops listed := by
      refine mem_ready.2 ⟨getD_in Y E, ?_⟩
      have a8:∃o, ops[M]?=some o := ⟨ops[M]'(by omega), by simp[wl (show M<ops.size by omega)]⟩
      obtain⟨o, F⟩ := a8
      refine⟨o, F, λe Z hb => ?_⟩
      have h1 := wT.1 J M (wh.2 X)
      simp only[F] at h1
      have h2 := (zN.1 h1) e Z
      simp only[hb, zJ, xj, vy] at h2
      exact B _ h2
    refine⟨λh => (by rw[h] at q;cases q), λi hi => ?_⟩
    have a0:i<n := by
      rcases yV i n with h | h
      · exact h
      · rcases T with e | ⟨aa, hs, hc⟩
        · obtain⟨_, o, F, _⟩ := mem_ready.1 hi
          have := (ww.1 F).1
          omega
        · exact absurd hi (tail_waits hs hc aa u _ M rfl X (getD_in Y E) i h)
    obtain⟨ab, o, F, a1⟩ := mem_ready.1 hi
    have I := getD_both ab
    have a2:i<listed.size := by rw[u.size];omega
    obtain⟨p, hp⟩:∃p, L[i]?=some p := ⟨L[i]'(by omega), by simp[wB (show i<L.length by omega)]⟩
    have ac:l[i]?=some o := by rw[← F, ← hl];simp
    have a6 := a7.at hp ac
    rw[wY] at a6
    have ad:Bf ops (λk => listed.getD k false) i := by
      refine⟨λj k hj hk => ?_, λk hk => ?_, I⟩
      · obtain⟨oj, ae, e, Z, hb, O⟩ := Region.waitsFor_spec hk
        rw[← O];exact u.closed j oj ae hj e Z hb
      · obtain⟨oi, af, e, Z, hb, O⟩ := Region.waitsFor_spec hk
        have:oi=o := wo (af.symm.trans F)
        subst this
        rw[← O];exact a1 e Z hb
    have step := HP.step (Q := Q) hp F a6 hE hH hD U a2 ad A
    refine wpOp_mono (λa' w' h' => ih _ a' w' ?_ (u.set hi a0) h') step
    have := U4 a2 I n
    rw[vx a0] at this
    omega
def WN(ops:Array Oper)(n:Nat)(L:List PO):Bool:=
 (Nat.beq n ops.size||((n<ops.size)&&Region.sinkB .any ops n&&Region.chainB .any ops n))&&(L.length=n)&&V6 ops n&&QJ ops L&&HM L&&O6 ops L
  && Region.seqB .any ops (ops.size-n) n (EI (Array.replicate ops.size false) (List.range n))
theorem dH:∀(u:List Nat) (l:Array Bool) (j:Nat),(∀i∈u,i<l.size)→(EI l u).getD j false=(l.getD j false||u.contains j)
 | [],l,j,_=>by simp[EI]
 | i::u,l,j,h=>by
  show(EI (l.setIfInBounds i true) u).getD j false=_
  rw[dH u _ j (λk w=>by simp;exact h k (wC _ w))]
  by_cases q:i=j
  ·subst q
   have:=h i (v8 ..)
   simp[this]
  ·rw[getD_set_ne false q]
   simp[Ne.symm q]
theorem SJ{α:Type}{wr}{D D'}{G} : ∀(L:List PO) (e:List (Nat × α)) (k:Nat),(∀j,k≤j→j<k+L.length→D j=D' j)→EU wr D G e L k=EU wr D' G e L k
 | [],_,_,_=>rfl
 | p::L,e,k,h=>by
  have l:=h k (wL _) (by simp)
  have q:=λe=>SJ (wr:=wr) (G:=G) L e (k+1) (λj u w=>h j (by omega) (by simp;omega))
  unfold EU
  rw[l]
  simp only[q]
theorem JC{id}{l:List Oper}{s:St}{Q}(n:Nat)(L:List PO){lt}(hm:P.follows .mixedOrders=true)(hB:WN l.toArray n L=true)(F:Ik L)(e4:l.drop n=lt)
 (V:LD P l.toArray s L 0 L l)
 (h:∀(G:Nat→Nat) (n':Nat), AN P l.toArray lt ⟨CW (λ_ => true) G s.e L, Dh (λ_ => true) G s.h L, n', s.N⟩ (Q .normal)):AW P (.region id l.toArray true) Q s := by
  intro z0 X c0 a w ⟨_, I, hsz, y, Y, Z, a0, hH, hn, he⟩
  subst Y
  obtain⟨r1, r2⟩ := Ro a0
  simp only[WN, v7, vy] at hB
  obtain⟨⟨⟨⟨⟨⟨b0, b2⟩, b3⟩, b6⟩, b7⟩, b8⟩, b9⟩ := hB
  have b1:n=l.toArray.size∨(n<l.toArray.size∧Region.sinkB .any l.toArray n=true∧Region.chainB .any l.toArray n=true) := by
    rw[wF] at b0
    rcases b0 with h | h
    · exact .inl (wI h)
    · simp only[v7, vy] at h
      exact .inr ⟨h.1.1, h.1.2, h.2⟩
  have a8:n≤l.toArray.size := by rcases b1 with h | h<;>omega
  refine PR KN hm X ?_
  generalize hz:({ y with w := { y.w with drawn := y.w.drawn+1 } } : Cx)=z at r1 r2
  have a1:z.w = { y.w with drawn := y.w.drawn+1 } := by rw[← hz]
  have a2:z.H=hget s.h := by rw[← hz];exact hH
  rw[← a1]
  have u:∀j, (Array.replicate l.toArray.size false).getD j false=false := getD_replicate_false _
  have key := pB (P := P) (c0 := c0) (s := s) (L := L) (n := n) (g := l.toArray.size - n) (l := l) (Q := ED c0 Q) rfl b1 b2 b3 b6 b7 b8 F V
    (λq a' w' E C J => by
      have A:q=EI (Array.replicate l.toArray.size false) (List.range n) := by
        have M:q.size=(EI (Array.replicate l.toArray.size false) (List.range n)).size := by rw[E.size, fj];simp
        refine Array.ext M λj B h2 => ?_
        have h3 := dH (List.range n) (Array.replicate l.toArray.size false) j (λi hi => by have := wh.1 hi;rw[Array.size_replicate];omega)
        rw[u] at h3
        have e1:q[j]=q.getD j false := by unfold Array.getD;rw[dif_pos B];rfl
        have e2:(EI (Array.replicate l.toArray.size false) (List.range n))[j]=(EI (Array.replicate l.toArray.size false) (List.range n)).getD j false := by unfold Array.getD;rw[dif_pos h2];rfl
        rw[e1, e2, h3]
        by_cases U:j<n
        · rw[C j U];simp[U]
        · have a6:j<l.toArray.size := by rw[E.size] at B;exact B
          rw[getD_both (E.tail j (by omega) a6)];simp[U]
      obtain⟨_, i1, i2, O, G, i3, i4, i5, i6, i7⟩ := J
      subst i3
      have T:(l.drop n).length=l.toArray.size - n := by simp
      have hD:∀j, 0≤j→j<0+L.length→(λ_ => true) j=(λk => q.getD k false) j := λj _ U => (C j (by omega)).symm
      have := wpAny_of_seq (P := P) (md := .any) (ops := l.toArray) (Q' := ED c0 Q) (l.drop n) n q a' O.w (λj => by simp[xW]) (by rw[T, A];exact b9) ?_
      · rwa [T] at this
      · rw[e4]
        refine h G O.n c0 a' O.w ⟨_, i1, i2, O, rfl, i4, i5, funext λid => ?_, rfl, λt => ?_⟩ _ λa7 aa ab j1 j2 => ⟨by simp, a7, j1, j2⟩
        · rw[i6];show _=hget (EU _ _ _ _ _ _) _;rw[SJ L _ 0 hD]
        · show AX O (get (EU _ _ _ _ _ _) t) _
          rw[SJ L _ 0 hD];exact i7 t)
    n (Array.replicate l.toArray.size false) a z.w (VD u n)
    ⟨by simp, λj oj _ hl => (by rw[u] at hl;cases hl), λt _ ht => getD_in (by simpa using ht) (u _)⟩
    ⟨_, I, hsz, z, λ_ => 0, rfl, Z.trans r1, r2, λid => by rw[a2];exact(Gb DC L _ 0 λj p _ _ B => by rw[u] at B;cases B).symm, λt => by
      have e1:get (CW (λk => (Array.replicate l.toArray.size false).getD k false) (λ_ => 0) s.e L) t=get s.e t := Gb D6 L _ 0 λj p _ _ B => by rw[u] at B;cases B
      rw[e1]
      exact(he t).mono r1⟩
  have e:n+(l.toArray.size - n)=l.toArray.size := by omega
  rw[e] at key
  exact key
end
section
variable{P:Program}{c:Bool}{o:Oper}{R:Ab}{h:AS}
theorem dC{f g}(l:∀i p,f i=some p→g i=some p):∀(q:List (Nat × Value)) (us j:Array Value),Instr.fill f us q=some j→Instr.fill g us q=some j
 | [],_,_,h=>h
 | (i,v)::q,us,j,h=>by
  unfold Instr.fill at h ⊢
  cases u:f i with
  | none=>rw[u] at h;cases h
  | some p=>
   obtain⟨off,sz⟩:=p
   rw[u] at h
   rw[l i _ u]
   simp only at h ⊢
   split at h
   ·cases h
   ·rename_i w
    rw[ne w]
    exact dC l q _ _ h
def Qu(P:Program)(t:TypeId)(j:List (Nat × Nat))(z:List Value):Prop:=
 ∃n e sz,P.underlying t=some (.array n e)∧(∃i,P.info? e=some i∧i.size=sz)∧(∀i p,j[i]?=some p→p=(i * sz,sz))∧∃i,P.info? t=some i∧i.zero=some (.agg z.toArray)
theorem uy{t}{parts:Array (Nat × Operand)}{l}{z:List Value}{q}{cs}(I:o.op=.build t parts)(J:Qu P t l z)
 (hp:Ra c R l z.length parts.toList q) (A:N5 (z.map IV) q=cs):AU P c o R h (.agg cs) := by
  intro M y a _ _ O
  subst A
  obtain⟨n, e, sz, T, ⟨ie, U, V⟩, X, i, Y, Z⟩ := J
  obtain⟨B, f1, f2, f3⟩ := VC M O parts.toList q z.toArray (z.map IV) (by simp) (λj b u w C => by
    have E:z[j]?=some u := by simpa using C
    rw[wd, E] at w
    simp only[xi, wP] at w
    subst w;exact RI y u) (by rw[wN];exact hp)
  refine⟨.agg B, λw2 _ => ?_, .agg f2.symm λj b u w C => f3 j b u w C⟩
  have F := dC (g := λi => some (i * sz, sz)) (λi p hp => by rw[X i p hp]) _ _ _ f1
  unfold execOp
  rw[I]
  simp only[Instr.build, zeroValue, typeInfo, Sem.run_bind, run_program, Result.andThen_ok, Y, Sem.run_pure, Z, run_underlying T, Ei U, V, Value.cells, zL]
  rw[F]
  rfl
theorem Qu.of{t}{n}{e}{sz b q}{A}{B}{j}{w:List Value}(C:P.underlying t=some (.array n e))
 (E:(P.info? e).map (λi => (i.zero, i.size, i.bytes))=some (some A, sz, B)) (F:∀i p, j[i]?=some p→p=(i * sz, sz)) (l:(P.info? t).map (λi => (i.zero, i.size, i.bytes))=some (some (.agg w.toArray), q, b)):Qu P t j w := by
  cases u:P.info? t with
  | none => rw[u] at l;cases l
  | some i =>
    rw[u] at l
    simp only[xi, wP, wV] at l
    exact⟨n, e, sz, C, DG E, F, i, u, l.1⟩
theorem kK{j:List (Nat × Nat)}{sz}(h:(List.range j.length).all (λi=>match j[i]? with | some p=>p.1==i * sz&&p.2==sz | none=>false)=true):∀i p,j[i]?=some p→p=(i * sz,sz):=by
 intro i p hp
 have:=wT.1 h i (wh.2 (wA.1 hp).1)
 simp only[hp,v7,zj] at this
 obtain⟨l,q⟩:=p
 simp only at this
 rw[this.1,this.2]
end
section
variable{P:Program}{c:Bool}{o:Oper}{R:Ab}{h:AS}{n:Nat}
def Kf(cs:List RV)(k:Nat)(vs:List RV):List RV:=cs.take k++vs++cs.drop (k+vs.length)
theorem gR{t}{x y}{id g i k m:Nat}{e}{sz}{xs:List (List RV)}{row ds:List RV}{a}(ho:o.op=.store t x y)(ht:∃i, P.info? t=some i∧i.size=m)
 (hx:Ev c R x (.ptr id g i k)) (hh:hget h id=some (.arr g e sz xs)) (M:xs[i]?=some row) (hy:Ev c R y a) (hd:H2 a=some ds) (hm:ds.length=m) (hk:k+ds.length≤row.length) :
    BV P c o R h n .any ((id, some (.arr g e sz (xs.set i (Kf row k ds))))::h) n := by
  intro hc z w O hH hn he K Q hK
  obtain⟨ii, hi, ag⟩ := ht
  have A:z.H id=some (.arr g e sz xs) := by rw[hH];exact hh
  have aa:i<xs.length := (wA.1 M).1
  obtain⟨b, cap, us, hβ, ay, ah, E, Y⟩ := Ti O A aa (hx.rep he hc)
  have az := (O.obj _ _ A).1
  obtain⟨bb, ab⟩ := ah
  rcases ab with ⟨hv, _⟩ | ⟨Z, b8, F, hv, _, a0, ai, b0, aj, ac⟩
  · cases hv
  simp only[Value.slice.injEq, wP, Addr.mk.injEq, true_and, and_true] at hv
  obtain⟨rfl, rfl⟩ := hv
  have hsz:0<sz := (O.obj _ _ A).2.1
  have ak := E row (wj M)
  obtain⟨I, al⟩ := bS hd
  have ad:∀b ∈ Bm a, b.one=true := λb hb => by
    obtain⟨j, hj, rfl⟩ := xE.1 hb
    obtain⟨a', h1, h2⟩ := al j (ds[j]'(by omega)) (by simp[wB (show j<ds.length by omega)])
    rw[wB hj] at h1
    cases h1
    exact Wv h2
  have b1 := hy.rep he hc
  obtain⟨T, b2, b3⟩ := Qr b1 ad
  replace I:ds.length=(Bm a).length := I
  have an:(w.eval y).cells.toList.length=ds.length := by rw[xG (xs := (w.eval y).cells), T, I]
  have b4:i * sz+sz≤xs.length * sz := by
    have:(i+1) * sz≤xs.length * sz := xg _ aa
    rwa [yM, yp] at this
  have b9:xs.length * sz≤F.size := by rw[aj];exact xg _ ai
  have a1 := W6 (P := P) (k := i * sz+k) hi a0 (v := w.eval y) (by rw[T, ag, ← I, hm]) b3 (by rw[T, ← I];omega)
  rw[show(w.eval y).cells.size=ds.length by rw[T, I]] at a1
  have a2 := λj => Mg F.toList (w.eval y).cells.toList (i * sz+k) j (by have := xG (xs := F);rw[an];omega)
  rw[an] at a2
  let l:Array Value := (F.toList.take (i * sz+k)++(w.eval y).cells.toList++F.toList.drop (i * sz+k+ds.length)).toArray
  have J:l.size=F.size := by
    have ao:(w.eval y).cells.size=ds.length := by rw[T, I]
    simp[l, ao];omega
  have a6:(Kf row k ds).length=row.length := by simp[Kf];omega
  have a7:∀j, (Kf row k ds)[j]?=if k≤j∧j<k+ds.length then ds[j - k]? else row[j]? := λj => Mg row ds k j hk
  have aq := GL O id (.arr g e sz (xs.set i (Kf row k ds))) (z.w.setRow b l) (some (b, cap)) z.n (by simp[World.setRow]) rfl rfl rfl
    (λZ _ b5 => setRow_other _ _ _ _ (λe => b5 _ cap A (by rw[e];exact hβ))) (λZ k' hb => by
      cases hb
      exact⟨by simpa[World.setRow] using(O.own id _ b cap A hβ).1, .inr ⟨_, _, A, hβ⟩⟩) (wL _) az
    (λ_ => ⟨_, A, rfl, by simp[A9.shape], hβ.symm⟩)
    (λb6 => by
      have ar:∀Z, z.S Z→(z.w.setRow b l).heap[Z]?=z.w.heap[Z]? := λZ hb => b6.blk Z (.inl hb)
      refine⟨hsz, λr hr => ?_, .slice (some ⟨b, 0, none⟩) xs.length cap, l.toList.take (xs.length * sz), by simp[EQ], ⟨by simp[J];omega, .inr ⟨b, cap, l, by simp, yS _, setRow_heap _ _ _ _ _ _ a0, by simpa using ai, b0, by rw[J, aj], by simp⟩⟩, λB a8 C d' U k2 => ?_⟩
      · rcases yQ hr with hr | rfl
        · exact E r hr
        · rw[a6];exact ak
      · have av:B<xs.length := by simpa using(wA.1 U).1
        have ba:C<sz := by
          have := (wA.1 k2).1
          rw[yE] at U
          split at U
          · cases U;rw[a6, ak] at this;exact this
          · rw[← E a8 (wj U)];exact this
        have aw:B * sz+C<xs.length * sz := by
          calc B * sz+C<B * sz+sz := by omega
            _=(B+1) * sz := by rw[yM, yp]
            _≤xs.length * sz := xg _ av
        have hget:(l.toList.take (xs.length * sz))[B * sz+C]?=if i * sz+k≤B * sz+C∧B * sz+C<i * sz+k+ds.length then(w.eval y).cells.toList[B * sz+C - (i * sz+k)]? else F.toList[B * sz+C]? := by
          rw[xh, vx aw]
          simp only[l]
          exact a2 _
        have ae:i * sz+k≤B * sz+C→B * sz+C<i * sz+k+ds.length→i=B := by
          intro h1 h2
          have e2:(B * sz+C) / sz=B := by rw[yU, yz hsz, yv (by omega), xM]
          obtain⟨q, hq⟩:∃q, B * sz+C=i * sz+q := ⟨B * sz+C - i * sz, by omega⟩
          have b7:q<sz := by omega
          have e1:(i * sz+q) / sz=i := by rw[yU, yz hsz, yv b7, xM]
          rw[← e1, ← hq, e2]
        by_cases V:i * sz+k≤B * sz+C∧B * sz+C<i * sz+k+ds.length
        · have af := ae V.1 V.2
          subst af
          rw[yE, vx rfl, vx aa] at U
          cases U
          rw[a7, vx (by omega)] at k2
          obtain⟨a', h1, h2⟩ := al _ _ k2
          obtain⟨u, h3, _, h5⟩ := b2 _ _ h1
          refine⟨u, ?_, (Uw h2 h5).mono ar (λ_ h => h)⟩
          rw[hget, vx V, show i * sz+C - (i * sz+k)=C - k by omega, xv]
          exact h3
        · have ax:∃X, xs[B]?=some X∧X[C]?=some d' := by
            rw[yE] at U
            split at U
            · rename_i af;subst af
              cases U
              rw[a7] at k2
              split at k2
              · exact absurd (by omega) V
              · exact⟨row, M, k2⟩
            · exact⟨a8, U, k2⟩
          obtain⟨X, k3, k4⟩ := ax
          obtain⟨u, k5, k6⟩ := Y _ _ _ _ k3 k4
          refine⟨u, ?_, k6.mono ar (λ_ h => h)⟩
          rw[hget, ne V]
          rw[← k5, ← ac, xh, vx aw])
  unfold Oper.wp execOp
  rw[ho]
  simp only[ay, Sem.run_bind, a1, Result.andThen_ok, Sem.run_pure]
  exact hK undef _ aq.1 aq.2 (by simp only[hH];exact FU _ _ _) hn (.any _)
theorem VY{α:Type}{f}{t}{x y}{id g k m}{e}{sz}{l:List α}{z:Int}{a v}{b}{ds:List RV}(j:o.op=.store t x y)(q:∃i, P.info? t=some i∧i.size=m)
 (u:Ev true R x (.ptr id g z.toNat k)) (w:hget h id=some (.arr g e sz (l.map f))) (A:AL l z=some a) (B:Ev true R y b) (hd:H2 b=some ds) (C:ds.length=m) (E:Nat.ble (k+ds.length) (f a).length=true) (F:Kf (f a) k ds=f v) :
    BV P true o R h n .any ((id, some (.arr g e sz ((l.set z.toNat v).map f)))::h) n := by
  have := gR (n := n) j q u w (row := f a) (by rw[wd, (Gc A).2.1];rfl) B hd C (wx E)
  rwa [F, ← List.map_set] at this
end
def Tp(c:Bool):Ab→Ab→Prop
 | [],_=>True
 | (t,v)::r,e=>(get e t=v∨get e t=.whn c v∨(∃b v0,get e t=.whn (c&&b) v0∧v=.whn b v0)∨∃j l v0,get e t=.whn ((c&&j)&&l) v0∧v=.whn (j&&l) v0)∧Tp c r e
theorem Tp.get{c}{e' e}(h:Tp c e' e)(t:Nat):Al.get e' t=.any∨Al.get e t=Al.get e' t∨Al.get e t=.whn c (Al.get e' t) ∨
  (∃b v0,Al.get e t=.whn (c&&b) v0∧Al.get e' t=.whn b v0)∨∃j l v0,Al.get e t=.whn ((c&&j)&&l) v0∧Al.get e' t=.whn (j&&l) v0:=by
 induction e' with
 | nil=>exact .inl rfl
 | cons p r q=>
  obtain⟨d,v⟩:=p
  rw[D6]
  split
  ·rename_i hd;subst hd;exact .inr h.1
  ·exact q h.2
theorem Rn{c}{e' e}{h}{n N}(hc:c=true)(I:Tp c e' e):Ak ⟨e,h,n,N⟩ ⟨e',h,n,N⟩:=by
 intro U a w ⟨_,q,hsz,y,A,B,C,J,E,u⟩
 refine⟨_,q,hsz,y,A,B,C,J,E,λt=>?_⟩
 subst hc
 have j:=u t
 rcases I.get t with l | l | l | ⟨b,v0,l,F⟩ | ⟨M,O,v0,l,F⟩
 ·rw[l];exact .any _
 ·rwa [show Al.get (St.mk e h n N).e t=Al.get e' t from l] at j
 ·rw[show Al.get (St.mk e h n N).e t=.whn true (Al.get e' t) from l] at j
  cases j with
  | whn T _=>exact T rfl
 ·rw[show Al.get (St.mk e h n N).e t=.whn (true&&b) v0 from l] at j
  rw[xJ] at j
  rw[F];exact j
 ·rw[show Al.get (St.mk e h n N).e t=.whn ((true&&M)&&O) v0 from l] at j
  rw[xJ] at j
  rw[F];exact j
theorem ic{a b}(h:a=false):(a&&b)=false:=by rw[h];rfl
section
variable{P:Program}{c:Bool}{o:Oper}{R:Ab}{h:AS}{n:Nat}
variable{α:Type}{f:α→List RV}
end
section
variable{P:Program}{c:Bool}{o:Oper}{R:Ab}{h:AS}{n:Nat}
theorem Gn{t j}{x y}{k}{m n}(l:o.op=.binOp .and t x y j)(q:Ev c R x (.r (.int k m)))(u:Ev c R y (.r (.int k n))):AU P c o R h (.r (.int k (Cg k m n))):=
 E7 l q u (λw=>by simp[binOp,Op.intBits,Cg]) (λ_ _=>.int _ _)
theorem Jq{t j}{x y}{k}{m n}(l:o.op=.binOp .or t x y j)(q:Ev c R x (.r (.int k m)))(u:Ev c R y (.r (.int k n))):AU P c o R h (.r (.int k (EZ k m n))):=
 E7 l q u (λw=>by simp[binOp,Op.intBits,EZ]) (λ_ _=>.int _ _)
theorem tU{t j}{x y}{k}{m n}(l:o.op=.binOp .xor t x y j)(q:Ev c R x (.r (.int k m)))(u:Ev c R y (.r (.int k n))):AU P c o R h (.r (.int k (VU k m n))):=
 E7 l q u (λw=>by simp[binOp,Op.intBits,VU]) (λ_ _=>.int _ _)
theorem ew{t j}{x y}{k}{m n}(l:o.op=.binOp .andNot t x y j)(q:Ev c R x (.r (.int k m)))(u:Ev c R y (.r (.int k n))):AU P c o R h (.r (.int k (QD k m n))):=
 E7 l q u (λw=>by simp[binOp,Op.intBits,QD]) (λ_ _=>.int _ _)
theorem KC{t q:TypeId}{x y:Operand}{k u:IntKind}{m:Int}{b:Nat}(w:o.op=.binOp .shl t x y q)(A:Ev c R x (.r (.int k m)))(B:Ev c R y (.r (.int u b))):AU P c o R h (.r (.int k (D9 k m b))):=by
 intro j z a _ _ l
 refine⟨.int k (D9 k m b),λE C=>?_,.r (.int _ _)⟩
 unfold execOp
 rw[w]
 simp[Cw (A.rep l j),Cw (B.rep l j),eqGuard,binOp,Op.shift,D9]
 intro F;omega
theorem R1{t q:TypeId}{x y:Operand}{k u:IntKind}{m:Int}{b:Nat}(w:o.op=.binOp .shr t x y q)(A:Ev c R x (.r (.int k m)))(B:Ev c R y (.r (.int u b))):AU P c o R h (.r (.int k (FZ k m b))):=by
 intro j z a _ _ l
 refine⟨.int k (FZ k m b),λE C=>?_,.r (.int _ _)⟩
 unfold execOp
 rw[w]
 simp[Cw (A.rep l j),Cw (B.rep l j),eqGuard,binOp,Op.shift,FZ]
 intro F;omega
def Pa(P:Program)(t:TypeId)(n:Nat)(e:TypeId)(sz:Nat):Prop:=P.underlying t=some (.array n e)∧∃i,P.info? e=some i∧i.size=sz
theorem Ui{α:Type}{f}{sz}(q:∀a,(f a).length=sz):∀(l:List α) (i j:Nat) (a:α) (d:RV),l[i]?=some a→(f a)[j]?=some d→(l.flatMap f)[i * sz+j]?=some d
 | [],i,_,_,_,h,_=>by simp at h
 | x::l,0,j,a,d,h,hd=>by
  have u:x=a:=by simpa using h
  subst u
  have w:j<(f x).length:=(wA.1 hd).1
  rw[zC,zk,wY,wi w]
  exact hd
 | x::l,i+1,j,a,d,h,hd=>by
  have A:=Ui q l i j a d (by simpa using h) hd
  rw[zC,we (by rw[q,yM];omega),q]
  rw[show(i+1) * sz+j-sz=i * sz+j by rw[yM];omega]
  exact A
theorem bA{α:Type}{f}{t e}{sz I g}{y}{l:List α}{k}{z:Int}{a}(ho:o.op=.indexAddr t (.global g) y)(ht:Pa P t I e sz)(hT:HW g=some (l.flatMap f))(hn:l.length=I)
 (hy:Ev c R y (.r (.int k z))) (q:∀a, (f a).length=sz) (h0:0<sz) (hi:c=true→AL l z=some a):AU P c o R h (.rop (f a) 0) := by
  intro hc x w J hH he
  obtain⟨M, ii, O, T⟩ := ht
  obtain⟨z0, U, V⟩ := Gc (hi hc)
  have A := J.tabs.tab g _ hT
  generalize hv:(Value.pointer (some ⟨g, 0, none⟩))=v at A
  cases A with
  | @rop _ _ b off u hS B X =>
    simp only[Value.pointer.injEq, wP, Addr.mk.injEq, and_true, xM] at hv
    obtain⟨rfl, C⟩ := hv
    subst C
    have Y:(l.flatMap f)≠[] := by
      intro e0
      have E:0<(f a).length := by rw[q];exact h0
      have := Ui q l z.toNat 0 a _ U (wB E)
      rw[e0] at this;simp at this
    refine⟨.pointer (some ⟨g, z.toNat * sz+0, none⟩), λw2 a0 => ?_, .rop (λj => u (z.toNat * sz+j)) (λ_ => hS Y) (λj d E => ?_) (λj d E => ?_)⟩
    · unfold execOp
      rw[ho]
      have F:z<(I:Int) := by rw[← hn];exact V
      have hg:w.eval (.global g)=.pointer (some ⟨g, 0, none⟩) := rfl
      simp[hg, Cw (hy.rep he hc), Instr.indexAt, Instr.sureAddr, asIntOf, run_underlying M, z0, F, Ei O, T, Addr.add_lit]
    · have Z := Ui q l z.toNat j a d U E
      have := B _ _ Z
      simpa using this
    · have Z := Ui q l z.toNat j a d U E
      exact X _ _ Z
end
section
variable{P:Program}{c:Bool}{o:Oper}{R:Ab}{h:AS}{n:Nat}
theorem jv(s:List UInt8) l m:(⟨s.toArray⟩:ByteArray).extract l m=⟨((s.drop l).take (m-l)).toArray⟩:=by
 apply ByteArray.ext
 rw[ByteArray.data_extract]
 simp[List.extract_toArray]
theorem LT{t}{x}{A F:Option Operand}{s r:List UInt8}{l q:Int}(U:o.op=.slice t x A F none)(V:P.underlying t=some .string)(X:Ev c R x (.r (.str s)))
 (j:Hf c R 0 A l) (u:Hf c R s.length F q) (Y:c=true→CV s l q=some r):AU P c o R h (.r (.str r)) := by
  intro B z w _ _ I
  obtain⟨T, h2, h3, rfl⟩ := gF (Y B)
  have hsz:(⟨s.toArray⟩:ByteArray).size=s.length := rfl
  refine⟨.string ⟨((s.drop l.toNat).take (q.toNat - l.toNat)).toArray⟩, λw2 Z => ?_, by have := Bl.str (w := z.w) (S := z.S) ⟨((s.drop l.toNat).take (q.toNat - l.toNat)).toArray⟩;exact .r this⟩
  have C:∀W, (Instr.sliceBounds false s.length s.length (A.map w.eval) (F.map w.eval) none).run P W=.ok (l.toNat, q.toNat, s.length) W := by
    intro W
    cases F with
    | none =>
      simp only[Hf] at u
      subst u
      cases A with
      | none => simp only[Hf] at j;subst j;simp[Instr.sliceBounds]
      | some v =>
        obtain⟨k, J⟩ := j
        have M:∀W, (Instr.sliceBound (w.eval v) s.length .sliceB).run P W=.ok l.toNat W := λW => by rw[Cw (J.rep I B), Qd T (by omega)]
        simp[Instr.sliceBounds, M]
    | some v2 =>
      obtain⟨k2, O⟩ := u
      have E:∀W, (Instr.sliceBound (w.eval v2) s.length .sliceAlen).run P W=.ok q.toNat W := λW => by rw[Cw (O.rep I B), Qd (by omega) (by omega)]
      cases A with
      | none => simp only[Hf] at j;subst j;simp[Instr.sliceBounds, E]
      | some v =>
        obtain⟨k, J⟩ := j
        have M:∀W, (Instr.sliceBound (w.eval v) q.toNat .sliceB).run P W=.ok l.toNat W := λW => by rw[Cw (J.rep I B), Qd T (by omega)]
        simp[Instr.sliceBounds, M, E]
  unfold execOp
  rw[U]
  simp[Hy (X.rep I B), Instr.sliceAt, Instr.slice, run_underlying V, hsz, C, jv]
end
section
variable{P:Program}{c:Bool}{o:Oper}{R:Ab}{h:AS}
theorem Zs{t}{x}{id g k}{e}{sz}{cs ds:List AV}(V:o.op=.load t x)(X:Bj P t sz)(Y:Ev c R x (.ptr id g 0 k))(Z:c=true→hget h id=some (.box g e cs))
 (hd:(cs.drop k).take sz=ds) (O:ds.length=sz):AU P c o R h (.agg ds) := by
  intro T z w E hH he
  have q:z.H id=some (.box g e cs) := by rw[hH];exact Z T
  obtain⟨b, l, h1, h2, h3, h4, U⟩ := IX E q (Y.rep he T)
  have C:∀j a, ds[j]?=some a→cs[k+j]?=some a := by
    intro j a A
    have F:j<sz := by rw[← O];exact(wA.1 A).1
    rw[← hd, xh, vx F, xW] at A
    exact A
  have B:∀j, j<sz→z.w.cell? ⟨b, k+j, none⟩=some ((λj => l.getD (k+j) undef) j) := by
    intro j A
    obtain⟨u, I, _, _⟩ := U _ _ (C j _ (wB (by omega:j<ds.length)))
    have J:k+j<l.size := (ww.1 I).1
    rw[cell_of_row _ b (k+j) l e _ h3]
    simp[J]
  refine⟨.agg ((List.range sz).map λj => l.getD (k+j) undef).toArray, λw2 M => ?_, MU O _ λj a A => ?_⟩
  · unfold execOp
    rw[V]
    simp[h2, Nt X _ (λj A => (M.cellO q h1).trans (B j A))]
  · obtain⟨u, I, _, h7⟩ := U _ _ (C j a A)
    simpa[I] using h7
theorem F0{t}{x}{id g k}{e}{sz}{cs ds:List AV}(j:o.op=.load t x)(l:Bj P t sz)(q:Ev c R x (.ptr id g 0 k))(u:hget h id=some (.box g e cs))
 (hd:(cs.drop k).take sz=ds) (w:ds.length=sz):AU P c o R h (.agg ds) :=
  Zs j l q (λ_ => u) hd w
end
theorem Ak.ren{s:St} t i j{g}{e}{sz}{xs}(Y:(i==j)=false)(ht:get s.e t=.own i g)(hh:hget s.h i=some (.arr g e sz xs)) :
  Ak s ⟨(t,.own j s.n)::s.e,(j,some (.arr s.n e sz xs))::(i,none)::s.h,s.n+1,s.N⟩:=by
 have a2:i≠j:=by simpa using Y
 intro c0 a w ⟨_,U,hsz,y,Z,a0,A,hH,M,O⟩
 have E:y.H i=some (.arr g e sz xs):=by rw[hH];exact hh
 let z:Cx:={ y with H:=λd=>if j=d then some (.arr s.n e sz xs) else if i=d then none else y.H d,β:=λd=>if j=d then y.β i else y.β d,n:=y.n+1 }
 have F:y.le z:=by
  refine⟨wL _,rfl,rfl,rfl,λ_ _=>rfl,λ_ h=>h,rfl,Nat.le_succ _,λd o' l hg=>?_⟩
  dsimp only [z] at l ⊢
  split at l
  ·cases l
   exact absurd hg (by simp[A9.gen,M])
  ·rename_i T
   split at l
   ·cases l
   ·exact⟨o',l,rfl,rfl,by rw[ne T]⟩
 have V:z.ok:=by
  refine⟨A.S_lt,A.F_lt,A.SF,λd o q=>?_,λd o b k q C=>?_,λd d' o o' b k k' q l C B=>?_,A.tabs.le F⟩
  ·dsimp only [z] at q ⊢
   split at q
   ·rename_i T
    cases q
    rw[vx T]
    refine⟨by simp[A9.gen,M],?_⟩
    have J:=(A.obj i _ E).2
    exact(show E6 y (y.β i) (.arr s.n e sz xs) from J).mono F λb k _=>rfl
   ·rename_i T
    split at q
    ·cases q
    ·rw[ne T]
     obtain⟨I,J⟩:=A.obj d o q
     exact⟨Nat.lt_succ_of_lt I,J.mono F λb k _=>rfl⟩
  ·dsimp only [z] at q C ⊢
   split at C
   ·exact A.own i _ b k E C
   ·rename_i T
    rw[ne T] at q
    split at q
    ·cases q
    ·exact A.own d o b k q C
  ·dsimp only [z] at q l C B
   by_cases I:j=d<;>by_cases J:j=d'
   ·rw[← I,← J]
   ·rw[vx I] at C
    rw[ne J] at l B
    split at l
    ·cases l
    ·rename_i X
     exact absurd (A.inj i d' _ _ b k k' E l C B) X
   ·rw[ne I] at q C
    rw[vx J] at B
    split at q
    ·cases q
    ·rename_i X
     exact absurd (A.inj d i _ _ b k k' q E C B).symm X
   ·rw[ne I] at q C
    rw[ne J] at l B
    split at q
    ·cases q
    ·split at l
     ·cases l
     ·exact A.inj d d' _ _ b k k' q l C B
 refine⟨_,U,hsz,z,Z,a0.trans F,V,?_,by simp[z,M],λt'=>?_⟩
 ·funext d
  show(if j=d then _ else if i=d then _ else y.H d)=_
  rw[DC,DC,hH]
 ·rw[D6]
  split
  ·rename_i a1
   have I:=O t
   rw[ht,a1] at I
   generalize a.tmps.getD t' undef=u at I ⊢
   cases I with
   | own I J X=>
    refine .own (by simp[z,M]) J λo q _=>?_
    dsimp only [z] at q ⊢
    rw[vx rfl] at q ⊢
    cases q
    have h5:=X _ E rfl
    exact h5
  ·exact(O t').mono F
section
variable{P:Program}{c:Bool}{o:Oper}{R:Ab}{h:AS}{n:Nat}
theorem uW{x:Cx}(l:x.ok) id(s:List UInt8) :
  ∃y:Cx,x.le y∧y.ok∧y.w=x.w.alloc (.stringIter ⟨s.toArray⟩ 0)∧y.H=(λi=>if id=i then some (.it x.n s 0) else x.H i)∧y.n=x.n+1 ∧
   AX y (.ptr id x.n 0 0) (.pointer (some ⟨x.w.heap.size,0,none⟩)):=by
 have:=GL l id (.it x.n s 0) (x.w.alloc (.stringIter ⟨s.toArray⟩ 0)) (some (x.w.heap.size,1)) (x.n+1) (by simp) rfl rfl rfl
  (λb q _=>heap_alloc_old _ _ q) (λb k q=>by cases q;simp) (by omega) (by simp[A9.gen]) (λhg=>absurd hg (by simp[A9.gen]))
  (λu=>⟨x.w.heap.size,rfl,heap_alloc_new _ _⟩)
 refine⟨_,this.1,this.2,rfl,rfl,rfl,.ptr (by simp) rfl λw j _=>?_⟩
 simp only[vx] at j
 cases j
 exact⟨x.w.heap.size,1,by simp,by simp⟩
theorem jT{t}{x}{s} id(u:o.op=.range t x)(A:P.underlying t=some .string)(B:Ev c R x (.r (.str s))) :
  BV P c o R h n (.ptr id n 0 0) ((id,some (.it n s 0))::h) (n+1):=by
 intro C z w l E q F K Q I
 obtain⟨y,J,M,O,T,U,V⟩:=uW l id s
 have j:=B.rep F C
 generalize X:w.eval x=v at j
 cases j with
 | r j=>
  cases j with
  | str s=>
   unfold Oper.wp execOp
   rw[u]
   simp only[X,Sem.run_bind,run_range_string _ _ _ A,Result.andThen_ok,Sem.run_pure]
   have:=I (.pointer (some ⟨z.w.heap.size,0,none⟩)) y J M (by rw[T,E,q,FU]) (by rw[U,q]) (by rw[← q];exact V)
   rw[O] at this
   exact this
theorem cO{x:Cx}(j:x.ok){id g pos}{s:List UInt8}{v}(u:x.H id=some (.it g s pos))(l:AX x (.ptr id g 0 0) v) :
  ∃b,x.β id=some (b,1)∧v=.pointer (some ⟨b,0,none⟩)∧x.w.heap[b]?=some (.stringIter ⟨s.toArray⟩ pos):=by
 obtain⟨_,b,w,A⟩:=j.obj _ _ u
 cases l with
 | ptr _ _ l=>
  obtain⟨C,cap,q,B⟩:=l _ u rfl
  rw[w] at q
  simp only[wP,wV] at q
  obtain⟨rfl,rfl⟩:=q
  exact⟨b,w,by rw[B,zk],A⟩
theorem vB{x}{id g pos}{s:List UInt8}(F:o.op=.next x true)(I:Ev c R x (.ptr id g 0 0))(J:hget h id=some (.it g s pos))(hp:c=true→decide (pos<s.length)=false) :
  BV P c o R h n (.tup [.r (.bool false)]) h n:=by
 intro B z w j C M O K Q T
 obtain⟨b,X,U,V⟩:=cO j (by rw[C];exact J) (I.rep O B)
 have q:¬ pos<(⟨s.toArray⟩:ByteArray).size:=by
  have:=of_decide_eq_false (hp B)
  simpa[ByteArray.size] using this
 unfold Oper.wp execOp
 rw[F]
 have l:(Instr.next (.pointer (some ⟨b,0,none⟩)) true o.type).run P z.w=.ok (.tuple #[.bool false]) z.w:=by
  simp[Instr.next,getObj,Sem.run,V,q]
 simp only[U,Sem.run_bind,l,Result.andThen_ok,Sem.run_pure]
 refine T (.tuple #[.bool false]) z (Cx.le.refl z) j C M (.tup rfl λi a u A E=>?_)
 rcases i with _ | i
 ·simp at A E;subst A;subst E;exact .r (.bool false)
 ·simp at A
theorem sN{x}{id g pos}{s:List UInt8}(X:o.op=.next x true)(Y:Ev c R x (.ptr id g 0 0))(Z:hget h id=some (.it g s pos))(hp:c=true→decide (pos<s.length)=true) :
  BV P c o R h n (.tup [.r (.bool true),.r (.int .i64 (pos:Int)),.r (.int .i32 ((Gp s pos).1:Int))]) ((id,some (.it g s (pos+(Gp s pos).2)))::h) n:=by
 intro M z w l O hn he K Q hK
 have j:z.H id=some (.it g s pos):=by rw[O];exact Z
 obtain⟨b,E,h2,T⟩:=cO l j (Y.rep he M)
 have F:pos<(⟨s.toArray⟩:ByteArray).size:=by
  have:=xu (hp M)
  simpa[ByteArray.size] using this
 have U:=(l.own id _ b 1 j E).1
 have B:=GL l id (.it g s (pos+(Gp s pos).2)) { z.w with heap:=z.w.heap.setIfInBounds b (.stringIter ⟨s.toArray⟩ (pos+(Gp s pos).2)) } (some (b,1)) z.n (by simp) rfl rfl rfl
  (λV _ I=>by
   have:b≠V:=λe=>I _ 1 j (by rw[← e];exact E)
   simp[this])
  (λV k' J=>by cases J;exact⟨by simpa using U,.inr ⟨_,_,j,E⟩⟩) (wL _) (l.obj _ _ j).1 (λ_=>⟨_,j,rfl,rfl,E.symm⟩)
  (λa0=>⟨b,rfl,by simp[U]⟩)
 unfold Oper.wp execOp
 rw[X]
 have C:(Instr.next (.pointer (some ⟨b,0,none⟩)) true o.type).run P z.w=.ok (.tuple #[.bool true,.int .i64 (pos:Int),.int .i32 ((Gp s pos).1:Int)]) { z.w with heap:=z.w.heap.setIfInBounds b (.stringIter ⟨s.toArray⟩ (pos+(Gp s pos).2)) }:=by
  simp only[Instr.next,getObj,setObj,Sem.run_bind,Sem.run,T,Result.andThen,F,xm]
  simp[goInt,Sem.run,T,Gp]
 simp only[h2,Sem.run_bind,C,Result.andThen_ok,Sem.run_pure]
 refine hK _ _ B.1 B.2 (by simp only[O];exact FU _ _ _) hn (.tup rfl λi a u q A=>?_)
 rcases i with _ | _ | _ | i
 ·simp at q A;subst q;subst A;exact .r (.bool true)
 ·simp at q A;subst q;subst A;exact .r (.int _ _)
 ·simp at q A;subst q;subst A;exact .r (.int _ _)
 ·simp at q
theorem AW.split{Q}{s}{x} b(j:b=true→AW P x Q s)(l:b=false→AW P x Q s):AW P x Q s:=by
 cases b
 ·exact l rfl
 ·exact j rfl
end
section
variable{P:Program}{c:Bool}{o:Oper}{R:Ab}{h:AS}
theorem jP{t e e'}{F id g}{x y}{cs}{k}{z:Int}(T:o.op=.indexAddr t x y)(U:Pa P t F e 1)(V:Ev c R x (.ptr id g 0 0))(X:hget h id=some (.box g e' cs))
 (Y:Ev c R y (.r (.int k z))) {l:List Bool} {v} (Z:c=true→AL l z=some v) (hl:l.length=F):AU P c o R h (.ptr id g 0 z.toNat) := by
  intro u w a A hH I
  obtain⟨B, ii, C, E⟩ := U
  have j:w.H id=some (.box g e' cs) := by rw[hH];exact X
  have J := V.rep I u
  obtain⟨z0, _, M⟩ := Gc (Z u)
  rw[hl] at M
  have hg:g<w.n := by cases J with | ptr hg _ _ => exact hg
  obtain⟨b, a0, h1, h2, h3, h4, h5⟩ := IX A j J
  refine⟨.pointer (some ⟨b, z.toNat, none⟩), λw2 a1 => ?_, .ptr hg rfl λo' q O => ?_⟩
  · unfold execOp
    rw[T]
    simp[h2, Cw (Y.rep I u), Instr.indexAt, Instr.sureAddr, asIntOf, run_underlying B, z0, M, Ei C, E, Addr.add_lit]
  · rw[j] at q;cases q
    exact⟨b, _, h1, by simp⟩
theorem pG{t}{x}{id g}{e}{cs}{l:List Bool}{z:Int}{a}(q:o.op=.load t x)(u:Bh P t)(w:Ev c R x (.ptr id g 0 z.toNat))(A:hget h id=some (.box g e cs))(j:cs=l.map λb => .r (.bool b))
 (B:c=true→AL l z=some a):AU P c o R h (.r (.bool a)) :=
  U2 q u w (λ_ => A) (λC => by rw[j, wd, (Gc (B C)).2.1];rfl)
end
open Go.Shelf Go.RowKit Go.Lib
theorem vc{P}{f}{args}{r:AV}(hc:O8 P f)(C:r.closed=true)
 (h:∀(x:Cx) (B:Array Value), x.ok→IJ x args B.toList→Calls P f B x.w λe w' => ∃u, e=.returned u∧Below x.w.heap.size x.w w'∧∀y:Cx, AX y r u):AO P f args r := by
  refine⟨hc, C, λx B j E I => (h x B j I).mono λe w' ⟨u, J, l, M⟩ => ?_⟩
  have A:x.le { x with w := w' } := by
    refine⟨l.size, l.os, l.tape, l.output, λb F => l.block b (F.elim (j.S_lt b) (j.F_lt b)), λ_ h => h, rfl, wL _, λid o q _ => ⟨o, q, rfl, rfl, rfl⟩⟩
  refine⟨u, { x with w := w' }, J, rfl, A, ⟨λb w => wZ (j.S_lt b w) l.size, λb w => wZ (j.F_lt b w) l.size, j.SF, λid o q => ?_, λid o b k q => ?_, λid O o T b k U q => ?_, j.tabs.le A⟩, M _⟩
  · exact absurd (show x.H id=some o from q) (by rw[E];simp)
  · exact absurd (show x.H id=some o from q) (by rw[E];simp)
  · exact absurd (show x.H id=some o from q) (by rw[E];simp)
theorem Wx{x:Cx}(C:GB x){g}{row}(hg:HW g=some row){j}{k}{z}(l:row[j]?=some (.int k z)):x.w.cell? ⟨g,j,none⟩=some (.int k z):=by
 have h:=C.tab g row hg
 generalize q:(Value.pointer (some ⟨g,0,none⟩))=v at h
 cases h with
 | rop u I E F=>
  rename_i b off
  simp only[Value.pointer.injEq,wP,Addr.mk.injEq,and_true,xM] at q
  obtain⟨rfl,rfl⟩:=q
  have A:=E j _ l
  have B:=F j _ l
  rw[wY] at A
  rw[A]
  generalize u j=w at B
  cases B;rfl
theorem qF:∀c,c<256→(Fe.flatMap λz=>[RV.int .u8 z])[c]?=some (.int .u8 (Lib.firstT c:Int)):=by
 have h:∀c:Fin 256,Fe[c.val]?=some (Lib.firstT c.val:Int):=by decide +kernel
 intro c hc
 have h1:∀(l:List Int) (j:Nat),(l.flatMap λz=>[RV.int .u8 z])[j]?=(l[j]?).map (RV.int .u8):=by
  intro l
  induction l with
  | nil=>intro j;simp
  | cons a l ih=>intro j;cases j with
   | zero=>simp
   | succ j=>simpa using ih j
 rw[h1,h ⟨c,hc⟩];rfl
theorem fM:∀i,i<16→(JV.flatMap λp=>[RV.int .u8 p.1,RV.int .u8 p.2])[2 * i]?=some (.int .u8 (Lib.accLo i:Int))∧(JV.flatMap λp=>[RV.int .u8 p.1,RV.int .u8 p.2])[2 * i+1]?=some (.int .u8 (Lib.accHi i:Int)):=by
 have h:∀c:Fin 16,JV[c.val]?=some ((Lib.accLo c.val:Int),(Lib.accHi c.val:Int)):=by decide +kernel
 intro i hi
 have h1:∀(l:List (Int × Int)) (j:Nat),(l.flatMap λp=>[RV.int .u8 p.1,RV.int .u8 p.2])[2 * j]?=(l[j]?).map (λp=>RV.int .u8 p.1)∧(l.flatMap λp=>[RV.int .u8 p.1,RV.int .u8 p.2])[2 * j+1]?=(l[j]?).map (λp=>RV.int .u8 p.2):=by
  intro l
  induction l with
  | nil=>intro j;simp
  | cons a l ih=>intro j;cases j with
   | zero=>simp
   | succ j=>
    have:=ih j
    rw[show 2 * (j+1)=2 * j+1+1 by omega]
    simpa using this
 rw[(h1 _ _).1,(h1 _ _).2,h ⟨i,hi⟩]
 exact⟨rfl,rfl⟩
theorem sh{x:Cx}(j:x.ok)(l:Ig≠JA):Lib.Utf8Tabs Ig JA x.w:=by
 have u:HW Ig=some (Fe.flatMap λz=>[.int .u8 z]):=by unfold HW;rw[vx rfl]
 have hA:HW JA=some (JV.flatMap λp=>[.int .u8 p.1,.int .u8 p.2]):=by unfold HW;rw[ne (λe=>l e.symm),vx rfl]
 exact⟨λc w=>Wx j.tabs u (qF c w),λi q=>⟨Wx j.tabs hA (fM i q).1,Wx j.tabs hA (fM i q).2⟩⟩
theorem vZ{P}{ρ:Ren}{f}(L:Go.Proofs.Lays.n196 P ρ)(w:ρ.f 196=f)(A:ρ.g 3=Ig)(B:ρ.g 4=JA)(hc:O8 P f){s}{r}(h:Sx s=some r) :
  AO P f [.r (.str s)] (.r (.bool r)):=by
 subst w
 refine vc hc rfl λx u j l=>?_
 unfold Sx at h
 split at h
 ·rename_i C
  cases h
  have J:=l
  obtain⟨v,E⟩:∃v,u = #[v]:=by
   have:=l.1
   match u,this with
   | ⟨[v]⟩,_=>exact⟨v,rfl⟩
  subst E
  have q:=l.2 0 (.r (.str s)) v rfl rfl
  cases q with
  | r q=>
   cases q with
   | str s=>
    refine(Any.utf8_ValidString L s x.w (by rw[Lib.size_eq];exact C) (by rw[A,B];exact sh j (by decide))).mono λe w' ⟨F,I⟩=>?_
    exact⟨_,F,I,λy=>.r (.bool _)⟩
 ·cases h
end Go.Proofs.YtdafahjmopdleaaGreatDoor.Al

namespace Go.Proofs.YtdafahjmopdleaaGreatDoor.Al
open Go.ChangeMaps (setBlock)
open Go.MapKept Go.RowKit
section
variable{P:Program}{c:Bool}{o:Oper}{R:Ab}{h:AS}{n:Nat}
end
end Go.Proofs.YtdafahjmopdleaaGreatDoor.Al

namespace Go.Proofs.YtdafahjmopdleaaGreatDoor.Al
open Go.ChangeMaps (setBlock)
open Go.MapKept Go.RowKit
set_option linter.unusedVariables false
section
variable{P:Program}{ops:Array Oper}{rest:List Oper}{s:St}{K:St→Prop}{o:Oper}
def HF(P:Program)(j:List ResultVar)(K:AV→AS→Nat→Prop):Exit→St→Prop
 | .normal,s | .ret,s=>∃r,JO P j s r∧K r s.h s.n
 | _,_=>False
theorem aN{f}{fn:Func}{code}{args:List AV}{vs:Array Value}{h}{n N}{z:Cx}{K}(hf:P.funcs[f]?=some fn)(hb:fn.body=some code)(hN:fn.ntmps=N)
 (Z:args.length≤N) (I:z.ok) (hH:z.H=hget h) (hn:z.n=n) (w:IJ z args vs.toList) (hw:AW P code (HF P fn.results.toList K) ⟨Db 0 args, h, n, N⟩) :
    Calls P f vs z.w λe w' => ∃u y r h' J, e=.returned u∧y.w=w'∧z.le y∧y.ok∧y.H=hget h'∧y.n=J∧AX y r u∧K r h' J := by
  have Y:vs.size=args.length := by simpa using w.1
  have M:ES z ⟨Db 0 args, h, n, N⟩ { tmps := vs++Array.replicate (fn.ntmps - vs.size) undef, defers := [] } z.w := by
    refine⟨_, rfl, by simp;omega, z, rfl, .refl z, I, hH, hn, λt => ?_⟩
    rcases SR args 0 t with U | ⟨j, a, U, V, h3⟩
    · rw[U];exact .any _
    · rw[h3]
      have hj:j<vs.size := by rw[Y];exact(wA.1 V).1
      have ht:t=j := by omega
      subst ht
      have:(vs++Array.replicate (fn.ntmps - vs.size) undef).getD t undef=vs[t] := by
        simp[Array.getD, hj]
        omega
      rw[this]
      exact w.2 t a vs[t] V (by simp[hj])
  have O:∀ {e:Exit} {a:Act} {y:Cx} {s:St}, (∃r, JO P fn.results.toList s r∧K r s.h s.n)→z.le y→y.ok→y.H=hget s.h→y.n=s.n→CK y s.e a →
      ∃u, (results fn a.tmps).run P y.w=.ok u y.w∧∃u' E r h' J, Ending.returned u=.returned u'∧E.w=y.w∧z.le E∧E.ok∧E.H=hget h'∧E.n=J∧AX E r u'∧K r h' J := by
    intro e a y s ⟨r, U, V⟩ B q A C X
    obtain⟨u, T, hu⟩ := iE (P := P) q A X U
    exact⟨u, T, u, y, r, s.h, s.n, rfl, rfl, B, q, A, C, hu, V⟩
  refine T8 hf hb I M (hw) λe s a y F B q A C X => ?_
  cases e with
  | normal => exact⟨.inl rfl, O (e := .normal) F B q A C X⟩
  | ret => exact⟨.inr rfl, O (e := .ret) F B q A C X⟩
  | exit id => exact F.elim
  | goto l => exact F.elim
  | panic ch => exact F.elim
  | outgrown => exact F.elim
theorem Se{f}{fn:Func}{code}{O}{xs:Array Operand}{T}{caps bs:List AV}{R}{h}{n N}{a:Act}{z:Cx}{K0}
 (ho : o.op = .call { callee := .value O, args := xs, argTypes := T }) (U : Ev true R O (.fn f caps)) (hx : Hk true R xs.toList bs) (hf : P.funcs[f]? = some fn) (hb : fn.body = some code) (q : (fn.name == "runtime.NumGoroutine") = false)
 (hN:fn.ntmps=N) (A:(bs++caps).length≤N) (V:z.ok) (hH:z.H=hget h) (hn:z.n=n) (he:CK z R a) (hw:AW P code (HF P fn.results.toList K0) ⟨Db 0 (bs++caps), h, n, N⟩) (K:Act→World→Prop) (Q:Exit→Act→World→Prop)
 (hK:∀(u:Value) (y:Cx) (r:AV) (I:AS) (J:Nat), z.le y→y.ok→y.H=hget I→y.n=J→AX y r u→K0 r I J→K (a.put o.dst u) y.w):o.wp P a z.w K Q := by
  obtain⟨l, X⟩ := hx.rep rfl he
  have hv := U.rep he rfl
  generalize Y:a.eval O=v at hv
  cases hv with
  | @fn _ _ us hl B =>
    have C := OU (P := P) ⟨fn, hf, by rw[hb];rfl, q⟩ ho Y z.w
    have w:IJ z (bs++caps) (xs.map a.eval++us).toList := by
      refine⟨by simp[hl];simpa using l.symm, λi b u M h2 => ?_⟩
      have j:((xs.toList.map a.eval)++us.toList)[i]?=some u := by simpa using h2
      by_cases hi:i<bs.length
      · rw[wi hi] at M
        rw[wi (by simp at l ⊢;omega)] at j
        exact X i b u M j
      · rw[we (by omega)] at M
        rw[we (by simp at l ⊢;omega)] at j
        have E:(xs.toList.map a.eval).length=bs.length := by simpa using l.symm
        rw[E] at j
        exact B _ b u M (by simpa using j)
    unfold Oper.wp
    rw[C]
    refine(aN hf hb hN A V hH hn w hw).mono λe w' ⟨u, y, r, I, J, he', Z, a0, F, a1, a2, a6, hk⟩ => ?_
    subst he'
    subst Z
    exact hK u y r I J a0 F a1 a2 a6 hk
theorem vS{d}{f}{fn:Func}{code}{Y}{xs:Array Operand}{C}{N}(caps bs:List AV)(hg:o.guard=none)(hd:o.dst=some d)(E:Nat.blt d s.N=true)
 (ho : o.op = .call { callee := .value Y, args := xs, argTypes := C }) (F : Ev true s.e Y (.fn f caps)) (hx : Hk true s.e xs.toList bs) (hf : P.funcs[f]? = some fn) (hb : fn.body = some code) (j : (fn.name == "runtime.NumGoroutine") = false)
 (hN:fn.ntmps=N) (l:Nat.ble (bs++caps).length N=true)
 (hw:AW P code (HF P fn.results.toList λr Z n' => AN P ops rest { e := (d, r)::s.e, h := Z, n := n', N := s.N } K) ⟨Db 0 (bs++caps), s.h, s.n, N⟩):AN P ops (o::rest) s K := by
  intro c0 a w ⟨_, q, hsz, y, I, J, M, hH, hn, he⟩ Q hQ
  subst I
  refine wpList_plain hg λK' O => ?_
  refine Se ho F hx hf hb j hN (wx l) M hH hn he hw K' Q λu z r Z n' A B T U V hr => ?_
  refine O _ _ ?_
  have X:d<a.tmps.size := by rw[hsz];exact C3 E
  rw[hd]
  exact hr c0 (a.put (some d) u) z.w ⟨_, q, by simpa[Act.put] using hsz, z, rfl, J.trans A, B, T, U, (he.mono A).put X V⟩ Q hQ
theorem vT{f}{fn:Func}{code}{U}{xs:Array Operand}{C}{N}(caps bs:List AV)(hg:o.guard=none)(hd:o.dst=none)
 (Z : o.op = .call { callee := .value U, args := xs, argTypes := C }) (E : Ev true s.e U (.fn f caps)) (hx : Hk true s.e xs.toList bs) (hf : P.funcs[f]? = some fn) (hb : fn.body = some code) (j : (fn.name == "runtime.NumGoroutine") = false)
 (hN:fn.ntmps=N) (l:Nat.ble (bs++caps).length N=true)
 (hw:AW P code (HF P fn.results.toList λ_ V X => AN P ops rest { e := s.e, h := V, n := X, N := s.N } K) ⟨Db 0 (bs++caps), s.h, s.n, N⟩):AN P ops (o::rest) s K := by
  intro c0 a w ⟨_, q, hsz, y, F, I, J, hH, hn, Y⟩ Q hQ
  subst F
  refine wpList_plain hg λK' M => ?_
  refine Se Z E hx hf hb j hN (wx l) J hH hn Y hw K' Q λu z r V X A B O T a0 hr => ?_
  refine M _ _ ?_
  rw[hd]
  exact hr c0 _ z.w ⟨_, q, hsz, z, rfl, I.trans A, B, O, T, Y.mono A⟩ Q hQ
def IO(P:Program)(x:Code)(Q:Exit→St→Prop):Nat→St→Prop
 | 0,_=>False
 | n+1,s=>AW P x (FQ (IO P x Q n) Q) s
theorem IO.step{Q}{x}{n}(h:AW P x (FQ (IO P x Q n) Q) s):IO P x Q (n+1) s:=h
theorem vR{Q}{x}(n:Nat)(h:IO P x Q n s):AW P (.loop x) Q s:=by
 refine AW.loop (λm s=>IO P x Q m s) n ⟨s,Ak.refl s,h⟩ λm s j=>?_
 cases m with
 | zero=>exact j.elim
 | succ m=>
  refine AW.mono (show AW P x (FQ (IO P x Q m) Q) s from j) λe l q=>?_
  cases e with
  | normal=>exact⟨m,zl m,l,Ak.refl l,q⟩
  | _=>exact q
section
variable{c:Bool}{R:Ab}{h:AS}{n:Nat}
end
end
end Go.Proofs.YtdafahjmopdleaaGreatDoor.Al

namespace Go.Proofs.YtdafahjmopdleaaGreatDoor.Al
section
variable{P:Program}{ops:Array Oper}{rest:List Oper}{s:St}{K:St→Prop}{o:Oper}
theorem AU.no{c}{R}{h}{v}(hc:c=false):AU P c o R h v:=λh=>by rw[hc] at h;cases h
theorem vf{c}{d}{f}{fn:Func}{code}{fo}{xs:Array Operand}{E}{N} caps bs(hG:Cd s.e ops o c)(hc:c=true)(hd:o.dst=some d)(F:Nat.blt d s.N=true)
 (ho : o.op = .call { callee := .value fo, args := xs, argTypes := E }) (I : Ev true s.e fo (.fn f caps)) (hx : Hk true s.e xs.toList bs) (hf : P.funcs[f]? = some fn) (hb : fn.body = some code) (j : (fn.name == "runtime.NumGoroutine") = false)
 (hN:fn.ntmps=N) (l:Nat.ble (bs++caps).length N=true)
 (hw:∀C:AV→AS→Nat→Prop, (∀r J M, AN P ops rest { e := (d, r)::s.e, h := J, n := M, N := s.N } K→C r J M)→AW P code (HF P fn.results.toList C) ⟨Db 0 (bs++caps), s.h, s.n, N⟩):AN P ops (o::rest) s K := by
  intro c0 a w ⟨_, q, hsz, y, O, T, U, hH, hn, V⟩ Q hQ
  subst O
  refine wpList_step λC X => ?_
  rw[hG.wanted V, vx hc]
  refine Se ho I hx hf hb j hN (wx l) U hH hn V (hw _ λ_ _ _ h => h) C Q λu z r J M A B Y Z a0 hr => ?_
  refine X _ _ ?_
  have a1:d<a.tmps.size := by rw[hsz];exact C3 F
  rw[hd]
  exact hr c0 (a.put (some d) u) z.w ⟨_, q, by simpa[Act.put] using hsz, z, rfl, T.trans A, B, Y, Z, (V.mono A).put a1 a0⟩ Q hQ
end
end Go.Proofs.YtdafahjmopdleaaGreatDoor.Al

set_option linter.unusedVariables false
namespace Go.Proofs.YtdafahjmopdleaaGreatDoor.Al
def Hd(P:Program)(t:TypeId):Option (Option Value × Nat × Nat):=(P.info? t).map λi=>(i.zero,i.size,i.bytes)
def KP(P:Program)(t:TypeId):Bool:=match P.underlying t,Hd P t with
 | some d,some (some _,sz,_)=>Gm d&&Nat.beq sz 1
 | _,_=>false
def Ky(P:Program)(t:TypeId):Option Nat:=match P.underlying t,Hd P t with
 | some d,some (some _,sz,_)=>if Gm d then none else some sz
 | _,_=>none
def VZ(P:Program)(t:TypeId):Option Nat:=match Hd P t with
 | some (some _,sz,_)=>some sz
 | _=>none
def TE(P:Program)(t:TypeId):Option Value:=match Hd P t with
 | some (some z,_,_)=>some z
 | _=>none
def IA(P:Program)(t:TypeId):Option (TypeId × Nat × Nat):=match P.underlying t with
 | some (.slice e)=>match Hd P e with
  | some (some z,sz,b)=>if z.cells.size=sz∧z.cells.toList.all Value.oneCell'=true∧0<sz then some (e,sz,b) else none
  | _=>none
 | _=>none
def XE(P:Program)(t:TypeId)(f:Nat):Option Nat:=match P.underlying t with
 | some (.struct l)=>match l[f]? with
  | some j=>match Hd P j.type with
   | some (some _,sz,_)=>if sz=0 then none else some j.offset
   | _=>none
  | none=>none
 | _=>none
def YS(P:Program)(t:TypeId)(f:Nat):Option Nat:=match P.underlying t with
 | some (.struct l)=>match l[f]? with
  | some j=>match P.underlying j.type with
   | some d=>if Gm d then some j.offset else none
   | none=>none
  | none=>none
 | _=>none
section
variable{P:Program}{t:TypeId}
theorem Oy(h:KP P t=true):Bh P t:=by
 unfold KP at h
 split at h
 ·rename_i d z sz b j l
  simp only[v7] at h
  have:=wI h.2
  subst this
  exact Bh.of j h.1 l
 ·cases h
theorem Qf{sz}(h:Ky P t=some sz):Bj P t sz:=by
 unfold Ky at h
 split at h
 ·rename_i d z j b l q
  split at h
  ·cases h
  ·rename_i u;cases h
   exact Bj.of l (by simpa using u) q
 ·cases h
theorem ec{sz}(h:VZ P t=some sz):∃i,P.info? t=some i∧i.size=sz:=by
 unfold VZ at h
 split at h
 ·rename_i z j b l;cases h;exact DG l
 ·cases h
theorem iH{z}(h:TE P t=some z):CS P t z:=by
 unfold TE at h
 split at h
 ·rename_i q j b l;cases h;exact CS.of l
 ·cases h
theorem In{e}{sz b}(h:IA P t=some (e,sz,b)):Bn P t e sz b:=by
 unfold IA at h
 split at h
 ·rename_i w l
  split at h
  ·rename_i z q A u
   split at h
   ·rename_i j;cases h;exact Bn.of l u j.1 j.2.1 j.2.2
   ·cases h
  ·cases h
 ·cases h
theorem Y8{f off}(h:XE P t f=some off):AY P t f off:=by
 unfold XE at h
 split at h
 ·rename_i w j
  split at h
  ·rename_i A l
   split at h
   ·rename_i z sz b q
    split at h
    ·cases h
    ·rename_i u;cases h;exact AY.of j l rfl q u
   ·cases h
  ·cases h
 ·cases h
theorem tJ{f off}(h:YS P t f=some off):F4 P t f off:=by
 unfold YS at h
 split at h
 ·rename_i w j
  split at h
  ·rename_i A l
   split at h
   ·rename_i d q
    split at h
    ·rename_i u;cases h;exact F4.of j l rfl q u
    ·cases h
   ·cases h
  ·cases h
 ·cases h
end
def Jf:List UInt8→UInt8→Int→Int
 | [],_,_=>-1
 | b::l,c,k=>match b==c with
  | true=>k
  | false=>Jf l c (k+1)
theorem Y0:∀(l:List UInt8) (c:UInt8),-1≤Lib.indexByte l c
 | [],_=>by simp[Lib.indexByte]
 | b::l,c=>by
  have:=Y0 l c
  simp only[Lib.indexByte]
  split
  ·omega
  ·split
   ·omega
   ·omega
theorem aV:∀(l:List UInt8) (c:UInt8) (k:Int),0≤k→Jf l c k=if Lib.indexByte l c = -1 then -1 else Lib.indexByte l c+k
 | [],_,_,_=>by simp[Jf,Lib.indexByte]
 | b::l,c,k,A=>by
  have hg:=Y0 l c
  have e:Lib.indexByte (b::l) c=(if(b==c)=true then 0 else if(Lib.indexByte l c == -1)=true then -1 else Lib.indexByte l c+1):=rfl
  have u:Jf (b::l) c k=(match b==c with | true=>k | false=>Jf l c (k+1)):=rfl
  generalize Lib.indexByte (b::l) c=z at e ⊢
  rw[u]
  cases q:b==c
  ·rw[q] at e
   simp only[xo,ya] at e
   show Jf l c (k+1)=_
   rw[aV l c (k+1) (by omega),e]
   by_cases j:Lib.indexByte l c = -1
   ·rw[j];simp
   ·have w:(Lib.indexByte l c == -1)=false:=by simpa using j
    rw[ne j,w]
    simp only[xo,ya]
    rw[ne (by omega)];omega
  ·rw[q] at e
   simp only[xm] at e
   rw[e];simp
theorem oh l c:Jf l c 0=Lib.indexByte l c:=by
 rw[aV l c 0 (za _)]
 split
 ·rename_i h;rw[h]
 ·omega
def Vn (fn : Func) : Bool := fn.body.isNone && (fn.name == "internal/bytealg.IndexByteString" && fn.origin == "")
theorem oT {fn : Func} (h : fn.name = "internal/bytealg.IndexByteString") (j : fn.origin = "") : Extern.find fn = some Extern.BytealgIndexByte.indexByte ∧ Extern.findNext fn = none := by
 have l : Extern.allGenericRows.lookup "internal/bytealg.IndexByteString" = none := by kernel_rfl
 have q : Extern.allTypedRows.lookup "internal/bytealg.IndexByteString" = none := by kernel_rfl
 have u : Extern.allRows.lookup "internal/bytealg.IndexByteString" = some Extern.BytealgIndexByte.indexByte := by kernel_rfl
 have w : Extern.allNextRows.lookup "" = none := by kernel_rfl
 have A : Extern.allNextRows.lookup "internal/bytealg.IndexByteString" = none := by kernel_rfl
 constructor
 ·unfold Extern.find
  simp only[h,l,q,u]
  rfl
 ·unfold Extern.findNext
  simp only[h,j,A,w]
  rfl
section
variable{P:Program}{c:Bool}{o:Oper}{R:Ab}{h:AS}
theorem qX{f}{fn:Func}{C x y}{E}{s:List UInt8}{m:Int}(ho:o.op=.call { callee := .value C, args := #[x, y], argTypes := E })(M:P.funcs[f]?=some fn)(u:Vn fn=true)(F:Ev c R C (.fn f []))
 (O:Ev c R x (.r (.str s))) (T:Ev c R y (.r (.int .u8 m))):AU P c o R h (.r (.int .i64 (Lib.indexByte s m.toNat.toUInt8))) := by
  intro A z w _ _ B
  refine⟨.int .i64 (Lib.indexByte s m.toNat.toUInt8), λw2 _ => ?_, .r (.int _ _)⟩
  simp only[Vn, v7, zj] at u
  obtain⟨U, V⟩ := oT u.2.1 u.2.2
  have X := F.rep B A
  generalize I:w.eval C=v at X
  cases X with
  | @fn _ _ Y hl Z =>
    have J:Y = #[] := by
      have:Y.size=0 := hl.symm
      exact Array.eq_empty_of_size_eq_zero this
    subst J
    unfold execOp
    rw[ho]
    simp only[resolve, I, Deferred.ofValue, Sem.run_bind, Sem.run_pure, Result.andThen_ok, invoke]
    have q:(#[x, y].map w.eval ++ #[]:Array Value) = #[.string ⟨s.toArray⟩, .int .u8 m] := by
      simp[Hy (O.rep B A), Cw (T.rep B A)]
    have l:(#[] ++ #[x, y].map w.eval ++ #[]:Array Value) = #[.string ⟨s.toArray⟩, .int .u8 m] := by
      simp[Hy (O.rep B A), Cw (T.rep B A)]
    have j : (fn.name == "runtime.NumGoroutine") = false := by rw [u.2.1]; rfl
    first
      | rw[q, run_callFunc_extern M j u.1 V U, Lib.run_indexByteString];rfl
      | rw[l, run_callFunc_extern M j u.1 V U, Lib.run_indexByteString];rfl
end
def A6(R:Ab)(x:Operand):AV:=match BR R x with
 | .whn true v=>v
 | v=>v
theorem Be c R x:Ev c R x (A6 R x):=by
 unfold A6 Ev
 split
 ·rename_i v h;exact .inr ⟨true,λ_=>rfl,h⟩
 ·exact .inl rfl
section
variable{P:Program}{c:Bool}{o:Oper}{R:Ab}{h:AS}
def XF(P:Program)(op:BinOp)(t:TypeId):AV→AV→Option AV
 | .r (.int k m),.r (.int j n)=>if k=j then match op with
   | .add=>some (.r (.int k (k.wrap (m+n))))
   | .sub=>some (.r (.int k (k.wrap (m-n))))
   | .mul=>if k.wrap (m * n)=m * n then some (.r (.int k (m * n))) else none
   | .quo=>if n≠0∧k.wrap (m.tdiv n)=m.tdiv n then some (.r (.int k (m.tdiv n))) else none
   | .rem=>if n≠0 then some (.r (.int k (m.tmod n))) else none
   | .eql=>some (.r (.bool (decide (m=n))))
   | .neq=>some (.r (.bool (!(m=n))))
   | .lss=>some (.r (.bool (decide (m<n))))
   | .leq=>some (.r (.bool (decide (m≤n))))
   | .gtr=>some (.r (.bool (decide (n<m))))
   | .geq=>some (.r (.bool (decide (n≤m))))
   | _=>none
  else none
 | .r (.str a),.r (.str b)=>match op with
   | .eql=>some (.r (.bool (decide (a=b))))
   | .neq=>some (.r (.bool (!(a=b))))
   | .lss=>some (.r (.bool (A1 a b)))
   | .geq=>some (.r (.bool (!A1 a b)))
   | .leq=>some (.r (.bool (A1 a b||(a=b))))
   | .gtr=>some (.r (.bool (!(A1 a b||(a=b)))))
   | .add=>if a.length+b.length≤9223372036854775807 then some (.r (.str (a++b))) else none
   | _=>none
 | .r (.bool m),.r (.bool n)=>match P.underlying t with
   | some .bool=>match op with
    | .eql=>some (.r (.bool (m==n)))
    | .neq=>some (.r (.bool (!(m==n))))
    | _=>none
   | _=>none
 | _,_=>none
theorem o7{op}{t B}{x y}{a b v}(l:o.op=.binOp op t x y B)(q:Ev c R x a)(u:Ev c R y b)(j:XF P op t a b=some v):AU P c o R h v := by
  unfold XF at j
  split at j
  · split at j
    · rename_i C;subst C
      cases op<;>dsimp only at j<;>first
        | (cases j;first | exact kG l q u | exact mR l q u | exact Aq l q u | exact Cf l q u | exact B7 l q u | exact FC l q u | exact BD l q u | exact Cs l q u)
        | (split at j
           · rename_i w;cases j;first | exact ol l q u w | exact pm l q u w.1 w.2 | exact kZ l q u w
           · cases j)
        | (cases j;done)
    · cases j
  · cases op<;>dsimp only at j<;>first
      | (cases j;first | exact Bo l q u | exact Ds l q u | exact LH l q u | exact V8 l q u | exact hJ l q u | exact rz l q u)
      | (split at j
         · rename_i w;cases j;exact jX l q u w
         · cases j)
      | (cases j;done)
  · split at j
    · rename_i A
      cases op<;>dsimp only at j<;>first
        | (cases j;first | exact hY l A q u | exact ex l A q u)
        | (cases j;done)
    · cases j
  · cases j
def SL:Nat→List Field→Bool
 | _,[]=>true
 | i, f :: j => (!(f.name == "_") && Nat.beq f.offset i) && SL (i + 1) j
def Vk(P:Program)(t:TypeId):Option (List (Option TypeDesc)):=match P.underlying t with
 | some (.struct j)=>if(P.stoodInHeld t=false∧P.eqGuardType P.depth t=false)∧SL 0 j.toList=true then some (j.toList.map λf=>P.underlying f.type) else none
 | _=>none
theorem eU:∀ {j:List Field} {i:Nat},SL i j=true→QG P i j (j.map λf=>P.underlying f.type)
 | [],_,_=>trivial
 | f::j,i,h=>by
  simp only[SL,v7,wz] at h
  exact⟨h.1.1,wI h.1.2,rfl,eU h.2⟩
theorem gU{t}{l}(h:Vk P t=some l):Eu P t l:=by
 unfold Vk at h
 split at h
 ·rename_i u q
  split at h
  ·rename_i j;cases h;exact Eu.of q j.1.1 j.1.2 (eU j.2)
  ·cases h
 ·cases h
def Vo(P:Program)(op:BinOp)(t:TypeId):AV→AV→Option AV
 | .agg j,.agg l=>match Vk P t with
  | some q=>match Hq q j l with
   | some r=>match op with
    | .eql=>some (.r (.bool r))
    | .neq=>some (.r (.bool (!r)))
    | _=>none
   | none=>none
  | none=>none
 | _,_=>none
theorem rQ{op}{t B}{x y}{a b v}(l:o.op=.binOp op t x y B)(q:Ev c R x a)(u:Ev c R y b)(j:Vo P op t a b=some v):AU P c o R h v:=by
 unfold Vo at j
 split at j
 ·split at j
  ·rename_i C w
   split at j
   ·rename_i r A
    split at j
    ·cases j;exact Xf l (gU w) q u A
    ·cases j;exact KF l (gU w) q u A
    ·cases j
   ·cases j
  ·cases j
 ·cases j
def Yb(op:BinOp):AV→AV→Option AV
 | .r (.int k m),.r (.int _ n)=>if 0≤n then match op with
   | .shl=>some (.r (.int k (D9 k m n.toNat)))
   | .shr=>some (.r (.int k (FZ k m n.toNat)))
   | _=>none
  else none
 | _,_=>none
def XZ(op:BinOp):AV→AV→Option AV
 | .r (.int k m),.r (.int j n)=>if k=j then match op with
   | .and=>some (.r (.int k (Cg k m n)))
   | .or=>some (.r (.int k (EZ k m n)))
   | .xor=>some (.r (.int k (VU k m n)))
   | .andNot=>some (.r (.int k (QD k m n)))
   | _=>none
  else none
 | _,_=>none
theorem ji{op}{t w}{x y}{a b v}(l:o.op=.binOp op t x y w)(q:Ev c R x a)(u:Ev c R y b)(j:XZ op a b=some v):AU P c o R h v:=by
 unfold XZ at j
 split at j
 ·split at j
  ·rename_i A;subst A
   split at j
   ·cases j;exact Gn l q u
   ·cases j;exact Jq l q u
   ·cases j;exact tU l q u
   ·cases j;exact ew l q u
   ·cases j
  ·cases j
 ·cases j
theorem uu{op}{t w}{x y}{a b v}(q:o.op=.binOp op t x y w)(u:Ev c R x a)(l:Ev c R y b)(j:Yb op a b=some v):AU P c o R h v:=by
 unfold Yb at j
 split at j
 ·split at j
  ·rename_i A
   rw[← Int.toNat_of_nonneg A] at l
   split at j
   ·cases j;exact KC q u l
   ·cases j;exact R1 q u l
   ·cases j
  ·cases j
 ·cases j
def vq:AV→Option Bool
 | .r (.bool b)=>some b
 | .whn _ (.r (.bool b))=>some b
 | _=>none
def X8(R:Ab)(x y z:Operand):Option AV:=
 match A6 R x with
 | .r (.bool a)=>
  match z with
  | .const (.bool false)=>match a,BR R y with
   | true,.r (.bool b)=>some (.r (.bool b))
   | true,.whn true (.r (.bool b))=>some (.r (.bool b))
   | false,.r (.bool _)=>some (.r (.bool false))
   | false,.whn _ (.r (.bool _))=>some (.r (.bool false))
   | _,_=>none
  | _=>match y with
   | .const (.bool true)=>match a,BR R z with
    | false,.r (.bool b)=>some (.r (.bool b))
    | false,.whn true (.r (.bool b))=>some (.r (.bool b))
    | true,.r (.bool _)=>some (.r (.bool true))
    | true,.whn _ (.r (.bool _))=>some (.r (.bool true))
    | _,_=>none
   | _=>none
 | _=>none
theorem lS{x y z}{v}(u:o.op=.pick x y z)(j:X8 R x y z=some v):AU P c o R h v:=by
 unfold X8 at j
 have q:=Be c R x
 split at j
 ·rename_i a A
  rw[A] at q
  split at j
  ·split at j
   ·rename_i b l;cases j;exact BP (a:=true) (b:=b) u q (.inl l)
   ·rename_i b l;cases j;exact BP (a:=true) (b:=b) u q (.inr ⟨true,λ_=>rfl,l⟩)
   ·rename_i b l;cases j;exact BP (a:=false) (b:=b) u q (.inl l)
   ·rename_i w b l;cases j;exact BP (a:=false) (b:=b) u q (.inr ⟨w,λe=>by simp at e,l⟩)
   ·cases j
  ·split at j
   ·split at j
    ·rename_i b l;cases j;exact CM (a:=false) (b:=b) u q (.inl l)
    ·rename_i b l;cases j;exact CM (a:=false) (b:=b) u q (.inr ⟨true,λ_=>rfl,l⟩)
    ·rename_i b l;cases j;exact CM (a:=true) (b:=b) u q (.inl l)
    ·rename_i w b l;cases j;exact CM (a:=true) (b:=b) u q (.inr ⟨w,λe=>by simp at e,l⟩)
    ·cases j
   ·cases j
 ·cases j
def VX(P:Program)(t:TypeId)(h:AS):AV→Option AV
 | .rop row k=>match KP P t with
  | true=>match row[k]? with
   | some d=>some (.r d)
   | none=>none
  | false=>match Ky P t with
   | some sz=>if k=0∧row.length=sz then some (.agg (row.map .r)) else none
   | none=>none
 | .ptr id g i k=>match hget h id with
  | some (.box j e l)=>if g=j∧i=0 then match KP P t with
    | true=>l[k]?
    | false=>match Ky P t with
     | some sz=>if((l.drop k).take sz).length=sz then some (.agg ((l.drop k).take sz)) else none
     | none=>none
   else none
  | some (.arr j e sz u)=>if g=j then match u[i]? with
    | some row=>match KP P t with
     | true=>match row[k]? with
      | some d=>some (.r d)
      | none=>none
     | false=>match Ky P t with
      | some q=>if k=0∧q=sz then some (.agg (row.map .r)) else none
      | none=>none
    | none=>none
   else none
  | _=>none
 | _=>none
theorem tD{t}{x}{a v}(u:o.op=.load t x)(w:Ev c R x a)(j:VX P t h a=some v):AU P c o R h v:=by
 unfold VX at j
 split at j
 ·split at j
  ·rename_i l
   split at j
   ·rename_i d hd;cases j;exact eW u (Oy l) w (λ_=>hd)
   ·cases j
  ·split at j
   ·rename_i sz l
    split at j
    ·rename_i A;obtain⟨rfl,B⟩:=A;cases j;exact ZV u (Qf l) w B
    ·cases j
   ·cases j
 ·split at j
  ·rename_i C
   split at j
   ·rename_i A;obtain⟨rfl,rfl⟩:=A
    split at j
    ·rename_i l;exact U2 u (Oy l) w (λ_=>C) (λ_=>j)
    ·split at j
     ·rename_i sz l
      split at j
      ·rename_i B;cases j;exact Zs u (Qf l) w (λ_=>C) rfl B
      ·cases j
     ·cases j
   ·cases j
  ·rename_i C
   split at j
   ·rename_i A;subst A
    split at j
    ·rename_i row q
     split at j
     ·rename_i l
      split at j
      ·rename_i d hd;cases j;exact bV u (Oy l) w (λ_=>C) (λ_=>q) (λ_=>hd)
      ·cases j
     ·split at j
      ·rename_i E l
       split at j
       ·rename_i B;obtain⟨rfl,rfl⟩:=B;cases j;exact jB u (Qf l) w (λ_=>C) (λ_=>q)
       ·cases j
      ·cases j
    ·cases j
   ·cases j
  ·cases j
 ·cases j
def UE(h:AS)(id g:Nat):Bool:=match hget h id with
 | some j=>Nat.beq j.gen g
 | none=>false
theorem fq{id g}(hp:UE h id g=true):∃ob,hget h id=some ob∧ob.gen=g:=by
 unfold UE at hp
 split at hp
 ·rename_i ob j;exact⟨ob,j,wI hp⟩
 ·cases hp
def Xc(h:AS):AV→Option AV
 | .rop row k=>some (.rop row k)
 | .ptr id g i k=>if UE h id g=true then some (.ptr id g i k) else none
 | _=>none
theorem tT{x}{a v}(l:o.op=.nilCheck x)(q:Ev c R x a)(j:Xc h a=some v):AU P c o R h v:=by
 unfold Xc at j
 split at j
 ·cases j;exact te l q
 ·split at j
  ·rename_i hp;cases j
   obtain⟨A,u,w⟩:=fq hp
   exact B1 l q (λ_=>u) w
  ·cases j
 ·cases j
def W2(P:Program)(t:TypeId)(f:Nat)(h:AS)(a:AV):Option AV:=match XE P t f with
 | some off=>match a with
  | .rop row k=>some (.rop row (k+off))
  | .ptr id g i k=>if UE h id g=true then some (.ptr id g i (k+off)) else none
  | _=>none
 | none=>none
theorem jm{t}{x}{f}{a v}(l:o.op=.fieldAddr t x f)(q:Ev c R x a)(j:W2 P t f h a=some v):AU P c o R h v:=by
 unfold W2 at j
 split at j
 ·rename_i off u
  split at j
  ·cases j;exact A2 l (Y8 u) q
  ·split at j
   ·rename_i hp;cases j
    obtain⟨B,w,A⟩:=fq hp
    exact Fg l (Y8 u) q (λ_=>w) A
   ·cases j
  ·cases j
 ·cases j
def W5(P:Program)(t:TypeId)(h:AS)(a i:AV):Option AV:=match IA P t with
 | some (_,sz,_)=>match i with
  | .r (.int _ n)=>if 0≤n then match a with
    | .r (.sl j)=>match j[n.toNat]? with
     | some row=>if row.length=sz then some (.rop row 0) else none
     | none=>none
    | .own id g=>match hget h id with
     | some (.arr q _ l j)=>if(q=g∧l=sz)∧n<j.length then some (.ptr id g n.toNat 0) else none
     | _=>none
    | _=>none
   else none
  | _=>none
 | none=>none
theorem uw{t}{x i}{a b v}(q:o.op=.indexAddr t x i)(u:Ev c R x a)(w:Ev c R i b)(j:W5 P t h a b=some v):AU P c o R h v:=by
 unfold W5 at j
 split at j
 ·rename_i e sz C hg
  have A:=(In hg).slice
  split at j
  ·split at j
   ·rename_i B
    split at j
    ·split at j
     ·rename_i row l
      split at j
      ·rename_i E;cases j;exact cU q A u w (λ_=>B) (λ_=>l) E
      ·cases j
     ·cases j
    ·split at j
     ·rename_i F
      split at j
      ·rename_i I;obtain⟨⟨rfl,rfl⟩,J⟩:=I;cases j
       exact fP q A u F w (λ_=>B) (λ_=>J)
      ·cases j
     ·cases j
    ·cases j
   ·cases j
  ·cases j
 ·cases j
def Vd(P:Program)(t:TypeId)(a i:AV):Option AV:=match P.underlying t with
 | some .string=>match a,i with
  | .r (.str s),.r (.int _ n)=>if 0≤n then match s[n.toNat]? with
    | some j=>some (.r (.int .u8 j.toNat))
    | none=>none
   else none
  | _,_=>none
 | _=>none
theorem uN{t}{x i}{a b v}(l:o.op=.index t x i)(q:Ev c R x a)(u:Ev c R i b)(j:Vd P t a b=some v):AU P c o R h v:=by
 unfold Vd at j
 split at j
 ·rename_i w
  split at j
  ·split at j
   ·rename_i A
    split at j
    ·rename_i C B;cases j;exact ci l w q u (λ_=>A) (λ_=>B)
    ·cases j
   ·cases j
  ·cases j
 ·cases j
def Vy(P:Program)(t:TypeId)(h:AS):AV→Option AV
 | .r (.str s)=>match P.underlying t with
  | some .string=>some (.r (.int .i64 s.length))
  | _=>none
 | .r (.sl j)=>match IA P t with
  | some _=>some (.r (.int .i64 j.length))
  | none=>none
 | .own id g=>match IA P t,hget h id with
  | some _,some (.arr l _ _ j)=>if l=g then some (.r (.int .i64 j.length)) else none
  | _,_=>none
 | .cst (.slice none 0 0)=>match IA P t with
  | some _=>some (.r (.int .i64 0))
  | none=>none
 | _=>none
theorem s8{t}{x}{a v}(l:o.op=.call { callee:=.builtin .len,args:=#[x],argTypes:=#[t] })(u:Ev c R x a)(j:Vy P t h a=some v):AU P c o R h v:=by
 unfold Vy at j
 split at j
 ·split at j
  ·rename_i w;cases j;exact DE l w u
  ·cases j
 ·split at j
  ·rename_i q hg;obtain⟨e,sz,b⟩:=q;cases j;exact fp l (In hg).slice u
  ·cases j
 ·split at j
  ·rename_i q E F A I hg B
   obtain⟨e,sz,b⟩:=q
   split at j
   ·rename_i C;subst C;cases j;exact iN l (In hg).slice u B
   ·cases j
  ·cases j
 ·split at j
  ·rename_i q hg;obtain⟨e,sz,b⟩:=q;cases j;exact rd l (In hg).slice u
  ·cases j
 ·cases j
def Uy(P:Program)(t l:TypeId):AV→Option AV
 | .r (.int _ n)=>match P.underlying t,P.underlying l with
  | some _,some (.int j)=>some (.r (.int j (j.wrap n)))
  | _,_=>none
 | _=>none
theorem ml{t l}{x}{a v}(q:o.op=.convert t l x)(u:Ev c R x a)(j:Uy P t l a=some v):AU P c o R h v:=by
 unfold Uy at j
 split at j
 ·split at j
  ·rename_i d B w A;cases j;exact D2 q w A u
  ·cases j
 ·cases j
end
section
variable{P:Program}{c:Bool}{o:Oper}{R:Ab}{h:AS}
def ST(R:Ab)(j:Nat):Option Operand→Option Nat
 | none=>some j
 | some x=>match A6 R x with
  | .r (.int _ z)=>if 0≤z then some z.toNat else none
  | _=>none
theorem e8{d m}{x}(j:ST R d x=some m):Om c R d x m:=by
 unfold ST at j
 split at j
 ·cases j;rfl
 ·rename_i x
  have l:=Be c R x
  split at j
  ·rename_i k z q
   rw[q] at l
   split at j
   ·rename_i u;cases j;exact⟨k,z,l,λ_=>u,rfl⟩
   ·cases j
  ·cases j
def SX(R:Ab)(j:Int):Option Operand→Option Int
 | none=>some j
 | some x=>match A6 R x with
  | .r (.int _ z)=>some z
  | _=>none
theorem fV{d m}{x}(j:SX R d x=some m):Hf c R d x m:=by
 unfold SX at j
 split at j
 ·cases j;rfl
 ·rename_i x
  have l:=Be c R x
  split at j
  ·rename_i k z q;rw[q] at l;cases j;exact⟨k,l⟩
  ·cases j
def Vz(P:Program)(R:Ab)(t:TypeId)(q u:Option Operand):AV→Option AV
 | .r (.sl j)=>match IA P t with
  | some (_,sz,_)=>match ST R 0 q,ST R j.length u with
   | some l,some m=>if(l≤m∧m≤j.length)∧(j.all λrow=>Nat.beq row.length sz)=true then some (.r (.sl ((j.drop l).take (m-l)))) else none
   | _,_=>none
  | none=>none
 | .r (.str s)=>match P.underlying t with
  | some .string=>match SX R 0 q,SX R s.length u with
   | some l,some m=>match CV s l m with
    | some r=>some (.r (.str r))
    | none=>none
   | _,_=>none
  | _=>none
 | _=>none
theorem sH{t}{x}{B C}{a v}(E:o.op=.slice t x B C none)(F:Ev c R x a)(j:Vz P R t B C a=some v):AU P c o R h v:=by
 unfold Vz at j
 split at j
 ·split at j
  ·rename_i e sz b hg
   split at j
   ·rename_i l m u w
    split at j
    ·rename_i A
     cases j
     exact ef E (In hg).slice F (e8 u) (e8 w) (λ_=>A.1.1) (λ_=>A.1.2) (λrow q=>wI (wT.1 A.2 row q))
    ·cases j
   ·cases j
  ·cases j
 ·split at j
  ·rename_i I
   split at j
   ·rename_i l m u w
    split at j
    ·rename_i r J;cases j;exact LT E I F (fV u) (fV w) (λ_=>J)
    ·cases j
   ·cases j
  ·cases j
 ·cases j
def Vj(P:Program)(t:TypeId)(f:Nat):AV→Option AV
 | .agg j=>match YS P t f with
  | some off=>j[off]?
  | none=>none
 | _=>none
theorem qz{t}{x}{f}{a v}(l:o.op=.field t x f)(q:Ev c R x a)(j:Vj P t f a=some v):AU P c o R h v:=by
 unfold Vj at j
 split at j
 ·split at j
  ·rename_i off u;exact Ou l (tJ u) q j
  ·cases j
 ·cases j
theorem Li c R:∀xs:List Operand,Hk c R xs (xs.map (A6 R))
 | []=>trivial
 | x::xs=>⟨Be c R x,Li c R xs⟩
def Th(P:Program):List Field→Option (List (Nat × Nat))
 | []=>some []
 | f::j=>match Hd P f.type,Th P j with
  | some (_,sz,_),some r=>some ((f.offset,sz)::r)
  | _,_=>none
def XG(P:Program)(t:TypeId):Option (List (Nat × Nat) × List Value):=match P.underlying t with
 | some (.struct j)=>match Th P j.toList,Hd P t with
  | some pl,some (some (.agg l),_,_)=>some (pl,l.toList)
  | _,_=>none
 | _=>none
theorem eN:∀ {q:List Field} {pl:List (Nat × Nat)},Th P q=some pl→∀w,(q.mapM (m:=Sem) λf=>do pure (f.offset,← sizeOf f.type)).run P w=.ok pl w
 | [],pl,hp,w=>by cases hp;rfl
 | f::q,pl,hp,w=>by
  unfold Th at hp
  split at hp
  ·rename_i C sz b r j u
   cases hp
   have A:=eN u w
   obtain⟨i,l,B⟩:∃i,P.info? f.type=some i∧i.size=sz:=by
    unfold Hd at j
    cases l:P.info? f.type with
    | none=>rw[l] at j;cases j
    | some i=>rw[l] at j;simp only[xi,wP,wV] at j;exact⟨i,rfl,j.2.1⟩
   rw[List.mapM_cons]
   simp only[Sem.run_bind,Ei l,Result.andThen_ok,A,Sem.run_pure,B]
  ·cases hp
theorem nP{t}{pl}{l}(j:XG P t=some (pl,l)):DV P t pl l:=by
 unfold XG at j
 split at j
 ·rename_i E q
  split at j
  ·rename_i u A sz b B C
   cases j
   refine DV.of q (λw=>?_) (sz:=sz) (b:=b) (by simpa[Hd] using C)
   rw[Array.mapM_eq_mapM_toList]
   have:=eN B w
   simp only[Sem.run_map,this]
   rfl
  ·cases j
 ·cases j
def Sy(R:Ab)(j:List (Nat × Nat))(len:Nat):List (Nat × Operand)→Option (List (Nat × AV))
 | []=>some []
 | (i,x)::r=>match j[i]?,Sy R j len r with
  | some (off,sz),some q=>if(sz=(Bm (A6 R x)).length∧Nat.ble (off+(Bm (A6 R x)).length) len=true)∧(Bm (A6 R x)).all AV.one=true then some ((off,A6 R x)::q) else none
  | _,_=>none
theorem dB{j}{len} : ∀ {u:List (Nat × Operand)} {q:List (Nat × AV)},Sy R j len u=some q→Ra c R j len u q
 | [],q,hp=>by cases hp;trivial
 | (i,x)::r,q,hp=>by
  unfold Sy at hp
  split at hp
  ·rename_i off sz B w A
   split at hp
   ·rename_i l;cases hp
    exact⟨by rw[w,l.1.1],l.1.2,l.2,Be c R x,dB A⟩
   ·cases hp
  ·cases hp
def WK(P:Program)(R:Ab)(t:TypeId)(l:List (Nat × Operand)):Option AV:=match XG P t with
 | some (pl,j)=>match Sy R pl j.length l with
  | some q=>some (.agg (N5 (j.map IV) q))
  | none=>none
 | none=>none
theorem lP{t}{parts:Array (Nat × Operand)}{v}(l:o.op=.build t parts)(j:WK P R t parts.toList=some v):AU P c o R h v:=by
 unfold WK at j
 split at j
 ·rename_i pl A u
  split at j
  ·rename_i q w;cases j;exact Bg l (nP u) (dB w) rfl
  ·cases j
 ·cases j
def XN(P:Program)(R:Ab)(h:AS):Call→Option AV
 | ⟨.builtin .len,⟨[x]⟩,⟨[t]⟩⟩=>Vy P t h (A6 R x)
 | ⟨.builtin .min,⟨[x,y]⟩,_⟩=>match A6 R x,A6 R y with
  | .r (.int k m),.r (.int j n)=>if k=j then some (.r (.int k (min m n))) else none
  | _,_=>none
 | ⟨.builtin .max,⟨[x,y]⟩,_⟩=>match A6 R x,A6 R y with
  | .r (.int k m),.r (.int j n)=>if k=j then some (.r (.int k (max m n))) else none
  | _,_=>none
 | ⟨.value l,⟨[x,y]⟩,_⟩=>match A6 R l with
  | .fn f []=>match P.funcs[f]? with
   | some fn=>match Vn fn with
    | true=>match A6 R x,A6 R y with
     | .r (.str s),.r (.int .u8 m)=>some (.r (.int .i64 (Jf s m.toNat.toUInt8 0)))
     | _,_=>none
    | false=>none
   | none=>none
  | _=>none
 | _=>none
theorem mq{F}{v}(B:o.op=.call F)(j:XN P R h F=some v):AU P c o R h v:=by
 unfold XN at j
 split at j
 ·rename_i x t;exact s8 B (Be c R x) j
 ·rename_i x y u
  have l:=Be c R x
  have q:=Be c R y
  split at j
  ·rename_i k m I n w A
   rw[w] at l;rw[A] at q
   split at j
   ·rename_i C;subst C;cases j;exact Ku B l q
   ·cases j
  ·cases j
 ·rename_i x y u
  have l:=Be c R x
  have q:=Be c R y
  split at j
  ·rename_i k m I n w A
   rw[w] at l;rw[A] at q
   split at j
   ·rename_i C;subst C;cases j;exact Xi B l q
   ·cases j
  ·cases j
 ·rename_i J x y u
  have l:=Be c R x
  have q:=Be c R y
  split at j
  ·rename_i f E
   split at j
   ·rename_i fn M
    split at j
    ·rename_i O
     split at j
     ·rename_i s m w A
      rw[w] at l;rw[A] at q
      cases j
      rw[oh]
      exact qX B M O (by rw[← E];exact Be c R J) l q
     ·cases j
    ·cases j
   ·cases j
  ·cases j
 ·cases j
def Lj(P:Program)(R:Ab)(h:AS)(o:Oper):Option AV:=match o.op with
 | .move x=>some (A6 R x)
 | .assign x=>some (A6 R x)
 | .binOp op t x y _=>match Yb op (A6 R x) (A6 R y) with
  | some v=>some v
  | none=>match XZ op (A6 R x) (A6 R y) with
   | some v=>some v
   | none=>match Vo P op t (A6 R x) (A6 R y) with
    | some v=>some v
    | none=>XF P op t (A6 R x) (A6 R y)
 | .unOp .not _ x=>match A6 R x with
  | .r (.bool b)=>some (.r (.bool (!b)))
  | _=>none
 | .unOp .neg _ x=>match A6 R x with
  | .r (.int k m)=>if k.wrap (-m) = -m then some (.r (.int k (-m))) else none
  | _=>none
 | .pick x y z=>X8 R x y z
 | .extract x i=>match A6 R x with
  | .tup j=>j[i]?
  | _=>none
 | .nilCheck x=>Xc h (A6 R x)
 | .fieldAddr t x f=>W2 P t f h (A6 R x)
 | .load t x=>VX P t h (A6 R x)
 | .indexAddr t x i=>W5 P t h (A6 R x) (A6 R i)
 | .index t x i=>Vd P t (A6 R x) (A6 R i)
 | .field t x f=>Vj P t f (A6 R x)
 | .convert t l x=>Uy P t l (A6 R x)
 | .slice t x q u none=>Vz P R t q u (A6 R x)
 | .makeFunc (.func f) ⟨[]⟩ w=>some (.fn f (w.toList.map (A6 R)))
 | .build t parts=>WK P R t parts.toList
 | .call A=>XN P R h A
 | _=>none
theorem Lm{v}(l:Lj P R h o=some v):AU P c o R h v:=by
 unfold Lj at l
 split at l
 ·rename_i x j;cases l;exact AK j (Be c R x)
 ·rename_i x j;cases l;exact Do j (Be c R x)
 ·rename_i op t x y B j
  split at l
  ·rename_i A u;cases l;exact uu j (Be c R x) (Be c R y) u
  ·split at l
   ·rename_i A u;cases l;exact ji j (Be c R x) (Be c R y) u
   ·split at l
    ·rename_i A u;cases l;exact rQ j (Be c R x) (Be c R y) u
    ·exact o7 j (Be c R x) (Be c R y) l
 ·rename_i t x j
  have q:=Be c R x
  split at l
  ·rename_i b w;rw[w] at q;cases l;exact A0 j q
  ·cases l
 ·rename_i t x j
  have q:=Be c R x
  split at l
  ·rename_i k m w
   rw[w] at q
   split at l
   ·rename_i C;cases l;exact sc j q C
   ·cases l
  ·cases l
 ·rename_i x y z j;exact lS j l
 ·rename_i x i j
  have q:=Be c R x
  split at l
  ·rename_i F w;rw[w] at q;exact gL j q l
  ·cases l
 ·rename_i x j;exact tT j (Be c R x) l
 ·rename_i t x f j;exact jm j (Be c R x) l
 ·rename_i t x j;exact tD j (Be c R x) l
 ·rename_i t x i j;exact uw j (Be c R x) (Be c R i) l
 ·rename_i t x i j;exact uN j (Be c R x) (Be c R i) l
 ·rename_i t x f j;exact qz j (Be c R x) l
 ·rename_i t B x j;exact ml j (Be c R x) l
 ·rename_i t x I J j;exact sH j (Be c R x) l
 ·rename_i f E j;cases l;exact QL j (Li c R E.toList)
 ·rename_i t parts j;exact lP j l
 ·rename_i M j;exact mq j l
 ·cases l
end
section
variable{P:Program}{o:Oper}{R:Ab}{h:AS}{n:Nat}
def SD(R:Ab)(sz:Nat):Nat→List (Nat × Operand)→Option (List (List RV))
 | _,[]=>some []
 | i,(j,x)::r=>match H2 (A6 R x),SD R sz (i+1) r with
  | some row,some l=>if j=i∧row.length=sz then some (row::l) else none
  | _,_=>none
theorem dE{c}{sz} : ∀ {A:List (Nat × Operand)} {i:Nat} {l:List (List RV)},SD R sz i A=some l→KJ c R i A l∧∀row∈l,row.length=sz
 | [],i,l,hp=>by cases hp;exact⟨trivial,by simp⟩
 | (j,x)::r,i,l,hp=>by
  unfold SD at hp
  split at hp
  ·rename_i row u C E
   split at hp
   ·rename_i B;cases hp
    obtain⟨F,I⟩:=dE (c:=c) E
    refine⟨⟨B.1,⟨_,Be c R x,C⟩,F⟩,λq w=>?_⟩
    rcases wM.1 w with rfl | w
    ·exact B.2
    ·exact I q w
   ·cases hp
  ·cases hp
def VW(R:Ab)(h:AS)(sz:Nat)(x:Operand):Option (List (List RV)):=match A6 R x with
 | .r (.sl j)=>if(j.all λrow=>Nat.beq row.length sz)=true then some j else none
 | .own id g=>match hget h id with
  | some (.arr q _ l j)=>if q=g∧l=sz then some j else none
  | _=>none
 | .cst (.slice none 0 0)=>some []
 | _=>none
theorem eI{c}{sz}{x}{w}(j:VW R h sz x=some w):Mr c R h x sz w:=by
 unfold VW at j
 have l:=Be c R x
 split at j
 ·rename_i A q
  rw[q] at l
  split at j
  ·rename_i u;cases j;exact .inl ⟨l,λ_ row B=>wI (wT.1 u row B)⟩
  ·cases j
 ·rename_i id g q
  rw[q] at l
  split at j
  ·rename_i C
   split at j
   ·rename_i u;obtain⟨rfl,rfl⟩:=u;cases j;exact .inr (.inl ⟨_,_,_,l,C⟩)
   ·cases j
  ·cases j
 ·rename_i q
  rw[q] at l
  cases j;exact .inr (.inr ⟨l,rfl⟩)
 ·cases j
def XY(P:Program)(R:Ab)(h:AS)(n:Nat)(s x:Operand)(t:TypeId):Option (AV × AS × Nat):=match IA P t with
 | some (e,sz,l)=>match VW R h sz x with
  | some j=>match A6 R s with
   | .own id g=>match hget h id with
    | some (.arr w A q u)=>if((w=g∧A=e)∧q=sz)∧(u.length+j.length) * l≤140737488355328∧u.length+j.length≤9223372036854775807 then
      some (.own id n,(id,some (.arr n e sz (u++j)))::h,n+1) else none
    | _=>none
   | .cst (.slice none 0 0)=>if j.length * l≤140737488355328∧j.length≤9223372036854775807 then some (.own n n,(n,some (.arr n e sz j))::h,n+1) else none
   | _=>none
  | none=>none
 | none=>none
theorem pY{s x}{t}{r}(w:o.op=.call { callee:=.builtin .append,args:=#[s,x],argTypes:=#[t,t] })(j:XY P R h n s x t=some r):BV P true o R h n r.1 r.2.1 r.2.2:=by
 unfold XY at j
 have l:=Be true R s
 split at j
 ·rename_i e sz B hg
  split at j
  ·rename_i I A
   split at j
   ·rename_i id g u
    rw[u] at l
    split at j
    ·rename_i C
     split at j
     ·rename_i q;obtain⟨⟨⟨rfl,rfl⟩,rfl⟩,E,F⟩:=q
      cases j
      exact ip w (In hg) l C (eI A) E F
     ·cases j
    ·cases j
   ·rename_i u
    rw[u] at l
    split at j
    ·rename_i q;cases j
     exact ZP n w (In hg) l (eI A) q.1 q.2
    ·cases j
   ·cases j
  ·cases j
 ·cases j
def XM(P:Program)(R:Ab)(h:AS)(n:Nat)(t:TypeId)(x y:Operand):Option (AV × AS × Nat):=match A6 R x with
 | .ptr id g i k=>match VZ P t with
  | some sz=>match hget h id with
   | some (.box j e u)=>if(((j=g∧i=0)∧(Bm (A6 R y)).length=sz)∧(Bm (A6 R y)).all AV.one=true)∧Nat.ble (k+sz) u.length=true then
     some (.any,(id,some (.box g e (GX u k (Bm (A6 R y)))))::h,n) else none
   | some (.arr j e l w)=>match H2 (A6 R y),w[i]? with
    | some q,some row=>if(j=g∧q.length=sz)∧k+q.length≤row.length then some (.any,(id,some (.arr g e l (w.set i (Kf row k q))))::h,n) else none
    | _,_=>none
   | _=>none
  | none=>none
 | _=>none
theorem ni{x y}{t}{r}(C:o.op=.store t x y)(j:XM P R h n t x y=some r):BV P true o R h n r.1 r.2.1 r.2.2:=by
 unfold XM at j
 have q:=Be true R x
 have E:=Be true R y
 split at j
 ·rename_i id g i k I
  rw[I] at q
  split at j
  ·rename_i sz F
   split at j
   ·rename_i u
    split at j
    ·rename_i w;obtain⟨⟨⟨⟨rfl,rfl⟩,A⟩,B⟩,J⟩:=w
     cases j
     exact gn C (ec F) q u E A B J
    ·cases j
   ·rename_i u
    split at j
    ·rename_i M row hd l
     split at j
     ·rename_i w;obtain⟨⟨rfl,A⟩,B⟩:=w
      cases j
      exact gR C (ec F) q u l E hd A B
     ·cases j
    ·cases j
   ·cases j
  ·cases j
 ·cases j
def Rf(P:Program)(R:Ab)(h:AS)(n:Nat)(o:Oper):Option (AV × AS × Nat):=match o.op with
 | .store t x y=>XM P R h n t x y
 | .alloc t=>match TE P t with
  | some z=>if(Bm (HA z)).all AV.one=true then some (.ptr n n 0 0,(n,some (.box n t (Bm (HA z))))::h,n+1) else none
  | none=>none
 | .box t x=>if(Bm (A6 R x)).all AV.one=true then some (.ptr n n 0 0,(n,some (.box n t (Bm (A6 R x))))::h,n+1) else none
 | .buildSlice t len parts=>match IA P t with
  | some (e,sz,_)=>match SD R sz 0 parts.toList with
   | some j=>if j.length=len∧Nat.ble (len * sz) 16777216=true then some (.own n n,(n,some (.arr n e sz j))::h,n+1) else none
   | none=>none
  | none=>none
 | .makeSlice t l k=>match IA P t,A6 R l,A6 R k with
  | some (e,sz,b),.r (.int .i64 m),.r (.int .i64 u)=>match TE P e with
   | some z=>match H2 (HA z) with
    | some q=>if(m=u∧0≤m)∧m * b≤281474976710656∧m≤9223372036854775807 then some (.own n n,(n,some (.arr n e sz (List.replicate m.toNat q)))::h,n+1) else none
    | none=>none
   | none=>none
  | _,_,_=>none
 | .call ⟨.builtin .append,⟨[s,x]⟩,⟨[t,w]⟩⟩=>if t=w then XY P R h n s x t else none
 | _=>none
theorem Xa{r}(j:Rf P R h n o=some r):BV P true o R h n r.1 r.2.1 r.2.2:=by
 unfold Rf at j
 split at j
 ·rename_i t x y q;exact ni q j
 ·rename_i t q
  split at j
  ·rename_i z A
   split at j
   ·rename_i u;cases j;exact Z4 n q (iH A) u
   ·cases j
  ·cases j
 ·rename_i t x q
  split at j
  ·rename_i u;cases j;exact ee n q (Be true R x) u
  ·cases j
 ·rename_i t len parts q
  split at j
  ·rename_i e sz b hg
   split at j
   ·rename_i E w
    split at j
    ·rename_i u;cases j
     obtain⟨M,O⟩:=dE (c:=true) w
     exact dX n q (In hg) M u.1 O u.2
    ·cases j
   ·cases j
  ·cases j
 ·rename_i t l k q
  split at j
  ·rename_i e sz b m m' hg T U
   have F:=Be true R l
   have I:=Be true R k
   rw[T] at F;rw[U] at I
   split at j
   ·rename_i z A
    split at j
    ·rename_i J B
     split at j
     ·rename_i u;obtain⟨⟨rfl,V⟩,X,Y⟩:=u;cases j
      obtain⟨ii,Z,C⟩:=iH A
      exact Yi n q (In hg) ⟨ii,z,Z,C,B⟩ F I V X Y
     ·cases j
    ·cases j
   ·cases j
  ·cases j
 ·rename_i s x t t' q
  split at j
  ·rename_i ht;subst ht;exact pY q j
  ·cases j
 ·cases j
end
section
variable{P:Program}{ops:Array Oper}{rest:List Oper}{s:St}{K:St→Prop}{o:Oper}
def CY(P:Program)(ops:Array Oper)(rest:List Oper)(s:St)(K:St→Prop):Prop:=
 ∀(j:Cx) (a:Act) (w:World),ES j s a w→∀Q:Exit→Act→World→Prop,¬ LetsOut Q→(∀l q w',K l→ES j l q w'→Q .normal q w')→wpListIn (zF none) 0 P ops Q rest a w
theorem CY.nil(h:K s):CY P ops [] s K:=λ_ a w j _ _ l=>l s a w h j
theorem CY.weak{s'}(j:Ak s s')(h:CY P ops rest s' K):CY P ops rest s K:=λl a w q=>h l a w (j _ _ _ q)
theorem CY.cons{K1}(h:AN P ops [o] s K1)(V:∀O,K1 O→CY P ops rest O K):CY P ops (o::rest) s K:=by
 intro T a w X Q j Y
 have u:=h T a w X (λe F w'=>match e with | .normal=>wpListIn (zF none) 0 P ops Q rest F w' | e=>Q e F w') λZ F w' hk I=>V Z hk T F w' I Q j Y
 unfold wpList at u
 unfold wpListIn
 split
 ·rename_i J
  rw[vx J] at u
  rcases u with u | u
  ·have U:=Xm (z:=none) (.inl rfl) u
   refine⟨U.1,?_⟩
   have q:=U.2
   generalize (o.semAt (zF none).round a.eval).run P w=r at q ⊢
   cases r with
   | ok x w'=>
    cases x with
    | enter f args=>
     refine⟨q.1,q.2.mono λe M A=>?_⟩
     cases e with
     | returned v=>exact A
     | panicked ch=>exact A
     | outgrown=>exact absurd (by obtain⟨B,C,E⟩:=A;exact⟨B,C,E⟩) j
    | row a1 args=>exact⟨q.1,q.2⟩
    | round l f t a2 b=>
     refine⟨q.1,q.2.mono λe M A=>?_⟩
     cases e with
     | returned v=>exact A
     | panicked ch=>exact A
     | outgrown=>exact absurd (by obtain⟨B,C,E⟩:=A;exact⟨B,C,E⟩) j
    | value v=>exact q
    | skip=>exact q
    | defer d=>exact q
    | _=>exact q.elim
   | halt x w'=>cases x<;>first | exact q | exact q.elim
  ·exact absurd (by obtain⟨_,B,C,E⟩:=u;exact⟨B,C,E⟩) j
 ·rename_i J
  rw[ne J] at u
  exact⟨λ_ _=>trivial,u⟩
theorem bR{Q}{K}{a:Act}{w}{z}(l:z=none∨H7 o=true)(h:o.wpIn (zF none) 0 P a w K Q):o.wpIn (zF z) 0 P a w K Q:=by
 refine⟨λ_ _=>trivial,?_⟩
 have j:=h.2
 rw[show(zF z).round=z from rfl,YR l]
 rw[show(zF none).round=none from rfl,YR (.inl rfl)] at j
 generalize (execOp a.eval o).run P w=r at j ⊢
 cases r with
 | ok x w'=>cases x<;>exact j
 | halt x w'=>cases x<;>exact j
theorem Xh{Q}{z} : ∀(l:List Oper) (a:Act) (w:World),(z=none∨l.all H7=true)→wpListIn (zF none) 0 P ops Q l a w→wpListIn (zF z) 0 P ops Q l a w
 | [],_,_,_,h=>h
 | o::l,a,w,A,h=>by
  have q:z=none∨H7 o=true:=A.imp id λh=>by simp only[zH,v7] at h;exact h.1
  have j:z=none∨l.all H7=true:=A.imp id λh=>by simp only[zH,v7] at h;exact h.2
  unfold wpListIn at h ⊢
  split
  ·rename_i u
   rw[vx u] at h
   exact bR q (Oper.wpIn_mono (λa w h=>Xh l a w j h) h)
  ·rename_i u
   rw[ne u] at h
   exact⟨λ_ _=>trivial,Xh l _ w j h.2⟩
theorem vI{id}{l:List Oper}{Q}(h:CY P l.toArray l s (Q .normal)):AW P (.region id l.toArray false) Q s:=by
 intro z q u a w A
 exact wpIn_region_lit (Xh l a w (q.imp _root_.id λh=>by simpa[DA] using h) (h u a w A _ KN λB E w' C j=>⟨by simp,B,C,j⟩))
end
theorem tn{x:Cx}(l:x.ok){id g N}{w}{A:List Nat}{j B}{C}{E}{v}(F:x.H id=some (.lp g w N A j B C E))(q:AX x (.yld id g) v) :
  ∃(b:Nat) (r:Loop),x.β id=some (b,1)∧v=.func (.yield b) #[] #[]∧x.w.heap[b]?=some (.loop r)∧r.params=A.toArray∧r.assign=j∧r.body=B∧r.state=C∧r.pending=E∧r.tmps.size=N∧∀t,AX x (get w t) (r.tmps.getD t undef):=by
 obtain⟨_,b,r,I,J,M⟩:=l.obj _ _ F
 cases q with
 | yld _ _ q=>
  obtain⟨T,cap,u,O⟩:=q _ F rfl
  rw[I] at u
  simp only[wP,wV] at u
  obtain⟨rfl,rfl⟩:=u
  exact⟨b,r,I,O,J,M⟩
theorem Vx{x:Cx}(l:x.ok){id g N b}{B}{C}{j E}{T st'}{U pd'}{r}(u:x.H id=some (.lp g B N C j E T U))(q:x.β id=some (b,1))(V:x.w.heap[b]?=some (.loop r)) :
  x.le { x with w:=x.w.putObj b (.loop { r with state:=st',pending:=pd' }),H:=λi=>if id=i then some (.lp g B N C j E st' pd') else x.H i } ∧
  ({ x with w:=x.w.putObj b (.loop { r with state:=st',pending:=pd' }),H:=λi=>if id=i then some (.lp g B N C j E st' pd') else x.H i } : Cx).ok:=by
 obtain⟨hg,b',r',F,O,X,Y,Z,k6,k7,k8,k9⟩:=l.obj _ _ u
 rw[q] at F
 simp only[wP,wV] at F
 obtain⟨rfl,_⟩:=F
 rw[V] at O;cases O
 have w:=(l.own id _ b 1 u q).1
 have A:=GL l id (.lp g B N C j E st' pd') (x.w.putObj b (.loop { r with state:=st',pending:=pd' })) (some (b,1)) x.n (by rw[World.putObj_size];exact wL _) rfl rfl rfl
  (λc I J=>World.putObj_heap_other λe=>J _ 1 u (by rw[e];exact q)) (λc k I=>by
   simp only[wP,wV] at I
   obtain⟨rfl,rfl⟩:=I
   exact⟨by rw[World.putObj_size];exact w,.inr ⟨_,1,u,q⟩⟩) (wL _) hg (λ_=>⟨_,u,rfl,rfl,q.symm⟩)
  (λM=>⟨b,{ r with state:=st',pending:=pd' },rfl,World.putObj_heap_same w,X,Y,Z,rfl,rfl,k8,λt=>(k9 t).mono M⟩)
 have e:(λi=>if id=i then some (b,1) else x.β i)=x.β:=by
  funext i
  split
  ·rename_i h;subst h;exact q.symm
  ·rfl
 rw[e] at A
 exact A
def S7:List Nat→List AV→Ab→Ab
 | p::j,b::l,e=>S7 j l ((p,b)::e)
 | _,_,e=>e
theorem bQ{x} : ∀(l:List Nat) (bs:List AV) (us:List Value) (e:Ab) (t:Array Value),bs.length=l.length→us.length=l.length→(∀(i:Nat) (b:AV) (u:Value),bs[i]?=some b→us[i]?=some u→AX x b u)→(∀p∈l,p<t.size)→(∀j,AX x (get e j) (t.getD j undef)) →
  ((l.zip us).foldl (λt (p:Nat × Value)=>t.setIfInBounds p.1 p.2) t).size=t.size∧∀j,AX x (get (S7 l bs e) j) (((l.zip us).foldl (λt (p:Nat × Value)=>t.setIfInBounds p.1 p.2) t).getD j undef)
 | [],bs,us,e,t,_,_,_,_,w=>by
  cases bs<;>cases us<;>exact⟨rfl,w⟩
 | p::l,[],us,e,t,h,_,_,_,w=>by cases h
 | p::l,b::bs,[],e,t,_,h,_,_,w=>by cases h
 | p::l,b::bs,u::us,e,t,C,E,A,B,w=>by
  have hp:=B p (v8 ..)
  obtain⟨F,I⟩:=bQ (x:=x) l bs us ((p,b)::e) (t.setIfInBounds p u) (by simpa using C) (by simpa using E) (λi b u J M=>A (i+1) b u (by simpa using J) (by simpa using M))
   (λq O=>by rw[Array.size_setIfInBounds];exact B q (wC _ O)) (λj=>by
    rw[D6,Mv hp]
    split
    ·exact A 0 b u rfl rfl
    ·exact w j)
  exact⟨by simpa using F,I⟩
def dL(id g:Nat)(C:Bool→AS→Nat→Prop):Exit→St→Prop
 | .normal,s=>∃l N q j u,hget s.h id=some (.lp g l N q j u .busy none)∧C true ((id,some (.lp g l N q j u .ready none))::s.h) s.n
 | .ret,s=>∃l N q j u,hget s.h id=some (.lp g l N q j u .busy none)∧C false ((id,some (.lp g l N q j u .done (some .ret)))::s.h) s.n
 | .exit i,s=>∃l N q j u,hget s.h id=some (.lp g l N q j u .busy none)∧C false ((id,some (.lp g l N q j u .done (some (.exit i))))::s.h) s.n
 | _,_=>False
def U1(P:Program)(id g:Nat)(w:Code)(C:Bool→AS→Nat→Prop):Exit→St→Prop
 | .normal,s=>∃q N u j l,hget s.h id=some (.lp g q N u j l .ready none)∧AW P w (dL id g C) ⟨s.e,(id,some (.lp g q N u j l .busy none))::s.h,s.n,s.N⟩
 | _,_=>False
section
variable{P:Program}{ops:Array Oper}{rest:List Oper}{s:St}{K:St→Prop}{o:Oper}
theorem lQ{z:Cx}{id g N b f}{A e1}{w:List Nat}{j u}{r:Loop}{h}{n}{C}{tmps:Array Value}(a0:z.ok)(hH:z.H=hget h)(hn:z.n=n)(hh:hget h id=some (.lp g A N w j u .ready none))(hβ:z.β id=some (b, 1))
 (hb:z.w.heap[b]?=some (.loop r)) (hr:r.params=w.toArray∧r.assign=j∧r.body=u∧r.state=.ready∧r.pending=none) (hsz:tmps.size=N) (he:∀t, AX z (get e1 t) (tmps.getD t undef)) (a6:DA j=true∧DA u=true)
 (hw:AW P j (U1 P id g u C) ⟨e1, h, n, N⟩):RoundIn (zF none) (0 - 1) P b f tmps j u z.w λe w' => ∃(x:Bool) (y:Cx) (h':AS) (n':Nat), e=.returned (.bool x)∧y.w=w'∧z.le y∧y.ok∧y.H=hget h'∧y.n=n'∧C x h' n' := by
  have ai:g<z.n := (a0.obj id (.lp g A N w j u .ready none) (by rw[hH];exact hh)).1
  have I:∀ {y:Cx} {A:Ab} {N:Nat} {w:List Nat} {j u:Code} {Z:LoopState} {pd:Option Code}, z.le y→y.H id=some (.lp g A N w j u Z pd)→y.β id=some (b, 1) := by
    intro y A N w j u Z pd aj hy
    obtain⟨o', J, M, h3, h4⟩ := aj.H id _ hy ai
    rw[h4, hβ]
  have O:∀ {y:Cx} {A:Ab} {N:Nat} {w:List Nat} {j u:Code} {Z:LoopState} {pd:Option Code}, y.ok→y.H id=some (.lp g A N w j u Z pd)→y.β id=some (b, 1)→∃r:Loop, y.w.heap[b]?=some (.loop r)∧r.state=Z∧r.pending=pd := by
    intro y A N w j u Z pd hy J M
    obtain⟨_, b', r', k1, k2, k3, k4, k5, k6, k7, _⟩ := hy.obj _ _ J
    rw[M] at k1
    simp only[wP, wV] at k1
    obtain⟨rfl, _⟩ := k1
    exact⟨r', k2, k6, k7⟩
  refine roundIn_of_wpIn (F := zF none) trivial (wpIn_mono (hw (some b) (.inr a6.1) z { tmps := tmps, defers := [] } z.w ⟨_, rfl, hsz, z, rfl, .refl z, a0, hH, hn, he⟩) λe a1 w1 ⟨ho, s1, hq, ak⟩ => ?_)
  obtain⟨al, an, ao, y1, aq, T, U, a7, ar, av⟩ := ak
  subst aq
  cases e with
  | normal =>
    obtain⟨A, N, w, j, aw, ax, ay⟩ := hq
    have E:y1.H id=some (.lp g A N w j aw .ready none) := by rw[a7];exact ax
    have a8 := I T.le E
    obtain⟨r1, aa, ab, ac⟩ := O U E a8
    obtain⟨t1, t2⟩ := Vx (st' := .busy) (pd' := none) U E a8 aa
    have ad := run_beginRound (P := P) aa ab
    have ae:({ r1 with state := .busy } : Loop) = { r1 with state := .busy, pending := none } := by rw[← ac]
    rw[ae] at ad
    refine⟨_, ad, ?_⟩
    refine wpIn_mono (ay (some b) (.inr a6.2) z a1 _ ⟨al, an, ao, _, rfl, T.trans t1, t2, by rw[a7];funext i;simp only[DC], ar, λt => (av t).mono t1⟩) λe a2 w2 ⟨b5, s2, B, az⟩ => ?_
    obtain⟨b6, b7, b8, y2, b0, V, X, af, b1, b9⟩ := az
    subst b0
    have Y:∀(q:Option Code) (A:Ab) (N:Nat) (w:List Nat) (j u:Code), hget s2.h id=some (.lp g A N w j u .busy none)→C q.isNone ((id, some (.lp g A N w j u (if q.isNone then .ready else .done) q))::s2.h) s2.n →
        ∃v w', (Instr.endRound b q).run P y2.w=.ok v w'∧∃(x:Bool) (y:Cx) (h':AS) (n':Nat), (Ending.returned v)=.returned (.bool x)∧y.w=w'∧z.le y∧y.ok∧y.H=hget h'∧y.n=n'∧C x h' n' := by
      intro q A N w j u b2 hc
      have F:y2.H id=some (.lp g A N w j u .busy none) := by rw[af];exact b2
      have ag := I V.le F
      obtain⟨r2, ah, b3, b4⟩ := O X F ag
      obtain⟨u1, u2⟩ := Vx (st' := if q.isNone then .ready else .done) (pd' := q) X F ag ah
      exact⟨_, _, run_endRound q ah, q.isNone, _, _, _, rfl, rfl, V.le.trans u1, u2, by rw[af];funext i;simp only[DC], b1, hc⟩
    cases e with
    | normal => obtain⟨A, N, w, j, u, J, M⟩ := B;exact Y none A N w j u J M
    | ret => obtain⟨A, N, w, j, u, J, M⟩ := B;exact Y (some .ret) A N w j u J M
    | exit i => obtain⟨A, N, w, j, u, J, M⟩ := B;exact Y (some (.exit i)) A N w j u J M
    | goto l => exact B.elim
    | panic ch => exact B.elim
    | outgrown => exact B.elim
  | exit i => exact hq.elim
  | goto l => exact hq.elim
  | ret => exact hq.elim
  | panic ch => exact hq.elim
  | outgrown => exact hq.elim
theorem tY{o:Oper}{u}{xs:Array Operand}{j}{a:Act}{l}{w}(A:o.op=.call { callee:=.value u,args:=xs,argTypes:=j })(q:a.eval u=.func (.yield l) #[] #[]):(execOp a.eval o).run P w=(Instr.yield l (xs.map a.eval)).run P w:=by
 unfold execOp
 rw[A]
 simp only[resolve,q,Deferred.ofValue,Sem.run_bind,Sem.run_pure,Result.andThen_ok,invoke]
 simp
end
open Go.RowKit
section
variable{P:Program}{ops:Array Oper}{rest:List Oper}{s:St}{K:St→Prop}{o:Oper}
theorem vj{id g N}{U}{u:List Nat}{q M}{fo}{xs:Array Operand}{V}(bs:List AV)(hg:o.guard=none)(hd:∀d, o.dst=some d→Nat.blt d s.N=true)
 (ho:o.op=.call { callee := .value fo, args := xs, argTypes := V }) (X:Ev true s.e fo (.yld id g)) (hx:Hk true s.e xs.toList bs) (hh:hget s.h id=some (.lp g U N u q M .ready none))
 (Y:Nat.beq bs.length u.length=true) (Z:(u.all λp => Nat.blt p N)=true) (a0:(DA q&&DA M)=true)
 (hw:AW P q (U1 P id g M λb h' n' => CY P ops rest { e := (match o.dst with | some d => (d, .r (.bool b))::s.e | none => s.e), h := h', n := n', N := s.N } K) ⟨S7 u bs U, s.h, s.n, N⟩):CY P ops (o::rest) s K := by
  intro c0 a w ⟨ds, B, hsz, y, a1, a2, C, hH, hn, O⟩ Q E hQ
  subst a1
  refine wpListIn_plain hg λK' a6 => ?_
  obtain⟨F, a7⟩ := hx.rep rfl O
  obtain⟨b, r, hβ, hv, hb, r1, r2, r3, r4, r5, r6, r7⟩ := tn C (by rw[hH];exact hh) (X.rep O rfl)
  refine⟨λ_ _ => trivial, ?_⟩
  rw[show(zF none).round=none from rfl, Oper.semAt_none, tY ho hv]
  have a8:(xs.map a.eval).size=r.params.size := by
    rw[r1]
    have := wI Y
    simp only[Array.size_map, yc]
    rw[← this]
    simpa using F.symm
  rw[run_yield hb a8]
  have j:((r.params.zip (xs.map a.eval)).foldl (λtmps (x:Nat × Value) => tmps.setIfInBounds x.1 x.2) r.tmps)=(u.zip (xs.toList.map a.eval)).foldl (λt (p:Nat × Value) => t.setIfInBounds p.1 p.2) r.tmps := by
    rw[r1, ← Array.foldl_toList]
    simp
  obtain⟨k1, k2⟩ := bQ (x := y) u bs (xs.toList.map a.eval) U r.tmps (wI Y) (by have := wI Y;rw[← this];simpa using F.symm) a7 (λp hp => by rw[r6];exact C3 (wT.1 Z p hp)) r7
  have I:DA q=true∧DA M=true := by simpa using a0
  refine⟨λe => (by cases e), ?_⟩
  have hR := lQ (f := r.fn) (b := b) (tmps := (u.zip (xs.toList.map a.eval)).foldl (λt (p:Nat × Value) => t.setIfInBounds p.1 p.2) r.tmps) C hH hn hh hβ hb ⟨r1, r2, r3, r4, r5⟩ (by rw[k1];exact r6) k2 I hw
  have T := j
  rw[r2, r3]
  rw[show(r.params.zip (xs.map a.eval)).foldl (λtmps (x:Tmp × Value) => match x with | (t, a) => tmps.setIfInBounds t a) r.tmps=(u.zip (xs.toList.map a.eval)).foldl (λt (p:Nat × Value) => t.setIfInBounds p.1 p.2) r.tmps from j]
  refine hR.mono λe w' ⟨x, z, h', n', he', aa, A, J, ab, ac, hc⟩ => ?_
  subst he'
  subst aa
  refine a6 _ _ ?_
  refine hc c0 (a.put o.dst (.bool x)) z.w ⟨ds, ?_, ?_, z, rfl, a2.trans A, J, ab, ac, ?_⟩ Q E hQ
  · cases l:o.dst<;>simpa[Act.put, l] using B
  · cases l:o.dst<;>simpa[Act.put, l] using hsz
  · cases l:o.dst with
    | none => exact O.mono A
    | some d =>
      have ad:d<a.tmps.size := by rw[hsz];exact C3 (hd d l)
      exact(O.mono A).put ad (.r (.bool x))
end
theorem vH{y:Cx}(j:y.ok) o:y.le { y with w:=y.w.alloc o,S:=λb=>y.S b∨b=y.w.heap.size } ∧ ({ y with w:=y.w.alloc o,S:=λb=>y.S b∨b=y.w.heap.size } : Cx).ok:=by
 have q:y.le { y with w:=y.w.alloc o,S:=λb=>y.S b∨b=y.w.heap.size }:=
  ⟨by simp,rfl,rfl,rfl,λb l=>Below.heap_alloc _ _ _ (l.elim (j.S_lt b) (j.F_lt b)),λb h=>.inl h,rfl,wL _,λid C h _=>⟨C,h,rfl,rfl,rfl⟩⟩
 have hsz:∀o:Obj,(y.w.alloc o).heap.size=y.w.heap.size+1:=λo=>World.size_alloc _ _
 refine⟨q,λb l=>?_,λb l=>?_,λb l B=>?_,λid u h=>?_,λid u b k w A=>?_,j.inj,j.tabs.le q⟩
 ·show b<(y.w.alloc o).heap.size
  rw[hsz]
  rcases l with l | l
  ·have:=j.S_lt b l;omega
  ·omega
 ·show b<(y.w.alloc o).heap.size
  rw[hsz];have:=j.F_lt b l;omega
 ·rcases l with l | l
  ·exact j.SF b l B
  ·have:=j.F_lt b B;omega
 ·obtain⟨w,A⟩:=j.obj id u h
  exact⟨w,A.mono q λb k l=>Below.heap_alloc _ _ _ (j.own id u b k h l).1⟩
 ·have:=j.own id u b k w A
  refine⟨by show b<(y.w.alloc o).heap.size;rw[hsz];omega,λl=>?_,this.2.2⟩
  rcases l with l | l
  ·exact this.2.1 l
  ·omega
section
variable{P:Program}{s:St}
def WE(P:Program)(Q:Exit→St→Prop)(s:St)(id:Nat)(_:AV)(h':AS)(l:Nat):Prop:=
 ∃w N A j B q u,hget h' id=some (.lp s.n w N A j B q u)∧q≠.busy∧match u with
  | none=>Q .normal ⟨s.e,(id,none)::h',l,s.N⟩
  | some c=>AW P c Q ⟨s.e,(id,none)::h',l,s.N⟩
theorem vh {g} {E : Array Tmp} {j F} {Q} {f} {fn : Func} {code} {caps : List AV} {N} id (hg : BR s.e g = .fn f caps) (hf : P.funcs[f]? = some fn) (hb : fn.body = some code) (I : (fn.name == "runtime.NumGoroutine") = false)
 (hN:fn.ntmps=N) (a0:Nat.blt caps.length N=true) (hw:AW P code (HF P fn.results.toList (WE P Q s id)) ⟨Db 0 (.yld id s.n::caps), (id, some (.lp s.n s.e s.N E.toList j F .ready none))::s.h, s.n+1, N⟩) :
    AW P (.rangeFunc g E j F) Q s := by
  intro z hz c0 a w ⟨ds, a1, hsz, y, ao, l, a2, hH, hn, he⟩
  have aq:z=none := hz.resolve_right (by simp[DA])
  subst aq
  subst ao
  have J := he.eval g
  rw[hg] at J
  generalize a6:a.eval g=gv at J
  cases J with
  | @fn _ _ Z ar av =>
  refine wpIn_rangeFunc λa7 _ => ?_
  obtain⟨q1, q2⟩ := vH a2 (.deferred (some []))
  have a8:∀r:Loop, r.params=E→r.assign=j→r.body=F→r.state=.ready→r.pending=none→r.tmps=a.tmps →
      ∃z:Cx, z.w=(y.w.alloc (.deferred (some []))).alloc (.loop r)∧y.le z∧z.ok∧z.H=hget ((id, some (.lp s.n s.e s.N E.toList j F .ready none))::s.h)∧z.n=s.n+1∧z.S y.w.heap.size∧z.β id=some (y.w.heap.size+1, 1) := by
    intro r e1 e2 e3 e4 e5 e6
    have aa := GL q2 id (.lp s.n s.e s.N E.toList j F .ready none) ((y.w.alloc (.deferred (some []))).alloc (.loop r)) (some (y.w.heap.size+1, 1)) (s.n+1) (by simp) rfl rfl rfl
      (λc hc _ => Below.heap_alloc _ _ _ hc) (λc k hc => by
        simp only[wP, wV] at hc
        obtain⟨rfl, rfl⟩ := hc
        exact⟨by simp, .inl (by simp)⟩) (by show y.n≤s.n+1;omega) (zl _) (λaw => by
          have:s.n<y.n := aw
          omega)
      (λab => ⟨y.w.heap.size+1, r, rfl, by
        have := World.alloc_heap_new (y.w.alloc (.deferred (some []))) (.loop r)
        rwa [World.size_alloc] at this, by simp[e1], e2, e3, e4, e5, by rw[e6];exact hsz, λt => by rw[e6];exact((he t).mono q1).mono ab⟩)
    refine⟨_, rfl, q1.trans aa.1, aa.2, ?_, rfl, .inr rfl, by simp⟩
    funext i
    simp only[DC]
    rw[hH]
  obtain⟨r, M⟩:∃r:Loop, r = { state := .ready, pending := none, fn := a7, tmps := a.tmps, params := E, assign := j, body := F, defers := y.w.heap.size } := ⟨_, rfl⟩
  obtain⟨x, ac, ad, ae, af, O, ag, ah⟩ := a8 r (by rw[M]) (by rw[M]) (by rw[M]) (by rw[M]) (by rw[M]) (by rw[M])
  have b7:x.H id=some (.lp s.n s.e s.N E.toList j F .ready none) := by rw[af, DC, vx rfl]
  have ax:x.w.heap[y.w.heap.size]?=some (.deferred (some [])) := by
    rw[ac];exact(Below.heap_alloc _ _ _ (by simp)).trans (World.alloc_heap_new _ _)
  have ay:AX x (.yld id s.n) (.func (.yield (y.w.heap.size+1)) #[] #[]) := .yld (by rw[O];omega) rfl λo ho _ => ⟨_, _, ah, rfl⟩
  have T:IJ x (.yld id s.n::caps) (#[Value.func (.yield (y.w.heap.size+1)) #[] #[]]++Z).toList := by
    refine⟨by simp[ar], λi c u U h2 => ?_⟩
    cases i with
    | zero =>
      simp only[List.getElem?_cons_zero, wP] at U
      have V:some (Value.func (.yield (y.w.heap.size+1)) #[] #[])=some u := by simpa using h2
      cases V;subst U;exact ay
    | succ i =>
      have V:Z[i]?=some u := by simpa[Array.getElem?_append] using h2
      exact(av i c u (by simpa using U) V).mono ad
  have q:∀(args:Array Value) (w:World), (callFunc f args).run P w=.ok (.enter f args) w := λargs w => by
    simp only[callFunc, Sem.run_bind, run_program, Result.andThen_ok, hf, I, hb]
    simp[Sem.run_pure]
  refine⟨y.w.heap.size+1, [{ target := .collected y.w.heap.size, args := #[] }], x.w, { target := .fn (.func f) Z, args := #[.func (.yield (y.w.heap.size+1)) #[] #[]] }, x.w, f,
    #[.func (.yield (y.w.heap.size+1)) #[] #[]]++Z, x.w, ?_, ?_, λ_ _ => trivial, ?_, λe => (by cases e), ?_⟩
  · rw[ac, M];exact run_enterLoop_outer _ _ _ _ _
  · simp only[resolve, a6, Deferred.ofValue]
    simp[Act.eval, go_sem]
  · simp[invoke, q]
  · have az := aN (vs := #[.func (.yield (y.w.heap.size+1)) #[] #[]]++Z) hf hb hN (show(AV.yld id s.n::caps).length≤N from C3 a0) ae af O T hw
    have b0:CallsIn (zF none) (0 - 1) P f (#[.func (.yield (y.w.heap.size+1)) #[] #[]]++Z) x.w _ := callsIn_wide.2 az
    refine b0.mono λe w' ⟨u, v, rv, h', n', he', b1, X, B, ai, b8, _, e0, N1, b2, b3, b4, st, pd, k1, k2, k3⟩ => ?_
    subst he'
    subst b1
    have Y:v.H id=some (.lp s.n e0 N1 b2 b3 b4 st pd) := by rw[ai];exact k1
    have aj:v.β id=some (y.w.heap.size+1, 1) := by
      obtain⟨o', _, _, _, h4⟩ := X.H id _ Y (show s.n<x.n by rw[O];omega)
      rw[h4];exact ah
    obtain⟨_, b', r', m1, m2, _, _, _, m6, m7, _⟩ := B.obj _ _ Y
    rw[aj] at m1
    simp only[wP, wV] at m1
    obtain⟨rfl, _⟩ := m1
    have ak := run_endLoop (P := P) m2 (by rw[m6];exact k2)
    obtain⟨t1, t2⟩ := Vx (st' := .exhausted) (pd' := r'.pending) B Y aj m2
    have b5:({ r' with state := .exhausted, pending := r'.pending } : Loop) = { r' with state := .exhausted } := rfl
    rw[b5] at t1 t2
    obtain⟨f1, f2⟩ := i0 t2 (hget ((id, none)::h')) (λi o ho => by
      rw[DC] at ho
      split at ho
      · cases ho
      · rename_i b6
        show(if id=i then _ else v.H i)=_
        rw[ne b6, ai];exact ho) n' (by show v.n≤n';omega)
    have A := ((ad.trans X).trans t1).trans f1
    have C:ES c0 ⟨s.e, (id, none)::h', n', s.N⟩ { a with defers := [{ target := .collected y.w.heap.size, args := #[] }]++a.defers } (v.w.putObj (y.w.heap.size+1) (.loop { r' with state := .exhausted })) := by
      refine⟨{ target := .collected y.w.heap.size, args := #[] } :: ds, by rw[← a1];rfl, hsz, _, rfl, ⟨l.le.trans A, List.nodup_cons.2 ⟨λal => ?_, l.marks.1⟩, λd hd => ?_⟩, f2, rfl, rfl, he.mono A⟩
      · obtain⟨D, U, _, h3, _⟩ := l.marks.2 _ al
        have := a2.S_lt D h3
        simp only[Deferred.mk.injEq, Target.collected.injEq] at U
        omega
      · have an := (X.trans t1).trans f1
        rcases wM.1 hd with rfl | hd
        · exact⟨_, rfl, l.le.size, an.S _ ag, (an.blk _ (.inl ag)).trans ax⟩
        · obtain⟨D, U, h2, h3, h4⟩ := l.marks.2 d hd
          exact⟨D, U, h2, A.S D h3, (A.blk D (.inl h3)).trans h4⟩
    refine⟨r'.pending, _, ak, ?_⟩
    split
    · rename_i hp
      rw[m7] at hp
      subst hp
      exact⟨by simp, _, k3, C⟩
    · rename_i c hp
      rw[m7] at hp
      subst hp
      exact k3 none (.inl rfl) c0 _ _ C
end
section
variable{P:Program}{ops:Array Oper}{Q:Exit→Act→World→Prop}{md:Region.Mode}
theorem nM(q:¬ LetsOut Q){i}{K}{a}{w}(h:wpOp P ops Q i K a w):wpOpIn (zF none) 0 P ops Q i K a w:=by
 unfold wpOp at h
 unfold wpOpIn
 split
 ·rename_i j;rw[j] at h;exact h
 ·rename_i o j
  rw[j] at h
  simp only at h
  split
  ·rename_i l
   rw[vx l] at h
   rcases h with h | h
   ·exact Xm (z:=none) (.inl rfl) h
   ·exact absurd h.2 q
  ·rename_i l
   rw[ne l] at h
   exact⟨λ_ _=>trivial,h⟩
theorem cA(j:¬ LetsOut Q){w}{n g}{L}(l:∀listed a,L listed a→wpAnyIn (zF none) 0 P md ops Q g listed a w) :
  ∀(f:Nat) (listed:Array Bool) (a:Act),wpAnyL P md ops w n L f listed a→wpAnyIn (zF none) 0 P md ops Q (f+g) listed a w
 | 0,listed,a,h=>by rw[wY];exact l _ _ h
 | f+1,listed,a,h=>by
  rw[show f+1+g=(f+g)+1 by omega]
  exact⟨λq=>absurd q h.1,λi u=>nM j (wpOp_of_stOp (λA B=>cA j l f _ A B) (h.2 i u).2)⟩
theorem bK:∀(l:List Oper) (k:Nat) (listed:Array Bool) (a:Act) (w:World),(∀j,l[j]?=ops[k+j]?) →
  Region.seqB md ops l.length k listed=true→wpListIn (zF none) 0 P ops Q l a w→wpAnyIn (zF none) 0 P md ops Q l.length listed a w
 | [],_,_,_,_,_,hB,h=>⟨by simpa[Region.seqB] using hB,h⟩
 | o::l,k,listed,a,w,u,hB,h=>by
  have C:ops[k]?=some o:=by simpa using(u 0).symm
  simp only[wK,Region.seqB,v7,vy] at hB
  refine⟨λA=>(by rw[hB.1] at A;cases A),λi B=>?_⟩
  rw[hB.1] at B
  have q:i=k:=by simpa using B
  subst q
  have E:wpOpIn (zF none) 0 P ops Q i (wpListIn (zF none) 0 P ops Q l) a w:=by unfold wpOpIn;simp only[C];exact h
  exact wpOpIn_mono (λF w' I=>bK l (i+1) _ F w' (λj=>by have:=u (j+1);simpa[yF,y8 1 j] using this) hB.2 I) E
theorem Tx{z}(j:z=none∨ops.toList.all H7=true):∀(l:List Nat) (a:Act) (w:World),wpOpsIn (zF none) 0 P ops Q l a w→wpOpsIn (zF z) 0 P ops Q l a w
 | [],_,_,h=>h
 | i::rest,a,w,h=>by
  simp only[wpOpsIn] at h ⊢
  split
  ·rename_i q;rw[q] at h;exact Tx j rest a w h
  ·rename_i o q
   rw[q] at h
   simp only at h
   split
   ·rename_i u
    rw[vx u] at h
    exact bR (j.imp _root_.id λA=>wT.1 A o (wj (by rw[xv];exact q))) (Oper.wpIn_mono (λa w h=>Tx j rest a w h) h)
   ·rename_i u
    rw[ne u] at h
    exact⟨λ_ _=>trivial,Tx j rest _ w h.2⟩
theorem vd{s}{id}{l l1 l2:List Oper}{Q} n(hm:P.follows .mixedOrders=true)(hB:Region.lexTailB .any l.toArray n=true)(h1:l.take n=l1)(h2:l.drop n=l2)
 (h:AT P l.toArray l1 s (λs' => CY P l.toArray l2 s' (Q .normal))):AW P (.region id l.toArray true) Q s := by
  intro z0 O M a w ⟨_, A, hsz, y, T, U, V, hH, hn, he⟩
  subst T
  subst h1;subst h2
  obtain⟨r1, r2⟩ := Ro V
  simp only[Region.lexTailB, v7, vy] at hB
  obtain⟨⟨⟨⟨B, C⟩, hs⟩, hc⟩, E⟩ := hB
  have a0:n<l.length := by simpa using C
  have q:(l.take n).length=n := by simp;omega
  have F:(l.drop n).length=l.toArray.size - n := by simp
  have I:HeadInv .any l.toArray n (Array.replicate l.toArray.size false) :=
    ⟨by simp, λj oj _ hl => (by rw[getD_replicate_false] at hl;cases hl), λt _ ht => getD_in (by simpa using ht) (getD_replicate_false _ _)⟩
  have H := wpAnyL_lex (md := .any) (g := l.toArray.size - n) B hs hc C (l.take n) 0 _ a (λj hj => by
    have X:j<n := by rw[q] at hj;exact hj
    simp[X]) (by simpa using q) I (by rw[q];exact E)
    (h _ a r2 hH hn hsz (he.mono r1) (λJ => wpListIn (zF none) 0 P l.toArray (ED M Q) (l.drop n) J { y.w with drawn := y.w.drawn+1 }) λs' J k1 k2 k3 k4 k5 k6 k7 =>
      k1 M J _ ⟨_, k6.trans A, by rw[k5, k4], _, rfl, U.trans r1, r2, by rw[k2];exact hH, by rw[k3];exact hn, k7⟩ _ KN λY a1 a2 k Z => ⟨by simp, Y, k, Z⟩)
  refine wpIn_region_draw λt => ?_
  simp only[Region.schedule, hm, yf, xm]
  refine Tx (O.imp _root_.id λh => h) _ a _ (wpAnyIn_sound l.toArray.size t _ a _ ?_)
  have := cA (Q := ED M Q) (g := l.toArray.size - n) KN (λu J hL => by
    have := bK (md := .any) (Q := ED M Q) (l.drop n) n u J { y.w with drawn := y.w.drawn+1 } (λj => by simp[xW]) (by rw[F];exact hL.1) hL.2
    rwa [F] at this) _ _ _ H
  rw[q, show n+(l.toArray.size - n)=l.toArray.size by omega] at this
  exact this
end
end Go.Proofs.YtdafahjmopdleaaGreatDoor.Al

namespace Go.Proofs.YtdafahjmopdleaaGreatDoor.Al
inductive Fr where
 | seq (y:Code)
 | block (id:Nat)
 | loop (n:Nat) (x:Code)
 | call (ops:Array Oper) (rest:List Oper) (d:Option Nat) (e:Ab) (N:Nat) (rs:List ResultVar)
 | rng (id:Nat) (s:St) (rs:List ResultVar)
 | rndA (id g:Nat) (bd:Code) (ops:Array Oper) (rest:List Oper) (d:Option Nat) (e:Ab) (N:Nat)
 | rndB (id g:Nat) (ops:Array Oper) (rest:List Oper) (d:Option Nat) (e:Ab) (N:Nat)
def Fa(d:Option Nat)(r:AV)(e:Ab):Ab:=match d with
 | some t=>(t,r)::e
 | none=>e
def DN(P:Program)(Q:Exit→St→Prop):List Fr→Exit→St→Prop
 | []=>Q
 | .seq y::ks=>FQ (AW P y (DN P Q ks)) (DN P Q ks)
 | .block id::ks=>Qz id (DN P Q ks)
 | .loop n x::ks=>FQ (IO P x (DN P Q ks) n) (DN P Q ks)
 | .call ops rest d e N q::ks=>HF P q λr j l=>CY P ops rest { e:=Fa d r e,h:=j,n:=l,N:=N } (DN P Q ks .normal)
 | .rng id s q::ks=>HF P q (WE P (DN P Q ks) s id)
 | .rndA id g u ops rest d e N::ks=>U1 P id g u λb j l=>CY P ops rest { e:=Fa d (.r (.bool b)) e,h:=j,n:=l,N:=N } (DN P Q ks .normal)
 | .rndB id g ops rest d e N::ks=>dL id g λb j l=>CY P ops rest { e:=Fa d (.r (.bool b)) e,h:=j,n:=l,N:=N } (DN P Q ks .normal)
inductive Df where
 | code (c:Code) (ks:List Fr) (s:St)
 | ops (ops:Array Oper) (rest:List Oper) (ks:List Fr) (s:St)
 | out (x:Exit) (ks:List Fr) (s:St)
def Dc(P:Program)(Q:Exit→St→Prop):Df→Prop
 | .code c ks s=>AW P c (DN P Q ks) s
 | .ops ops rest ks s=>CY P ops rest s (DN P Q ks .normal)
 | .out x ks s=>DN P Q ks x s
def JB(R:Ab)(ops:Array Oper)(o:Oper):Option Bool:=match o.guard with
 | none=>none
 | some (j,l)=>match (ops[j]?).bind (·.dst) with
  | some q=>match BR R (.tmp q) with
   | .r (.bool b)=>some (b==l)
   | .whn u (.r (.bool b))=>some (u&&(b==l))
   | _=>none
  | none=>none
theorem Gl{R}{ops}{o}{c}(h:JB R ops o=some c):Cd R ops o c:=by
 unfold JB at h
 split at h
 ·cases h
 ·rename_i j q hg
  split at h
  ·rename_i w u
   split at h
   ·rename_i b l;cases h;exact .one hg u l
   ·rename_i A b l;cases h;exact .two hg u l
   ·cases h
  ·cases h
def Tq(P:Program)(s:St):ResultVar→Option AV
 | .tmp t=>some (get s.e t)
 | .cell a t=>match get s.e a with
  | .ptr id g 0 0=>match hget s.h id with
   | some (.box l _ j)=>if l=g then match KP P t with
     | true=>match j with
      | [r]=>some r
      | _=>none
     | false=>match Ky P t with
      | some sz=>if sz=j.length then some (.agg j) else none
      | none=>none
    else none
   | _=>none
  | _=>none
theorem fh{P}{s}{x}{r}(h:Tq P s x=some r):I7 P x s r:=by
 unfold Tq at h
 split at h
 ·cases h;rfl
 ·split at h
  ·rename_i id g hp
   split at h
   ·rename_i w e A j
    split at h
    ·rename_i hg;subst hg
     split at h
     ·rename_i l
      split at h
      ·cases h;exact .inl ⟨Oy l,id,_,_,hp,j⟩
      ·cases h
     ·split at h
      ·rename_i sz q
       split at h
       ·rename_i u;cases h;exact .inr ⟨_,rfl,by rw[← u];exact Qf q,id,_,_,hp,j⟩
       ·cases h
      ·cases h
    ·cases h
   ·cases h
  ·cases h
def SE(P:Program)(s:St):List ResultVar→Option (List AV)
 | []=>some []
 | x::l=>match Tq P s x,SE P s l with
  | some r,some j=>some (r::j)
  | _,_=>none
theorem fE{P}{s} : ∀ {l:List ResultVar} {j:List AV},SE P s l=some j→Mj P l s j
 | [],j,h=>by cases h;trivial
 | x::l,j,h=>by
  unfold SE at h
  split at h
  ·rename_i r q u w;cases h;exact⟨fh u,fE w⟩
  ·cases h
def Kg(P:Program)(s:St):List ResultVar→Option AV
 | [x]=>Tq P s x
 | l=>(SE P s l).map .tup
theorem Pw{P}{s}{l}{r}(h:Kg P s l=some r):JO P l s r:=by
 unfold Kg at h
 split at h
 ·exact fh h
 ·rename_i A j
  rw[wW] at h
  obtain⟨q,u,rfl⟩:=h
  have w:=fE u
  unfold JO
  split
  ·rename_i x;exact absurd rfl (j x)
  ·exact⟨q,rfl,w⟩
def SC(o:Oper):Bool:=match o.op with
 | .store _ _ _ | .alloc _ | .box _ _ | .buildSlice _ _ _ | .makeSlice _ _ _=>false
 | .call ⟨.builtin .len,_,_⟩ | .call ⟨.builtin .min,_,_⟩ | .call ⟨.builtin .max,_,_⟩=>true
 | .call _=>false
 | _=>true
def Iw(P:Program)(ops:Array Oper):List Oper→St→Option St
 | [],s=>some s
 | o::rest,s=>match o.dst with
  | some d=>match Nat.blt d s.N with
   | true=>match o.guard with
    | none=>match Lj P s.e s.h o with
     | some v=>Iw P ops rest { e:=(d,v)::s.e,h:=s.h,n:=s.n,N:=s.N }
     | none=>none
    | some _=>match JB s.e ops o with
     | some true=>match Lj P s.e s.h o with
      | some v=>Iw P ops rest { e:=(d,.whn true v)::s.e,h:=s.h,n:=s.n,N:=s.N }
      | none=>none
     | some false=>Iw P ops rest { e:=(d,.whn false (.r (.bool false)))::s.e,h:=s.h,n:=s.n,N:=s.N }
     | none=>none
   | false=>none
  | none=>none
theorem Ue{P}{ops}{K} : ∀ {l:List Oper} {s s':St},Iw P ops l s=some s'→K s'→AT P ops l s K
 | [],s,s',h,q=>by cases h;exact AT.nil q
 | o::rest,s,s',h,q=>by
  unfold Iw at h
  split at h
  ·rename_i d hd
   split at h
   ·rename_i u
    split at h
    ·rename_i hg
     split at h
     ·rename_i v w;exact AT.step hg hd u (Lm w) (Ue h q)
     ·cases h
    ·split at h
     ·rename_i j
      split at h
      ·rename_i v w;exact AT.stepW (Gl j) hd u (Lm w) (Ue h q)
      ·cases h
     ·rename_i j;exact AT.stepW (Gl j) hd u (AU.no rfl) (Ue h q)
     ·cases h
   ·cases h
  ·cases h
theorem Sg{P}{ops}{K} : ∀ {l:List Oper} {s s':St},Iw P ops l s=some s'→K s'→AQ P ops l s K
 | [],s,s',h,q=>by cases h;exact AQ.nil q
 | o::rest,s,s',h,q=>by
  unfold Iw at h
  split at h
  ·rename_i d hd
   split at h
   ·rename_i u
    split at h
    ·rename_i hg
     split at h
     ·rename_i v w;exact AQ.step hg hd u (Lm w) (Sg h q)
     ·cases h
    ·split at h
     ·rename_i j
      split at h
      ·rename_i v w;exact AQ.stepW (Gl j) hd u (Lm w) (Sg h q)
      ·cases h
     ·rename_i j;exact AQ.stepW (Gl j) hd u (AU.no rfl) (Sg h q)
     ·cases h
   ·cases h
  ·cases h
def Wn(P:Program)(ops:Array Oper)(ks:List Fr)(s:St):Option Df:=
 match ops.toList.all SC with
 | true=>match Region.lexB .any ops with
  | true=>(Iw P ops ops.toList s).map (.out .normal ks ·)
  | false=>none
 | false=>
  let n:=(ops.toList.takeWhile SC).length
  match Region.lexTailB .any ops n with
  | true=>(Iw P ops (ops.toList.take n) s).map (.ops ops (ops.toList.drop n) ks ·)
  | false=>none
def Uk(P:Program)(ops:Array Oper)(o:Oper)(rest:List Oper)(ks:List Fr)(s:St)(l:Bool):Option Df:=
 match o.dst with
 | some d=>match Nat.blt d s.N with
  | true=>match Lj P s.e s.h o with
   | some v=>some (.ops ops rest ks { e:=(d,v)::s.e,h:=s.h,n:=s.n,N:=s.N })
   | none=>match Rf P s.e s.h s.n o with
    | some (v,u,w)=>some (.ops ops rest ks { e:=(d,v)::s.e,h:=u,n:=w,N:=s.N })
    | none=>match o.op with
     | .call ⟨.value A,q,_⟩=>match A6 s.e A with
      | .fn f j=>match P.funcs[f]? with
       | some fn=>match fn.body with
        | some code => if (fn.name == "runtime.NumGoroutine") = false ∧ Nat.ble (q.toList.map (A6 s.e) ++ j).length fn.ntmps = true then
          some (.code code (.call ops rest (some d) s.e s.N fn.results.toList::ks) ⟨Db 0 (q.toList.map (A6 s.e)++j),s.h,s.n,fn.ntmps⟩) else none
        | none=>none
       | none=>none
      | _=>none
     | _=>none
  | false=>none
 | none=>match l with
  | true=>none
  | false=>match Rf P s.e s.h s.n o with
   | some (_,u,w)=>some (.ops ops rest ks { e:=s.e,h:=u,n:=w,N:=s.N })
   | none=>match o.op with
    | .call ⟨.value A,q,_⟩=>match A6 s.e A with
     | .fn f j=>match P.funcs[f]? with
      | some fn=>match fn.body with
       | some code => if (fn.name == "runtime.NumGoroutine") = false ∧ Nat.ble (q.toList.map (A6 s.e) ++ j).length fn.ntmps = true then
         some (.code code (.call ops rest none s.e s.N fn.results.toList::ks) ⟨Db 0 (q.toList.map (A6 s.e)++j),s.h,s.n,fn.ntmps⟩) else none
       | none=>none
      | none=>none
     | _=>none
    | _=>none
def uo(N:Nat):Option Nat→Bool
 | some d=>Nat.blt d N
 | none=>true
def Wo(ops:Array Oper)(o:Oper)(rest:List Oper)(ks:List Fr)(s:St):Option Df:=match o.op with
 | .call ⟨.value w,q,_⟩=>match A6 s.e w with
  | .yld id g=>match hget s.h id with
   | some (.lp A B N l j u .ready none)=>if(A=g∧uo s.N o.dst=true)∧(Nat.beq (q.toList.map (A6 s.e)).length l.length=true∧(l.all λp=>Nat.blt p N)=true)∧(DA j&&DA u)=true then
     some (.code j (.rndA id g u ops rest o.dst s.e s.N::ks) ⟨S7 l (q.toList.map (A6 s.e)) B,s.h,s.n,N⟩) else none
   | _=>none
  | _=>none
 | _=>none
def WU(P:Program)(g:Operand)(q:Array Tmp)(l u:Code)(ks:List Fr)(s:St):Option Df:=match BR s.e g with
 | .fn f j=>match P.funcs[f]? with
  | some fn=>match fn.body with
   | some code => if (fn.name == "runtime.NumGoroutine") = false ∧ Nat.blt j.length fn.ntmps = true then
     some (.code code (.rng s.n s fn.results.toList::ks) ⟨Db 0 (.yld s.n s.n::j),(s.n,some (.lp s.n s.e s.N q.toList l u .ready none))::s.h,s.n+1,fn.ntmps⟩) else none
   | none=>none
  | none=>none
 | _=>none
def Rw(P:Program)(id:Nat)(j:St)(l:List ResultVar)(ks:List Fr)(s:St):Option Df:=match Kg P s l with
 | some _=>match hget s.h id with
  | some (.lp g _ _ _ _ _ .busy _)=>none
  | some (.lp g _ _ _ _ _ _ q)=>if g=j.n then match q with
    | none=>some (.out .normal ks ⟨j.e,(id,none)::s.h,s.n,j.N⟩)
    | some c=>some (.code c ks ⟨j.e,(id,none)::s.h,s.n,j.N⟩)
   else none
  | _=>none
 | none=>none
def Xq(id g:Nat)(q:Code)(ops:Array Oper)(rest:List Oper)(d:Option Nat)(e:Ab)(N:Nat)(ks:List Fr)(s:St):Option Df:=match hget s.h id with
 | some (.lp u w A B j l .ready none)=>if u=g then some (.code q (.rndB id g ops rest d e N::ks) ⟨s.e,(id,some (.lp g w A B j l .busy none))::s.h,s.n,s.N⟩) else none
 | _=>none
def Xt(id g:Nat)(ops:Array Oper)(rest:List Oper)(d:Option Nat)(e:Ab)(N:Nat)(ks:List Fr)(s:St)(x:Exit):Option Df:=match hget s.h id with
 | some (.lp A l q u j w .busy none)=>if A=g then match x with
   | .normal=>some (.ops ops rest ks { e:=Fa d (.r (.bool true)) e,h:=(id,some (.lp g l q u j w .ready none))::s.h,n:=s.n,N:=N })
   | .ret=>some (.ops ops rest ks { e:=Fa d (.r (.bool false)) e,h:=(id,some (.lp g l q u j w .done (some .ret)))::s.h,n:=s.n,N:=N })
   | .exit i=>some (.ops ops rest ks { e:=Fa d (.r (.bool false)) e,h:=(id,some (.lp g l q u j w .done (some (.exit i))))::s.h,n:=s.n,N:=N })
   | _=>none
  else none
 | _=>none
def step(P:Program):Df→Option Df
 | .code c ks s=>match c with
  | .skip=>some (.out .normal ks s)
  | .ret=>some (.out .ret ks s)
  | .exit id=>some (.out (.exit id) ks s)
  | .seq x y=>some (.code x (.seq y::ks) s)
  | .block id x=>some (.code x (.block id::ks) s)
  | .loop x=>some (.code x (.loop 1000000 x::ks) s)
  | .cond b x y=>match BR s.e b with
   | .r (.bool true)=>some (.code x ks s)
   | .r (.bool false)=>some (.code y ks s)
   | _=>none
  | .region _ ops false=>some (.ops ops ops.toList ks s)
  | .region _ ops true=>Wn P ops ks s
  | .rangeFunc g w l q=>WU P g w l q ks s
  | _=>none
 | .ops _ [] ks s=>some (.out .normal ks s)
 | .ops ops (o::rest) ks s=>match o.guard with
  | none=>match Uk P ops o rest ks s false with
   | some c=>some c
   | none=>Wo ops o rest ks s
  | some _=>match JB s.e ops o with
   | some true=>Uk P ops o rest ks s true
   | some false=>match o.dst with
    | some d=>match Nat.blt d s.N with
     | true=>some (.ops ops rest ks { e:=(d,.whn false (.r (.bool false)))::s.e,h:=s.h,n:=s.n,N:=s.N })
     | false=>none
    | none=>some (.ops ops rest ks s)
   | none=>none
 | .out x (.seq y::ks) s=>match x with
  | .normal=>some (.code y ks s)
  | .ret=>some (.out .ret ks s)
  | .exit id=>some (.out (.exit id) ks s)
  | _=>none
 | .out x (.block id::ks) s=>match x with
  | .normal=>some (.out .normal ks s)
  | .ret=>some (.out .ret ks s)
  | .exit i=>if i=id then some (.out .normal ks s) else some (.out (.exit i) ks s)
  | _=>none
 | .out x (.loop n y::ks) s=>match x with
  | .normal=>match n with
   | n+1=>some (.code y (.loop n y::ks) s)
   | 0=>none
  | .ret=>some (.out .ret ks s)
  | .exit id=>some (.out (.exit id) ks s)
  | _=>none
 | .out x (.call ops rest d e N j::ks) s=>match x with
  | .normal=>(Kg P s j).map λr=>.ops ops rest ks { e:=Fa d r e,h:=s.h,n:=s.n,N:=N }
  | .ret=>(Kg P s j).map λr=>.ops ops rest ks { e:=Fa d r e,h:=s.h,n:=s.n,N:=N }
  | _=>none
 | .out x (.rng id u j::ks) s=>match x with
  | .normal=>Rw P id u j ks s
  | .ret=>Rw P id u j ks s
  | _=>none
 | .out x (.rndA id g q ops rest d e N::ks) s=>match x with
  | .normal=>Xq id g q ops rest d e N ks s
  | _=>none
 | .out x (.rndB id g ops rest d e N::ks) s=>Xt id g ops rest d e N ks s x
 | .out _ [] _=>none
end Go.Proofs.YtdafahjmopdleaaGreatDoor.Al

set_option linter.unusedVariables false
namespace Go.Proofs.YtdafahjmopdleaaGreatDoor.Al
section
variable{P:Program}{Q:Exit→St→Prop}{ks:List Fr}{s:St}
theorem Yd{ops}{rest}{K}{o:Oper}{d}{j}{v}{h'}{l}(hg:(j=false∧o.guard=none)∨Cd s.e ops o true)(hd:o.dst=some d)(q:Nat.blt d s.N=true)
 (u:BV P true o s.e s.h s.n v h' l) (w:AN P ops rest { e := (d, v)::s.e, h := h', n := l, N := s.N } K):AN P ops (o::rest) s K := by
  rcases hg with ⟨_, hg⟩ | hg
  · exact AN.step hg hd q u w
  · exact IQ hg rfl hd q u w
theorem f8{ops}{o:Oper}{rest}{u}{c'}(hg:(u=false∧o.guard=none)∨(u=true∧Cd s.e ops o true))(h:Uk P ops o rest ks s u=some c')(hc:Dc P Q c') :
  CY P ops (o::rest) s (DN P Q ks .normal):=by
 have one:∀ {E:St},AN P ops [o] s (λs2=>s2=E)→CY P ops rest E (DN P Q ks .normal)→CY P ops (o::rest) s (DN P Q ks .normal):=λC A=>CY.cons C λs2 e=>e ▸ A
 have I:(u=false∧o.guard=none)∨Cd s.e ops o true:=hg.imp id λh=>h.2
 unfold Uk at h
 split at h
 ·rename_i d hd
  split at h
  ·rename_i U
   split at h
   ·rename_i v J;cases h
    exact one (Yd I hd U ((Lm (c:=true) J).spec _) (AN.nil rfl)) hc
   ·split at h
    ·rename_i v h' n' J;cases h
     exact one (Yd I hd U (Xa J) (AN.nil rfl)) hc
    ·split at h
     ·rename_i M V a0 X
      split at h
      ·rename_i f j F
       split at h
       ·rename_i fn Y
        split at h
        ·rename_i code Z
         split at h
         ·rename_i C;cases h
          have w:Ev true s.e M (.fn f j):=by rw[← F];exact Be true s.e M
          rcases hg with ⟨_,hg⟩ | ⟨_,hg⟩
          ·exact CY.cons (vS (K:=λE=>CY P ops rest E (DN P Q ks .normal)) j _ hg hd U X w (Li true s.e V.toList) Y Z C.1 rfl C.2 (AW.mono hc λe s' q=>by
            cases e with
            | normal=>obtain⟨r,A,B⟩:=q;exact⟨r,A,AN.nil B⟩
            | ret=>obtain⟨r,A,B⟩:=q;exact⟨r,A,AN.nil B⟩
            | exit id=>exact q.elim
            | goto l=>exact q.elim
            | panic c=>exact q.elim
            | outgrown=>exact q.elim)) λ_ h=>h
          ·exact CY.cons (vf (K:=λE=>CY P ops rest E (DN P Q ks .normal)) j _ hg rfl hd U X w (Li true s.e V.toList) Y Z C.1 rfl C.2 (λK' O=>AW.mono hc λe s' q=>by
            cases e with
            | normal=>obtain⟨r,A,B⟩:=q;exact⟨r,A,O _ _ _ (AN.nil B)⟩
            | ret=>obtain⟨r,A,B⟩:=q;exact⟨r,A,O _ _ _ (AN.nil B)⟩
            | exit id=>exact q.elim
            | goto l=>exact q.elim
            | panic c=>exact q.elim
            | outgrown=>exact q.elim)) λ_ h=>h
         ·cases h
        ·cases h
       ·cases h
      ·cases h
     ·cases h
  ·cases h
 ·rename_i hd
  split at h
  ·cases h
  ·have T:o.guard=none:=by
    rcases hg with ⟨_,hg⟩ | ⟨e,_⟩
    ·exact hg
    ·cases e
   split at h
   ·rename_i v h' n' J;cases h
    exact one (iu T hd (Xa J) (AN.nil rfl)) hc
   ·split at h
    ·rename_i M V a0 X
     split at h
     ·rename_i f j F
      split at h
      ·rename_i fn Y
       split at h
       ·rename_i code Z
        split at h
        ·rename_i C;cases h
         have w:Ev true s.e M (.fn f j):=by rw[← F];exact Be true s.e M
         exact CY.cons (vT (K:=λE=>CY P ops rest E (DN P Q ks .normal)) j _ T hd X w (Li true s.e V.toList) Y Z C.1 rfl C.2 (AW.mono hc λe s' q=>by
            cases e with
            | normal=>obtain⟨r,A,B⟩:=q;exact⟨r,A,AN.nil B⟩
            | ret=>obtain⟨r,A,B⟩:=q;exact⟨r,A,AN.nil B⟩
            | exit id=>exact q.elim
            | goto l=>exact q.elim
            | panic c=>exact q.elim
            | outgrown=>exact q.elim)) λ_ h=>h
        ·cases h
       ·cases h
      ·cases h
     ·cases h
    ·cases h
theorem tG{ops}{o:Oper}{rest}{q}(hg:o.guard=none)(h:Wo ops o rest ks s=some q)(hc:Dc P Q q):CY P ops (o::rest) s (DN P Q ks .normal):=by
 unfold Wo at h
 split at h
 ·rename_i u A B C
  split at h
  ·rename_i id g l
   split at h
   ·rename_i E U N V F X I
    split at h
    ·rename_i J
     obtain⟨⟨rfl,w⟩,⟨M,O⟩,T⟩:=J
     cases h
     have j:Ev true s.e u (.yld id E):=by rw[← l];exact Be true s.e u
     exact vj _ hg (λd hd=>by rw[hd] at w;exact w) C j (Li true s.e A.toList) I M O T hc
    ·cases h
   ·cases h
  ·cases h
 ·cases h
theorem sE{g}{l}{j q}{u}(h:WU P g l j q ks s=some u)(hc:Dc P Q u):AW P (.rangeFunc g l j q) (DN P Q ks) s:=by
 unfold WU at h
 split at h
 ·rename_i f w hg
  split at h
  ·rename_i fn B
   split at h
   ·rename_i code C
    split at h
    ·rename_i A;cases h
     exact vh _ hg B C A.1 rfl A.2 hc
    ·cases h
   ·cases h
  ·cases h
 ·cases h
theorem dW{id}{q}{u}{w}(h:Rw P id q u ks s=some w)(hc:Dc P Q w):∃r,JO P u s r∧WE P (DN P Q ks) q id r s.h s.n:=by
 unfold Rw at h
 split at h
 ·rename_i r A
  refine⟨r,Pw A,?_⟩
  split at h
  ·cases h
  ·rename_i g B N C j E F I l J
   split at h
   ·rename_i hg;subst hg
    refine⟨B,N,C,j,E,F,I,J,λe=>?_,?_⟩
    ·exact l e
    ·split at h
     ·cases h;exact hc
     ·cases h;exact hc
   ·cases h
  ·cases h
 ·cases h
theorem sT{id g}{q}{ops}{rest}{d}{e}{N}{u}(h:Xq id g q ops rest d e N ks s=some u)(hc:Dc P Q u):DN P Q (.rndA id g q ops rest d e N::ks) .normal s:=by
 unfold Xq at h
 split at h
 ·rename_i E w A B j l C
  split at h
  ·rename_i hg;subst hg;cases h
   exact⟨w,A,B,j,l,C,hc⟩
  ·cases h
 ·cases h
theorem tf{id g}{ops}{rest}{d}{e}{N}{x}{B}(h:Xt id g ops rest d e N ks s x=some B)(hc:Dc P Q B):DN P Q (.rndB id g ops rest d e N::ks) x s:=by
 unfold Xt at h
 split at h
 ·rename_i C l q u j w A
  split at h
  ·rename_i hg;subst hg
   split at h
   ·cases h;exact⟨l,q,u,j,w,A,hc⟩
   ·cases h;exact⟨l,q,u,j,w,A,hc⟩
   ·cases h;exact⟨l,q,u,j,w,A,hc⟩
   ·cases h
  ·cases h
 ·cases h
theorem mD(l:P.follows .mixedOrders=true){id}{ops:Array Oper}{q}(h:Wn P ops ks s=some q)(hc:Dc P Q q):AW P (.region id ops true) (DN P Q ks) s:=by
 unfold Wn at h
 split at h
 ·split at h
  ·rename_i hB
   rw[wW] at h
   obtain⟨u,j,rfl⟩:=h
   exact iz (l:=ops.toList) l hB (Sg j hc)
  ·cases h
 ·dsimp only at h
  split at h
  ·rename_i hB
   rw[wW] at h
   obtain⟨u,j,rfl⟩:=h
   exact vd (l:=ops.toList) _ l hB rfl rfl (Ue j hc)
  ·cases h
theorem lN(B:P.follows .mixedOrders=true){c A}(h:step P c=some A)(hc:Dc P Q A):Dc P Q c:=by
 unfold step at h
 split at h
 ·split at h
  ·cases h;exact AW.skip hc
  ·cases h;exact AW.ret hc
  ·cases h;exact AW.exit hc
  ·cases h;exact AW.seq hc
  ·cases h;exact AW.block hc
  ·cases h;exact vR (1000000+1) (IO.step hc)
  ·split at h
   ·rename_i q;cases h;exact AW.cond q (λ_=>hc) (λe=>by cases e)
   ·rename_i q;cases h;exact AW.cond q (λe=>by cases e) (λ_=>hc)
   ·cases h
  ·rename_i id ops;cases h;exact vI (l:=ops.toList) hc
  ·exact mD B h hc
  ·exact sE h hc
  ·cases h
 ·cases h;exact CY.nil hc
 ·rename_i ops o rest ks s
  split at h
  ·rename_i hg
   split at h
   ·rename_i c C;cases h;exact f8 (.inl ⟨rfl,hg⟩) C hc
   ·exact tG hg h hc
  ·split at h
   ·rename_i j;exact f8 (.inr ⟨rfl,Gl j⟩) h hc
   ·rename_i j
    split at h
    ·rename_i d hd
     split at h
     ·rename_i E;cases h;exact CY.cons (K1:=λl=>l=_) (GM (Gl j) rfl hd E (AN.nil rfl)) λl e=>e ▸ hc
     ·cases h
    ·rename_i hd;cases h;exact CY.cons (K1:=λl=>l=_) (vD (Gl j) rfl hd (AN.nil rfl)) λl e=>e ▸ hc
   ·cases h
 ·split at h
  ·cases h;exact hc
  ·cases h;exact hc
  ·cases h;exact hc
  ·cases h
 ·split at h
  ·cases h;exact hc
  ·cases h;exact hc
  ·rename_i i
   split at h
   ·rename_i u;cases h;simp only[Dc,DN,Qz];rw[vx u];exact hc
   ·rename_i u;cases h;simp only[Dc,DN,Qz];rw[ne u];exact hc
  ·cases h
 ·split at h
  ·split at h
   ·cases h;exact IO.step hc
   ·cases h
  ·cases h;exact hc
  ·cases h;exact hc
  ·cases h
 ·split at h
  ·rw[wW] at h
   obtain⟨r,w,rfl⟩:=h
   exact⟨r,Pw w,hc⟩
  ·rw[wW] at h
   obtain⟨r,w,rfl⟩:=h
   exact⟨r,Pw w,hc⟩
  ·cases h
 ·split at h
  ·exact dW h hc
  ·exact dW h hc
  ·cases h
 ·split at h
  ·exact sT h hc
  ·cases h
 ·exact tf h hc
 ·cases h
end
theorem ir {P : Program} {f} {fn : Func} {code} {args : List AV} {r : AV} {N} (hf : P.funcs[f]? = some fn) (Y : fn.body = some code) (O : (fn.name == "runtime.NumGoroutine") = false) (hN : fn.ntmps = N) (hr : r.closed = true)
 (C:Du args=true) (a2:args.length≤N) (hw:AW P code (Fq P fn.results.toList r) ⟨Db 0 args, [], 0, N⟩):AO P f args r := by
  refine⟨⟨fn, hf, by rw[Y];rfl, O⟩, hr, λx I E Z B => ?_⟩
  have a0:I.size=args.length := by simpa using B.1
  have J:({ x with n := 0 } : Cx).ok :=
    ⟨E.S_lt, E.F_lt, E.SF, (λid o (A:x.H id=some o) => by rw[Z] at A;cases A), (λid o b k (A:x.H id=some o) => by rw[Z] at A;cases A), (λid a1 o o' b k k' (A:x.H id=some o) => by rw[Z] at A;cases A), GB.same E.tabs rfl λ_ h => h⟩
  have T:ES { x with n := 0 } ⟨Db 0 args, [], 0, N⟩ { tmps := I++Array.replicate (fn.ntmps - I.size) undef, defers := [] } x.w := by
    refine⟨_, rfl, by simp;omega, { x with n := 0 }, rfl, .refl _, J, by rw[Z];rfl, rfl, λt => ?_⟩
    rcases SR args 0 t with h1 | ⟨j, a, h1, U, h3⟩
    · rw[h1];exact .any _
    · rw[h3]
      have hj:j<I.size := by rw[a0];exact(wA.1 U).1
      have ht:t=j := by omega
      subst ht
      have:(I++Array.replicate (fn.ntmps - I.size) undef).getD t undef=I[t] := by
        simp[Array.getD, hj]
        omega
      rw[this]
      exact Jj (x := x) (y := { x with n := 0 }) rfl (λ_ h => h) (B.2 t a I[t] U (by simp[hj])) (LV C U)
  have V:∀ {e:Exit} {a:Act} {y:Cx} {s:St}, MY (D3 P s) fn.results.toList r→({ x with n := 0 } : Cx).le y→y.ok→y.H=hget s.h→y.n=s.n→CK y s.e a→∃u, (results fn a.tmps).run P y.w=.ok u y.w∧∃u' y', Ending.returned u=.returned u'∧y'.w=y.w∧x.le y'∧y'.ok∧AX y' r u' := by
    intro e a y s M q w F _ he
    obtain⟨u, h1, U⟩ := eE (P := P) (fn := fn) (y := y) (z := y.frozen) (a := a) (D3 P s) (λx r h => D3.rep w F he x r h) M
    have hz := Uq w
    refine⟨u, h1, u, { y.frozen with n := x.n+y.n }, rfl, rfl, ?_, ?_, Jj (x := y.frozen) (y := { y.frozen with n := x.n+y.n }) rfl (λ_ h => h) U hr⟩
    · exact⟨q.size, q.os, q.tape, q.output, q.blk, λb Y => .inl (q.S b Y), q.F, Nat.le_add_right _ _, λid o' A => by cases A⟩
    · exact⟨hz.S_lt, hz.F_lt, hz.SF, (λid o A => by cases A), (λid o b k A => by cases A), (λid a1 o o' b k k' A => by cases A), GB.same hz.tabs rfl λ_ h => h⟩
  refine T8 (c0 := { x with n := 0 }) hf Y J T (hw) λe s a y M q w F X he => ?_
  cases e with
  | normal => exact⟨.inl rfl, V (e := .normal) M q w F X he⟩
  | ret => exact⟨.inr rfl, V (e := .ret) M q w F X he⟩
  | exit id => exact M.elim
  | goto l => exact M.elim
  | panic ch => exact M.elim
  | outgrown => exact M.elim
def Uv(j:List ResultVar):Df→Option Bool
 | .out .ret [] s=>match j with
  | [.tmp t]=>match get s.e t with
   | .r (.bool b)=>some b
   | _=>none
  | _=>none
 | .out .normal [] s=>match j with
  | [.tmp t]=>match get s.e t with
   | .r (.bool b)=>some b
   | _=>none
  | _=>none
 | _=>none
theorem m8{P}{j}{c}{b}(h:Uv j c=some b):Dc P (Fq P j (.r (.bool b))) c:=by
 unfold Uv at h
 split at h
 ·split at h
  ·split at h
   ·rename_i hg;cases h
    show Fz _ (get _ _) _
    rw[hg];exact .d rfl
   ·cases h
  ·cases h
 ·split at h
  ·split at h
   ·rename_i hg;cases h
    show Fz _ (get _ _) _
    rw[hg];exact .d rfl
   ·cases h
  ·cases h
 ·cases h
def MS(id g:Nat)(xs:List (List RV)):AV→AV
 | .own j l=>if j=id∧l=g then .r (.sl xs) else .own j l
 | a=>a
def Ko(id g:Nat)(xs:List (List RV)):AV→AV
 | .agg j=>.agg (j.map (MS id g xs))
 | a=>MS id g xs a
def S5(id g:Nat)(xs:List (List RV)):Option A9→Option A9
 | some (.box j e l)=>some (.box j e (l.map (MS id g xs)))
 | some (.hot _ _ _ _ _ _)=>none
 | o=>o
theorem fm id g xs a:Oe id g xs a (MS id g xs a):=by
 unfold MS
 split
 ·split
  ·rename_i h;obtain⟨rfl,rfl⟩:=h;exact .inr (.inr ⟨rfl,rfl⟩)
  ·exact .inl rfl
 ·exact .inl rfl
theorem We id g xs:∀cs:List AV,Mu id g xs cs (cs.map (MS id g xs))
 | []=>trivial
 | a::l=>⟨fm id g xs a,We id g xs l⟩
theorem oc id g xs a:XT id g xs a (Ko id g xs a):=by
 unfold Ko
 split
 ·exact .inr ⟨_,_,rfl,rfl,We id g xs _⟩
 ·exact .inl (fm id g xs _)
theorem ur id g xs o:U8 id g xs o (S5 id g xs o):=by
 unfold S5
 split
 ·exact .inr (.inr (.inl ⟨_,_,_,_,rfl,rfl,We id g xs _⟩))
 ·exact .inr (.inl rfl)
 ·exact .inl rfl
theorem cN id g xs e:∀l:List Nat,P7 id g xs (l.map λt=>(t,Ko id g xs (get e t))) e
 | []=>trivial
 | t::l=>⟨oc id g xs _,cN id g xs e l⟩
theorem gS id g xs h:∀l:List Nat,(∀i∈l,Nat.beq i id=false)→Q2 id g xs (l.map λi=>(i,S5 id g xs (hget h i))) h
 | [],_=>trivial
 | i::l,q=>⟨q i (v8 ..),ur id g xs _,gS id g xs h l λj u=>q j (wC _ u)⟩
def Tb:List Nat→List Nat→List Nat
 | _,[]=>[]
 | Ce,t::l=>match Ce.any (Nat.beq t) with
  | true=>Tb Ce l
  | false=>t::Tb (t::Ce) l
def LE(id g:Nat)(xs:List (List RV))(s:St):St:=
 { e:=(Tb [] (s.e.map (·.1))).map λt=>(t,Ko id g xs (get s.e t)),h:=((Tb [] (s.h.map (·.1))).filter λi=>!Nat.beq i id).map λi=>(i,S5 id g xs (hget s.h i)),n:=s.n,N:=s.N }
theorem Ul{id g}{e}{sz}{xs}{s:St}(h:hget s.h id=some (.arr g e sz xs)):Ak s (LE id g xs s):=
 Ak.frz id h (cN id g xs s.e _) (gS id g xs s.h _ λi j=>by
  have:=(yn.1 j).2
  simpa using this)
def PA(h:AS):AV→Option Nat
 | .own id g=>match hget h id with
  | some (.arr j _ _ _)=>if j=g then some id else none
  | _=>none
 | .agg l=>l.findSome? λa=>match a with
  | .own id g=>match hget h id with
   | some (.arr j _ _ _)=>if j=g then some id else none
   | _=>none
  | _=>none
 | _=>none
def dF(s:St)(o:Oper):Option Nat:=match o.op with
 | .buildSlice _ _ parts=>parts.toList.findSome? λp=>PA s.h (A6 s.e p.2)
 | .store _ _ y=>PA s.h (A6 s.e y)
 | .slice _ x _ _ _=>PA s.h (A6 s.e x)
 | _=>none
def YB(P:Program)(c:Df):Option Df:=match step P c with
 | some j=>some j
 | none=>match c with
  | .ops ops (o::rest) ks s=>match dF s o with
   | some id=>match hget s.h id with
    | some (.arr g _ _ l)=>some (.ops ops (o::rest) ks (LE id g l s))
    | _=>none
   | none=>none
  | _=>none
section
variable{P:Program}{Q:Exit→St→Prop}
theorem ij(l:P.follows .mixedOrders=true){c j}(h:YB P c=some j)(hc:Dc P Q j):Dc P Q c:=by
 unfold YB at h
 split at h
 ·rename_i w q;cases h;exact lN l q hc
 ·split at h
  ·split at h
   ·rename_i id Ch
    split at h
    ·rename_i u;cases h;exact CY.weak (Ul u) hc
    ·cases h
   ·cases h
  ·cases h
end
section
variable{ops:Array Oper}{D:Nat→Bool}{G:Nat→Nat}{e:Ab}{L:List PO}{t:Nat}
def UT(ops:Array Oper)(i t:Nat):List PO→Nat→Bool
 | [],_=>true
 | p::L,k=>(match p.d with | some d=>!Nat.beq d t||wt ops 40 k i | none=>true)&&UT ops i t L (k+1)
theorem gK{i}(w:Bf ops D i):∀ {L:List PO} {k:Nat},UT ops i t L k=true→Gw PO.wE D t L k
 | [],_,_=>λj p v h=>by simp at h
 | q::L,k,hB=>by
  simp only[UT,v7] at hB
  obtain⟨l,C⟩:=hB
  intro j p v A u B
  cases j with
  | zero=>
   cases A
   rw[(PM B).1] at l
   simp only[wF,wz,xM] at l u
   rcases l with l | l
   ·rw[zo] at l;cases l
   ·rw[w.no l] at u;cases u
  | succ j=>
   exact gK w C j p v (by simpa using A) (by rwa [show k+1+j=k+(j+1) by omega]) B
theorem NZ{i}(j:Bf ops D i)(hB:UT ops i t L 0=true){a}(l:get e t=a):get (CW D G e L) t=a:=(Gb D6 L e 0 (gK j hB)).trans l
end
mutual
def Gd:RV→RV→Bool
 | .int k n,.int k' n'=>(k=k')&&(n=n')
 | .bool b,.bool b'=>b==b'
 | .str s,.str s'=>decide (s=s')
 | .sl xs,.sl ys=>LW xs ys
 | .any,.any=>true
 | _,_=>false
def Kh:List RV→List RV→Bool
 | [],[]=>true
 | a::l,b::m=>Gd a b&&Kh l m
 | _,_=>false
def LW:List (List RV)→List (List RV)→Bool
 | [],[]=>true
 | a::l,b::m=>Kh a b&&LW l m
 | _,_=>false
end
mutual
theorem eu:∀ {a b:RV},Gd a b=true→a=b
 | .int k n,.int k' n',h=>by simp only[Gd,v7,vy] at h;rw[h.1,h.2]
 | .bool b,.bool b',h=>by simp only[Gd,zj] at h;rw[h]
 | .str s,.str s',h=>by simp only[Gd,vy] at h;rw[h]
 | .sl xs,.sl ys,h=>by simp only[Gd] at h;rw[VJ h]
 | .any,.any,_=>rfl
 | .int _ _,.bool _,h | .int _ _,.str _,h | .int _ _,.sl _,h | .int _ _,.any,h=>by simp[Gd] at h
 | .bool _,.int _ _,h | .bool _,.str _,h | .bool _,.sl _,h | .bool _,.any,h=>by simp[Gd] at h
 | .str _,.int _ _,h | .str _,.bool _,h | .str _,.sl _,h | .str _,.any,h=>by simp[Gd] at h
 | .sl _,.int _ _,h | .sl _,.bool _,h | .sl _,.str _,h | .sl _,.any,h=>by simp[Gd] at h
 | .any,.int _ _,h | .any,.bool _,h | .any,.str _,h | .any,.sl _,h=>by simp[Gd] at h
theorem Xv:∀ {a b:List RV},Kh a b=true→a=b
 | [],[],_=>rfl
 | a::l,b::m,h=>by simp only[Kh,v7] at h;rw[eu h.1,Xv h.2]
 | [],_::_,h=>by simp[Kh] at h
 | _::_,[],h=>by simp[Kh] at h
theorem VJ:∀ {a b:List (List RV)},LW a b=true→a=b
 | [],[],_=>rfl
 | a::l,b::m,h=>by simp only[LW,v7] at h;rw[Xv h.1,VJ h.2]
 | [],_::_,h=>by simp[LW] at h
 | _::_,[],h=>by simp[LW] at h
end
def Xb:Value→Value→Bool
 | .slice none 0 0,.slice none 0 0=>true
 | .pointer none,.pointer none=>true
 | .map none,.map none=>true
 | .nilFunc,.nilFunc=>true
 | _,_=>false
theorem ms{a b}(h:Xb a b=true):a=b:=by
 unfold Xb at h
 split at h<;>first | rfl | cases h
mutual
def ET:AV→AV→Bool
 | .r x,.r y=>Gd x y
 | .agg cs,.agg ds=>IY cs ds
 | .tup cs,.tup ds=>IY cs ds
 | .own i g,.own i' g'=>Nat.beq i i'&&Nat.beq g g'
 | .ptr i g j k,.ptr i' g' j' k'=>(Nat.beq i i'&&Nat.beq g g')&&(Nat.beq j j'&&Nat.beq k k')
 | .rop row k,.rop row' k'=>Kh row row'&&Nat.beq k k'
 | .fn f cs,.fn f' ds=>Nat.beq f f'&&IY cs ds
 | .mref i g,.mref i' g'=>Nat.beq i i'&&Nat.beq g g'
 | .yld i g,.yld i' g'=>Nat.beq i i'&&Nat.beq g g'
 | .cst v,.cst v'=>Xb v v'
 | .whn b v,.whn b' v'=>(b==b')&&ET v v'
 | .any,.any=>true
 | _,_=>false
def IY:List AV→List AV→Bool
 | [],[]=>true
 | a::l,b::m=>ET a b&&IY l m
 | _,_=>false
end
mutual
theorem LB:∀ {a b:AV},ET a b=true→a=b:=by
 intro a b h
 cases a<;>cases b<;>first
  | (simp only[ET] at h;rw[eu h])
  | (simp only[ET] at h;rw[Sr h])
  | (simp only[ET] at h;rw[ms h])
  | (simp only[ET,v7] at h;rw[Xv h.1,wI h.2])
  | (simp only[ET,v7] at h;rw[wI h.1.1,wI h.1.2,wI h.2.1,wI h.2.2])
  | (simp only[ET,v7] at h;rw[wI h.1,wI h.2])
  | (simp only[ET,v7] at h;rw[wI h.1,Sr h.2])
  | (simp only[ET,v7,zj] at h;rw[h.1,LB h.2])
  | rfl
  | (simp[ET] at h;done)
theorem Sr:∀ {a b:List AV},IY a b=true→a=b
 | [],[],_=>rfl
 | a::l,b::m,h=>by simp only[IY,v7] at h;rw[LB h.1,Sr h.2]
 | [],_::_,h=>by simp[IY] at h
 | _::_,[],h=>by simp[IY] at h
end
def WT:Option A9→Option A9→Bool
 | some (.arr g e sz u),some (.arr j l q w)=>((Nat.beq g j&&Nat.beq e l)&&Nat.beq sz q)&&LW u w
 | some (.box g e A),some (.box j l B)=>(Nat.beq g j&&Nat.beq e l)&&IY A B
 | none,none=>true
 | _,_=>false
theorem tp{a b}(h:WT a b=true):a=b:=by
 unfold WT at h
 split at h
 ·simp only[v7] at h
  rw[wI h.1.1.1,wI h.1.1.2,wI h.1.2,VJ h.2]
 ·simp only[v7] at h
  rw[wI h.1.1,wI h.1.2,Sr h.2]
 ·rfl
 ·cases h
def HY:AS→AS→Bool
 | [],[]=>true
 | (i,o)::l,(j,p)::m=>(Nat.beq i j&&WT o p)&&HY l m
 | _,_=>false
theorem S0:∀ {a b:AS},HY a b=true→a=b
 | [],[],_=>rfl
 | (i,o)::l,(j,p)::m,h=>by
  simp only[HY,v7] at h
  rw[wI h.1.1,tp h.1.2,S0 h.2]
 | [],_::_,h=>by simp[HY] at h
 | _::_,[],h=>by simp[HY] at h
inductive Tw(ops:Array Oper):Nat→Nat→Prop
 | one {j i:Nat} (h:Region.waitsFor .any ops j i=true):Tw ops j i
 | more {j m i:Nat} (h:Region.waitsFor .any ops j m=true) (h2:Tw ops m i):Tw ops j i
section
variable{ops:Array Oper}
theorem Cl.tw{D}(h:Cl ops D){j i}(u:Tw ops j i):D j=true→D i=true:=by
 induction u with
 | one l=>exact λq=>h _ _ q l
 | more l _ w=>exact λq=>w (h _ _ q l)
theorem Bf.yesT{D}{i k}(h:Bf ops D i)(l:Tw ops i k):D k=true:=by
 cases l with
 | one j=>exact h.hw _ j
 | more j q=>exact h.cl.tw q (h.hw _ j)
theorem Bf.noT{D}{i k}(h:Bf ops D i)(j:Tw ops k i):D k=false:=by
 cases l:D k with
 | false=>rfl
 | true=>have:=h.cl.tw j l;rw[h.un] at this;cases this
def Tl(o:Oper):List Nat:=o.after.toList.filterMap λe=>match Region.binds .any e with
 | true=>some e.on
 | false=>none
def XL(i:Nat)(l:List Nat):List Nat:=match l.any (Nat.beq i) with
 | true=>l
 | false=>i::l
def XH:List Nat→List Nat→List Nat
 | [],l=>l
 | i::r,l=>XH r (XL i l)
def NO(T:List (List Nat)):List Nat→List Nat→List Nat
 | [],j=>j
 | m::l,j=>match j.any (Nat.beq m) with
  | true=>NO T l j
  | false=>NO T l (XH (T.getD m []) (m::j))
def YD:List Oper→List (List Nat)→List (List Nat)
 | [],T=>T
 | o::rest,T=>YD rest (T++[NO T (Tl o).reverse []])
theorem pU{i j}{l}(h:j∈XL i l):j=i∨j∈l:=by
 unfold XL at h
 split at h
 ·exact .inr h
 ·exact wM.1 h
theorem fC:∀ {r l:List Nat} {j:Nat},j∈XH r l→j∈r∨j∈l
 | [],l,j,h=>.inr h
 | i::r,l,j,h=>by
  rcases fC (r:=r) h with q | q
  ·exact .inl (wC _ q)
  ·rcases pU q with rfl | u
   ·exact .inl (v8 ..)
   ·exact .inr u
theorem YW{T:List (List Nat)} : ∀ {l u:List Nat} {j:Nat},j∈NO T l u→j∈u∨∃m∈l,j=m∨j∈T.getD m []
 | [],u,j,h=>.inl h
 | m::l,u,j,h=>by
  unfold NO at h
  split at h
  ·rcases YW h with q | ⟨w,q,A⟩
   ·exact .inl q
   ·exact .inr ⟨w,wC _ q,A⟩
  ·rcases YW h with q | ⟨w,q,A⟩
   ·rcases fC q with q | q
    ·exact .inr ⟨m,v8 ..,.inr q⟩
    ·rcases wM.1 q with rfl | q
     ·exact .inr ⟨_,v8 ..,.inl rfl⟩
     ·exact .inl q
   ·exact .inr ⟨w,wC _ q,A⟩
theorem nN{o:Oper}{j m}(u:ops[j]?=some o)(h:m∈Tl o):Region.waitsFor .any ops j m=true:=by
 unfold Tl at h
 obtain⟨e,w,l⟩:=List.mem_filterMap.1 h
 split at l
 ·rename_i A
  cases l
  unfold Region.waitsFor
  rw[u]
  show(o.after.any λq=>Region.binds .any q&&q.on==e.on)=true
  rw[← Array.any_toList,yy]
  exact⟨e,w,by rw[A];simp⟩
 ·cases l
theorem bM:∀ {l:List Oper} {T:List (List Nat)},(∀j,l[j]?=ops[T.length+j]?)→(∀j i,i∈T.getD j []→Tw ops j i)→∀j i,i∈(YD l T).getD j []→Tw ops j i
 | [],T,_,h,j,i,q=>h j i q
 | o::rest,T,B,h,j,i,q=>by
  have E:ops[T.length]?=some o:=by have:=B 0;simpa using this.symm
  refine bM (l:=rest) (T:=T++[NO T (Tl o).reverse []]) (λj=>by
   have:=B (j+1)
   simp only[yH] at this
   rw[this,wG,wm]
   congr 1;omega) (λj i q=>?_) j i q
  by_cases F:j<T.length
  ·refine h j i ?_
   rw[yN,wi F,← yN] at q
   exact q
  ·by_cases u:j=T.length
   ·subst u
    rw[yN,we (wL _),zW] at q
    simp only[List.getElem?_cons_zero,yg] at q
    rcases YW q with w | ⟨m,w,A⟩
    ·simp at w
    ·have C:=nN E (List.mem_reverse.1 w)
     rcases A with rfl | A
     ·exact .one C
     ·exact .more C (h m i A)
   ·rw[yN,zR (by simp;omega)] at q
    simp at q
def f9(ops:Array Oper):List (List Nat):=YD ops.toList []
def tw(T:List (List Nat))(a b:Nat):Bool:=(T.getD a []).any (Nat.beq b)
theorem uz{a b}(h:tw (f9 ops) a b=true):Tw ops a b:=by
 refine bM (l:=ops.toList) (T:=[]) (λj=>by simp) (λj i l=>by simp at l) a b ?_
 obtain⟨x,q,u⟩:=yy.1 h
 have:=wI u
 subst this
 exact q
end
structure PE where
 d:Option Nat
 v:AV
 eff:Bool
def PE.po(p:PE):PO:=⟨p.d,λ_=>p.v,none,[]⟩
def DY(D:Nat→Bool):List PE→Nat→Nat
 | [],_=>0
 | p::l,k=>(match p.eff&&D k with | true=>1 | false=>0)+DY D l (k+1)
theorem Ks{D D'} : ∀(l:List PE) (k:Nat),(∀j,k≤j→j<k+l.length→D j=true→D' j=true)→DY D l k≤DY D' l k
 | [],_,_=>wL _
 | p::l,k,h=>by
  have q:=Ks l (k+1) λj A B=>h j (by omega) (by simp;omega)
  have u:=h k (wL _) (by simp)
  unfold DY
  cases p.eff
  ·simpa using q
  ·cases w:D k
   ·simp only[y9];omega
   ·rw[u w];simp only[ze];omega
theorem Z6{D D'}{i}(A:D i=false)(B:D' i=true)(w:∀j,j≠i→D' j=D j):∀(l:List PE) (k:Nat) (p:PE),k≤i→l[i-k]?=some p→DY D' l k=DY D l k+(match p.eff with | true=>1 | false=>0)
 | [],k,p,_,h=>by simp at h
 | q::l,k,p,I,h=>by
  unfold DY
  by_cases u:k=i
  ·subst u
   rw[zW] at h
   cases h
   have:DY D' l (k+1)=DY D l (k+1):=Nat.le_antisymm (Ks l _ λj C _ E=>by rwa [← w j (by omega)]) (Ks l _ λj C _ E=>by rwa [w j (by omega)])
   rw[this,A,B]
   cases q.eff<;>simp<;>omega
  ·have F:=Z6 A B w l (k+1) p (by omega) (by rw[show i-k=(i-(k+1))+1 by omega] at h;simpa using h)
   rw[F,w k u];omega
section
variable{P:Program}{ops:Array Oper}
def UD(T:List (List Nat))(i t:Nat):List PO→Nat→Bool
 | [],_=>true
 | p::L,k=>(match p.d with | some d=>!Nat.beq d t||tw T k i | none=>true)&&UD T i t L (k+1)
theorem iX{T}(w:∀a b,tw T a b=true→Tw ops a b){D}{i t}(A:Bf ops D i):∀ {L:List PO} {k:Nat},UD T i t L k=true→Gw PO.wE D t L k
 | [],_,_=>λj p v h=>by simp at h
 | q::L,k,hB=>by
  simp only[UD,v7] at hB
  obtain⟨l,E⟩:=hB
  intro j p v B u C
  cases j with
  | zero=>
   cases B
   rw[(PM C).1] at l
   simp only[wF,wz,xM] at l u
   rcases l with l | l
   ·rw[zo] at l;cases l
   ·rw[A.noT (w _ _ l)] at u;cases u
  | succ j=>exact iX w A E j p v (by simpa using B) (by rwa [show k+1+j=k+(j+1) by omega]) C
def VH(T:List (List Nat))(e:Ab)(L:List PO)(i t:Nat):Option AV:=
 match UD T i t L 0 with
 | true=>some (get e t)
 | false=>(List.range L.length).findSome? λj=>match L[j]? with
  | some p=>match p.d with
   | some l=>if(l=t∧tw T i j=true)∧KK (L.drop (j+1)) t=true then some (p.v λ_=>0) else none
   | none=>none
  | none=>none
theorem oA{T}(q:∀a b,tw T a b=true→Tw ops a b){e}{L:List PE}{i t}{a}{D}(u:Bf ops D i)(h:VH T e (L.map PE.po) i t=some a):get (CW D (λ_=>0) e (L.map PE.po)) t=a:=by
 unfold VH at h
 split at h
 ·rename_i hB;cases h;exact(Gb D6 _ e 0 (iX q u hB)).trans rfl
 ·obtain⟨j,_,l⟩:=xF h
  split at l
  ·rename_i p hp
   split at l
   ·rename_i C hd
    split at l
    ·rename_i w;obtain⟨⟨rfl,A⟩,B⟩:=w
     cases l
     exact(I5 D6 (UL hd) _ e 0 j hp (by rw[wY];exact u.yesT (q _ _ A)) (Od B)).trans rfl
    ·cases l
   ·cases l
  ·cases l
def pR:Op→List Operand
 | .move x | .assign x | .unOp _ _ x | .nilCheck x | .fieldAddr _ x _ | .field _ x _ | .load _ x | .convert _ _ x | .extract x _ | .box _ x=>[x]
 | .binOp _ _ x y _ | .indexAddr _ x y | .index _ x y | .store _ x y | .makeSlice _ x y=>[x,y]
 | .pick x y z=>[x,y,z]
 | .slice _ x l q u=>x::(l.toList++q.toList++u.toList)
 | .makeFunc _ _ w=>w.toList
 | .build _ j=>j.toList.map (·.2)
 | .buildSlice _ _ j=>j.toList.map (·.2)
 | .call c=>(match c.callee with | .value f=>[f] | _=>[])++c.args.toList
 | _=>[]
def ku(ops:Array Oper)(o:Oper):List Nat:=
 (pR o.op).filterMap (λx=>match x with | .tmp t=>some t | _=>none)++(match o.guard with | some (j,_)=>((ops[j]?).bind (·.dst)).toList | none=>[])
def So(T:List (List Nat))(e:Ab)(L:List PO)(i:Nat):List Nat→Option Ab
 | []=>some []
 | t::l=>match VH T e L i t,So T e L i l with
  | some a,some r=>some ((t,a)::r)
  | _,_=>none
theorem Zg{T}(j:∀a b,tw T a b=true→Tw ops a b){e}{L:List PE}{i}{D}(q:Bf ops D i):∀ {l:List Nat} {R:Ab},So T e (L.map PE.po) i l=some R→∀t,get R t=.any∨get R t=get (CW D (λ_=>0) e (L.map PE.po)) t
 | [],R,h,t=>by cases h;exact .inl rfl
 | t0::l,R,h,t=>by
  unfold So at h
  split at h
  ·rename_i a r u w
   cases h
   rw[D6]
   split
   ·rename_i A;subst A;exact .inr (oA j q u).symm
   ·exact Zg j q w t
  ·cases h
theorem BV.weakE{c}{o}{R q}{h h'}{n u}{v}(w:BV P c o R h n v h' u)(A:∀t,get R t=.any∨get R t=get q t):BV P c o q h n v h' u:=
 λB x a j C E F K Q I=>w B x a j C E (λt=>by
  rcases A t with l | l
  ·rw[l];exact .any _
  ·rw[l];exact F t) K Q I
theorem Cd.weakE{o}{c}{R B}(h:Cd R ops o c)(C:∀t,get R t=.any∨get R t=get B t):Cd B ops o c:=by
 cases h with
 | @one j l w b hg A q=>
  refine .one hg A ?_
  rcases C l with u | u
  ·rw[show BR R (.tmp l)=get R l from rfl,u] at q;cases q
  ·exact u.symm.trans q
 | @two j l w b E hg A q=>
  refine .two hg A ?_
  rcases C l with u | u
  ·rw[show BR R (.tmp l)=get R l from rfl,u] at q;cases q
  ·exact u.symm.trans q
abbrev HJ:=Ab→AS→Nat→Oper→Option (AV × AS × Nat)
def JQ(P:Program)(S:HJ):Prop:=∀R h n o r,S R h n o=some r→BV P true o R h n r.1 r.2.1 r.2.2
abbrev Jd:=Ab→AS→Oper→Option AV
def Kv(P:Program)(j:Jd):Prop:=∀R h o v,j R h o=some v→∀n,BV P true o R h n v h n
def TU(P:Program)(j:Jd)(R:Ab)(h:AS)(o:Oper):Option AV:=match Lj P R h o with
 | some v=>some v
 | none=>j R h o
theorem dZ{P}{q}(l:Kv P q){R}{h}{o}{v}(j:TU P q R h o=some v)(n:Nat):BV P true o R h n v h n:=by
 unfold TU at j
 split at j
 ·rename_i w u;cases j;exact(Lm (c:=true) u).spec n
 ·exact l R h o v j n
def U3(P:Program)(S:HJ)(A:Jd)(ops:Array Oper)(j:List (AS × Nat))(R:Ab)(k:Nat)(o:Oper)(p:PE):Bool:=match p.eff with
 | false=>match j[k]? with
  | some (h,_)=>match o.guard with
   | none=>match TU P A R h o with
    | some v=>ET v p.v
    | none=>false
   | some _=>match JB R ops o with
    | some true=>match TU P A R h o with
     | some v=>ET v p.v
     | none=>false
    | some false=>ET (.whn false (.r (.bool false))) p.v
    | none=>false
  | none=>false
 | true=>match j[k]?,j[k+1]? with
  | some (h,n),some (l,q)=>
   match o.guard with
   | none=>match S R h n o with
    | some (v,u,w)=>(ET v p.v&&HY u l)&&Nat.beq w q
    | none=>false
   | some _=>match JB R ops o with
    | some true=>match S R h n o with
     | some (v,u,w)=>(ET v p.v&&HY u l)&&Nat.beq w q
     | none=>false
    | some false=>(ET (.whn false (.r (.bool false))) p.v&&HY h l)&&Nat.beq n q
    | none=>false
  | _,_=>false
theorem jc{P}{S}{U}(Z:JQ P S)(w:Kv P U){ops}{F}{R}{k}{o:Oper}{p:PE}{h}{n}(I:F[k]?=some (h,n))(j:U3 P S U ops F R k o p=true) :
  ∃(q:AS) (u:Nat),F[k+(match p.eff with | true=>1 | false=>0)]?=some (q,u) ∧
   ((o.guard=none∧BV P true o R h n p.v q u)∨(Cd R ops o true∧BV P true o R h n p.v q u)∨(Cd R ops o false∧p.v=.whn false (.r (.bool false))∧q=h∧u=n)):=by
 unfold U3 at j
 cases V:p.eff with
 | false=>
  rw[V,I] at j
  refine⟨h,n,I,?_⟩
  simp only at j
  split at j
  ·rename_i hg
   split at j
   ·rename_i v J;rw[← LB j];exact .inl ⟨hg,dZ w J n⟩
   ·cases j
  ·split at j
   ·rename_i l
    split at j
    ·rename_i v J;rw[← LB j];exact .inr (.inl ⟨Gl l,dZ w J n⟩)
    ·cases j
   ·rename_i l;exact .inr (.inr ⟨Gl l,(LB j).symm,rfl,rfl⟩)
   ·cases j
 | true=>
  rw[V,I] at j
  simp only at j
  split at j
  ·rename_i h0 n0 q u X e2
   simp only[wP,wV] at X
   obtain⟨rfl,rfl⟩:=X
   refine⟨q,u,e2,?_⟩
   have A:∀ {v B C},S R h n o=some (v,B,C)→((ET v p.v&&HY B q)&&Nat.beq C u)=true→BV P true o R h n p.v q u:=by
    intro v B C E Y
    simp only[v7] at Y
    obtain⟨⟨M,O⟩,T⟩:=Y
    rw[← LB M,← S0 O,← wI T]
    exact Z R h n o _ E
   split at j
   ·rename_i hg
    split at j
    ·rename_i v B C E;exact .inl ⟨hg,A E j⟩
    ·cases j
   ·split at j
    ·rename_i l
     split at j
     ·rename_i v B C E;exact .inr (.inl ⟨Gl l,A E j⟩)
     ·cases j
    ·rename_i l
     simp only[v7] at j
     obtain⟨⟨M,O⟩,T⟩:=j
     exact .inr (.inr ⟨Gl l,(LB M).symm,(S0 O).symm,(wI T).symm⟩)
    ·cases j
  ·cases j
def WJ(P:Program)(T:List (List Nat))(S:HJ)(l:Jd)(ops:Array Oper)(e:Ab)(N:Nat)(L:List PE)(q:List (AS × Nat))(i:Nat)(o:Oper)(p:PE):Bool:=
 (match o.dst,p.d with | some d,some u=>Nat.beq d u&&Nat.blt d N | none,none=>true | _,_=>false) &&
 match So T e (L.map PE.po) i (ku ops o) with
 | some R=>(List.range (DY (λj=>!(tw T j i||Nat.beq j i)) L 0+1)).all λk=>Nat.blt k (DY (λj=>tw T i j) L 0)||U3 P S l ops q R k o p
 | none=>false
def WZ(P:Program)(S:HJ)(l:Jd)(ops:Array Oper)(s:St)(L:List PE)(j:List (AS × Nat)):Bool:=
 (V6 ops ops.size&&HM (L.map PE.po)&&Nat.beq L.length ops.size)&&(match j[0]? with | some (h,n)=>HY s.h h&&Nat.beq s.n n | none=>false) &&
 (List.range ops.size).all λi=>match ops[i]?,L[i]? with
  | some o,some p=>WJ P (f9 ops) S l ops s.e s.N L j i o p
  | _,_=>false
def Hc(c0:Cx)(s:St)(L:List PE)(l:List (AS × Nat))(listed:Array Bool)(a:Act)(w:World):Prop:=
 ∃j,a.defers=j∧a.tmps.size=s.N∧∃(y:Cx) (h:AS) (n:Nat),l[DY (λk=>listed.getD k false) L 0]?=some (h,n)∧y.w=w∧c0.leM j y∧y.ok∧y.H=hget h∧y.n=n ∧
  ∀t,AX y (get (CW (λk=>listed.getD k false) (λ_=>0) s.e (L.map PE.po)) t) (a.tmps.getD t undef)
theorem Hc.put{c0:Cx}{s:St}{L:List PE}{Hs}{listed:Array Bool}{a:Act}{i}{p:PE}{y z:Cx}{u}{I}{T}(hp:L[i]?=some p)(hN:∀d, p.d=some d→Nat.blt d s.N=true)(hE:HM (L.map PE.po)=true)
 (hi:i<listed.size) (hr:Bf ops (λk => listed.getD k false) i) {ds} (J:a.defers=ds) (hsz:a.tmps.size=s.N) (U:c0.leM ds y)
 (B:Hs[DY (λk => listed.getD k false) L 0+(match p.eff with | true => 1 | false => 0)]?=some (I, T))
 (he:∀t, AX y (get (CW (λk => listed.getD k false) (λ_ => 0) s.e (L.map PE.po)) t) (a.tmps.getD t undef)) (M:y.le z) (O:z.ok) (V:z.H=hget I) (X:z.n=T)
 (hv:AX z p.v u):Hc c0 s L Hs (listed.setIfInBounds i true) (a.put p.d u) z.w := by
  have C:(L.map PE.po)[i]?=some p.po := by rw[wd, hp];rfl
  have E:∀k, (listed.setIfInBounds i true).getD k false=(listed.getD k false||(k=i)) := λk => by
    by_cases B:i=k
    · subst B;simp[hi]
    · rw[getD_set_ne false B];simp[Ne.symm B]
  have A:∀k, k≠i→(listed.setIfInBounds i true).getD k false=listed.getD k false := λk B => by rw[E];simp[B]
  have Y:(λk => (listed.setIfInBounds i true).getD k false) (0+i)=true := by show(listed.setIfInBounds i true).getD (0+i) false=true;rw[wY, E];simp
  refine⟨ds, by cases l:p.d<;>simpa[Act.put, l] using J, ?_, z, I, T, ?_, rfl, U.trans M, O, V, X, λt => ?_⟩
  · cases l:p.d<;>simpa[Act.put, l] using hsz
  · rw[Z6 (D := λk => listed.getD k false) (i := i) hr.un (by show(listed.setIfInBounds i true).getD i false=true;rw[E];simp) A L 0 p (yS _) (by simpa using hp)]
    exact B
  · by_cases w:p.d=some t
    · have Z:get (CW (λk => (listed.setIfInBounds i true).getD k false) (λ_ => 0) s.e (L.map PE.po)) t=p.v :=
        I5 D6 (UL (p := p.po) w) (L.map PE.po) _ 0 i C Y (Od (Wy hE C w))
      have F:t<a.tmps.size := by rw[hsz];exact C3 (hN t w)
      rw[Z, w]
      simp only[Act.put, Mv F, xm]
      exact hv
    · have Z:get (CW (λk => (listed.setIfInBounds i true).getD k false) (λ_ => 0) s.e (L.map PE.po)) t=get (CW (λk => listed.getD k false) (λ_ => 0) s.e (L.map PE.po)) t := by
        refine H5 D6 (L.map PE.po) _ _ 0 rfl λj q v h1 I => ?_
        obtain⟨h4, h5⟩ := PM I
        have a0:j≠i := λe => by subst e;rw[C] at h1;cases h1;exact w h4
        rw[wY]
        exact⟨A j a0, λ_ => by
          have:q ∈ L.map PE.po := wj h1
          obtain⟨q', _, rfl⟩ := xY.1 this
          rfl⟩
      rw[Z]
      have h0 := (he t).mono M
      cases l:p.d with
      | none => exact h0
      | some d =>
        have a1:d≠t := λe => w (by rw[l, e])
        have F:d<a.tmps.size := by rw[hsz];exact C3 (hN d l)
        simp only[Act.put, Mv F, ne a1]
        exact h0
theorem Hc.step{T}(hT:∀a b, tw T a b=true→Tw ops a b){S}{Sp}(hS:JQ P S)(a0:Kv P Sp){c0}{s:St}{L:List PE}{Hs}{listed:Array Bool}{a:Act}{w}{i}{p:PE}{o:Oper}{Q}(hp:L[i]?=some p)(ho:ops[i]?=some o)(l:WJ P T S Sp ops s.e s.N L Hs i o p=true)
 (hE:HM (L.map PE.po)=true) (hi:i<listed.size) (J:Bf ops (λk => listed.getD k false) i) (O:Hc c0 s L Hs listed a w) :
    wpOp P ops Q i (Hc c0 s L Hs (listed.setIfInBounds i true)) a w := by
  obtain⟨_, B, hsz, y, h, n, a1, a2, U, V, X, Y, Z⟩ := O
  subst a2
  unfold WJ at l
  rw[v7] at l
  obtain⟨q, l⟩ := l
  have hd:o.dst=p.d∧∀d, p.d=some d→Nat.blt d s.N=true := by
    split at q
    · rename_i d d' A C
      rw[v7] at q
      have := wI q.1
      subst this
      exact⟨A.trans C.symm, λd2 h3 => by rw[C] at h3;cases h3;exact q.2⟩
    · rename_i A C;exact⟨A.trans C.symm, λd2 h3 => by rw[C] at h3;cases h3⟩
    · cases q
  split at l
  · rename_i R hR
    have E := Zg hT (D := λk => listed.getD k false) J hR
    have a7:DY (λj => tw T i j) L 0≤DY (λk => listed.getD k false) L 0 := Ks L 0 λj _ _ A => J.yesT (hT _ _ A)
    have a8:DY (λk => listed.getD k false) L 0≤DY (λj => !(tw T j i||Nat.beq j i)) L 0 := Ks L 0 λj _ _ A => by
      cases hw:tw T j i with
      | true => have := J.noT (hT _ _ hw);rw[this] at A;cases A
      | false =>
        cases a6:Nat.beq j i with
        | true => have := wI a6;subst this;exact absurd (A.symm.trans J.un) (by decide)
        | false => rfl
    have M := wT.1 l (DY (λk => listed.getD k false) L 0) (wh.2 (by omega))
    rw[wF] at M
    rcases M with M | M
    · have := C3 M;omega
    · obtain⟨C, n2, e2, F⟩ := jc hS a0 a1 M
      unfold wpOp
      simp only[ho]
      have run:BV P true o R h n p.v C n2→o.wp P a y.w (Hc c0 s L Hs (listed.setIfInBounds i true)) Q := λhs =>
        (hs.weakE E) rfl y a V X Y Z _ Q λu z k1 k2 k3 k4 k5 => by
          rw[hd.1]
          exact Hc.put hp hd.2 hE hi J B hsz U e2 Z k1 k2 k3 k4 k5
      rcases F with ⟨hg, hs⟩ | ⟨I, hs⟩ | ⟨I, hv, rfl, rfl⟩
      · rw[vx (by simp[Region.wanted, hg])]
        exact .inl (run hs)
      · have hw:Region.wanted o (yielded ops a.tmps)=true := Cd.wanted (s := ⟨_, [], 0, 0⟩) (I.weakE E) Z
        rw[hw, vx rfl]
        exact .inl (run hs)
      · have hw:Region.wanted o (yielded ops a.tmps)=false := Cd.wanted (s := ⟨_, [], 0, 0⟩) (I.weakE E) Z
        rw[hw, ne (by decide), hd.1]
        refine Hc.put hp hd.2 hE hi J B hsz U e2 Z (.refl y) V X Y ?_
        rw[hv];exact .whn (λe => by cases e) (λ_ => rfl)
  · cases l
theorem vY{S}{Sp}(hS:JQ P S)(a8:Kv P Sp){id}{s:St}{Q}(L:List PE)(Hs:List (AS × Nat)){h'}{n'}(hm:P.follows .mixedOrders=true)(hB:WZ P S Sp ops s L Hs=true)(a0:Hs[DY (λ_ => true) L 0]?=some (h', n'))
 (h:Q .normal ⟨CW (λ_ => true) (λ_ => 0) s.e (L.map PE.po), h', n', s.N⟩):AW P (.region id ops true) Q s := by
  intro z0 aa c0 a w ⟨_, a1, hsz, y, ab, ac, ad, hH, hn, T⟩
  subst ab
  obtain⟨r1, r2⟩ := Ro ad
  unfold WZ at hB
  simp only[v7] at hB
  obtain⟨⟨⟨⟨b1, b2⟩, b3⟩, b4⟩, b5⟩ := hB
  have ay := wI b3
  have ae:Hs[0]?=some (s.h, s.n) := by
    split at b4
    · rename_i h0 n0 e0
      rw[v7] at b4
      rw[e0, S0 b4.1, wI b4.2]
    · cases b4
  refine PR KN hm aa ?_
  generalize hz:({ y with w := { y.w with drawn := y.w.drawn+1 } } : Cx)=z at r1 r2
  have af:z.w = { y.w with drawn := y.w.drawn+1 } := by rw[← hz]
  have ag:z.H=hget s.h := by rw[← hz];exact hH
  have ah:z.n=s.n := by rw[← hz];exact hn
  rw[← af]
  have B:∀j, (Array.replicate ops.size false).getD j false=false := getD_replicate_false _
  have key:∀(f:Nat) (listed:Array Bool) (a:Act) (w:World), EJ listed ops.size=f→HeadInv .any ops ops.size listed→Hc c0 s L Hs listed a w→wpAny P .any ops (ED c0 Q) f listed a w := by
    intro f
    induction f with
    | zero =>
      intro listed a w M C E
      have u := VT M
      refine⟨?_, ?_⟩
      · rw[List.eq_nil_iff_forall_not_mem]
        intro j Z
        obtain⟨U, o, I, _⟩ := mem_ready.1 Z
        have ai:j<ops.size := (ww.1 I).1
        have := getD_both U
        rw[u j ai] at this;cases this
      · obtain⟨_, i1, i2, z', hh, nn, J, i3, i4, i5, i6, aj, i7⟩ := E
        subst i3
        have ak:DY (λk => listed.getD k false) L 0=DY (λ_ => true) L 0 :=
          Nat.le_antisymm (Ks L 0 λ_ _ _ _ => rfl) (Ks L 0 λj _ Z _ => u j (by omega))
        rw[ak, a0] at J
        cases J
        refine⟨by simp, _, h, _, i1, i2, z', rfl, i4, i5, i6, aj, λt => ?_⟩
        show AX z' (get (EU _ _ _ _ _ _) t) _
        rw[SJ (L.map PE.po) _ 0 (D' := λk => listed.getD k false) λj _ Z => (u j (by simp at Z;omega)).symm]
        exact i7 t
    | succ f ih =>
      intro listed a w M C E
      obtain⟨J, al, a2, F⟩ := X5 (listed := listed) (n := ops.size) (by omega)
      have an:J<listed.size := by rw[C.size];omega
      have A:J ∈ Region.ready .any ops listed := by
        refine mem_ready.2 ⟨getD_in an a2, ?_⟩
        have ao:∃o, ops[J]?=some o := ⟨ops[J]'(by omega), by simp[wl (show J<ops.size by omega)]⟩
        obtain⟨o, I⟩ := ao
        refine⟨o, I, λe T hb => ?_⟩
        have U := wT.1 b1 J (wh.2 al)
        simp only[I] at U
        have h2 := (zN.1 U) e T
        simp only[hb, zJ, xj, vy] at h2
        exact F _ h2
      refine⟨λh => (by rw[h] at A;cases A), λi hi => ?_⟩
      obtain⟨aq, o, I, u⟩ := mem_ready.1 hi
      have V:i<ops.size := (ww.1 I).1
      have O := getD_both aq
      have a6:i<listed.size := by rw[C.size];omega
      obtain⟨p, hp⟩:∃p, L[i]?=some p := ⟨L[i]'(by omega), by simp[wB (show i<L.length by omega)]⟩
      have a7 := wT.1 b5 i (wh.2 V)
      simp only[I, hp] at a7
      have ar:Bf ops (λk => listed.getD k false) i := by
        refine⟨λj k Z hk => ?_, λk hk => ?_, O⟩
        · obtain⟨oj, av, e, T, hb, X⟩ := Region.waitsFor_spec hk
          rw[← X];exact C.closed j oj av Z e T hb
        · obtain⟨oi, aw, e, T, hb, X⟩ := Region.waitsFor_spec hk
          have:oi=o := wo (aw.symm.trans I)
          subst this
          rw[← X];exact u e T hb
      have step := Hc.step (Q := ED c0 Q) (λ_ _ => uz) hS a8 hp I a7 b2 a6 ar E
      refine wpOp_mono (λa' w' h' => ih _ a' w' ?_ (C.set hi V) h') step
      have := U4 a6 O ops.size
      rw[vx V] at this
      omega
  have Y:EJ (Array.replicate ops.size false) ops.size=ops.size := VD B ops.size
  have ax:DY (λk => (Array.replicate ops.size false).getD k false) L 0=0 := by
    have:∀(l:List PE) (k:Nat), DY (λk => (Array.replicate ops.size false).getD k false) l k=0 := by
      intro l
      induction l with
      | nil => intro k;rfl
      | cons q l ih => intro k;unfold DY;rw[ih, B, y9]
    exact this L 0
  exact key ops.size _ a z.w Y ⟨by simp, λj oj _ hl => (by rw[B] at hl;cases hl), λt az ht => by omega⟩
    ⟨_, a1, hsz, z, s.h, s.n, by rw[ax];exact ae, rfl, ac.trans r1, r2, ag, ah, λt => by
      have e1:get (CW (λk => (Array.replicate ops.size false).getD k false) (λ_ => 0) s.e (L.map PE.po)) t=get s.e t := Gb D6 (L.map PE.po) _ 0 λj p _ _ U => by rw[B] at U;cases U
      rw[e1];exact(T t).mono r1⟩
end
variable{β:Type}
def DO(n:Nat)(k:Nat→β):β:=match n with
 | 0=>k 0
 | m+1=>k (m+1)
theorem Dp(n:Nat)(k:Nat→β):DO n k=k n:=by cases n<;>rfl
def R5(z:Int)(k:Int→β):β:=match z with
 | .ofNat n=>DO n λn=>k (.ofNat n)
 | .negSucc n=>DO n λn=>k (.negSucc n)
theorem dQ(z:Int)(k:Int→β):R5 z k=k z:=by cases z<;>simp only[R5,Dp]
def Xj(c:UInt8)(k:UInt8→β):β:=DO c.toNat λn=>k (UInt8.ofNat n)
theorem rD(c:UInt8)(k:UInt8→β):Xj c k=k c:=by unfold Xj;rw[Dp];congr 1;simp
def UB:List UInt8→(List UInt8→β)→β
 | [],k=>k []
 | c::r,k=>Xj c λc=>UB r λr=>k (c::r)
theorem ff:∀(l:List UInt8) (k:List UInt8→β),UB l k=k l
 | [],_=>rfl
 | c::r,k=>by unfold UB;rw[rD,ff r]
def Wl(x:IntKind)(k:IntKind→β):β:=match x with
 | .i8=>k .i8 | .i16=>k .i16 | .i32=>k .i32 | .i64=>k .i64 | .u8=>k .u8 | .u16=>k .u16 | .u32=>k .u32 | .u64=>k .u64
theorem cM(x:IntKind)(k:IntKind→β):Wl x k=k x:=by cases x<;>rfl
def VN(x:Bool)(k:Bool→β):β:=match x with
 | true=>k true
 | false=>k false
theorem iS(x:Bool)(k:Bool→β):VN x k=k x:=by cases x<;>rfl
mutual
def JE:RV→(RV→β)→β
 | .int kd n,k=>Wl kd λkd=>R5 n λn=>k (.int kd n)
 | .bool b,k=>VN b λb=>k (.bool b)
 | .str s,k=>UB s λs=>k (.str s)
 | .sl xs,k=>NC xs λxs=>k (.sl xs)
 | .any,k=>k .any
def Nj:List RV→(List RV→β)→β
 | [],k=>k []
 | a::l,k=>JE a λa=>Nj l λl=>k (a::l)
def NC:List (List RV)→(List (List RV)→β)→β
 | [],k=>k []
 | a::l,k=>Nj a λa=>NC l λl=>k (a::l)
end
mutual
theorem gH:∀(a:RV) (k:RV→β),JE a k=k a
 | .int kd n,k=>by unfold JE;rw[cM,dQ]
 | .bool b,k=>by unfold JE;rw[iS]
 | .str s,k=>by unfold JE;rw[ff]
 | .sl xs,k=>by unfold JE;rw[Ya xs]
 | .any,k=>by unfold JE;rfl
theorem Wu:∀(a:List RV) (k:List RV→β),Nj a k=k a
 | [],k=>by unfold Nj;rfl
 | a::l,k=>by unfold Nj;rw[gH a,Wu l]
theorem Ya:∀(a:List (List RV)) (k:List (List RV)→β),NC a k=k a
 | [],k=>by unfold NC;rfl
 | a::l,k=>by unfold NC;rw[Wu a,Ya l]
end
mutual
def FK:AV→(AV→β)→β
 | .r x,k=>JE x λx=>k (.r x)
 | .agg cs,k=>HZ cs λcs=>k (.agg cs)
 | .tup cs,k=>HZ cs λcs=>k (.tup cs)
 | .own i g,k=>DO i λi=>DO g λg=>k (.own i g)
 | .ptr i g j m,k=>DO i λi=>DO g λg=>DO j λj=>DO m λm=>k (.ptr i g j m)
 | .rop row m,k=>Nj row λrow=>DO m λm=>k (.rop row m)
 | .fn f cs,k=>DO f λf=>HZ cs λcs=>k (.fn f cs)
 | a,k=>k a
def HZ:List AV→(List AV→β)→β
 | [],k=>k []
 | a::l,k=>FK a λa=>HZ l λl=>k (a::l)
end
mutual
theorem dT:∀(a:AV) (k:AV→β),FK a k=k a
 | .r x,k=>by unfold FK;rw[gH]
 | .agg cs,k=>by unfold FK;rw[L5 cs]
 | .tup cs,k=>by unfold FK;rw[L5 cs]
 | .own i g,k=>by unfold FK;rw[Dp,Dp]
 | .ptr i g j m,k=>by unfold FK;rw[Dp,Dp,Dp,Dp]
 | .rop row m,k=>by unfold FK;rw[Wu,Dp]
 | .fn f cs,k=>by unfold FK;rw[Dp,L5 cs]
 | .mref _ _,k=>by unfold FK;rfl
 | .yld _ _,k=>by unfold FK;rfl
 | .full _,k=>by unfold FK;rfl
 | .cst _,k=>by unfold FK;rfl
 | .whn _ _,k=>by unfold FK;rfl
 | .any,k=>by unfold FK;rfl
theorem L5:∀(a:List AV) (k:List AV→β),HZ a k=k a
 | [],k=>by unfold HZ;rfl
 | a::l,k=>by unfold HZ;rw[dT a,L5 l]
end
def Xd:Option A9→(Option A9→β)→β
 | some (.arr g e sz j),k=>DO g λg=>DO e λe=>DO sz λsz=>NC j λj=>k (some (.arr g e sz j))
 | some (.box g e l),k=>DO g λg=>DO e λe=>HZ l λl=>k (some (.box g e l))
 | o,k=>k o
theorem qZ(o:Option A9)(k:Option A9→β):Xd o k=k o:=by
 unfold Xd
 split
 ·rw[Dp,Dp,Dp,Ya]
 ·rw[Dp,Dp,L5]
 ·rfl
def UX:AS→(AS→β)→β
 | [],k=>k []
 | (i,o)::r,k=>DO i λi=>Xd o λo=>UX r λr=>k ((i,o)::r)
theorem gz:∀(h:AS) (k:AS→β),UX h k=k h
 | [],_=>rfl
 | (i,o)::r,k=>by unfold UX;rw[Dp,qZ,gz r]
def Ut(a:AV)(k:AV→β):β:=match a with
 | .r (.int l n)=>Wl l λl=>R5 n λn=>k (.r (.int l n))
 | .r (.bool b)=>VN b λb=>k (.r (.bool b))
 | .own i g=>DO i λi=>DO g λg=>k (.own i g)
 | .ptr i g j m=>DO i λi=>DO g λg=>DO j λj=>DO m λm=>k (.ptr i g j m)
 | a=>k a
theorem pi(a:AV)(k:AV→β):Ut a k=k a:=by
 unfold Ut
 split
 ·rw[cM,dQ]
 ·rw[iS]
 ·rw[Dp,Dp]
 ·rw[Dp,Dp,Dp,Dp]
 ·rfl
def XJ(s:St)(k:St→β):β:=match s with
 | ⟨(d,v)::e,h,n,N⟩=>Ut v λv=>DO n λn=>k ⟨(d,v)::e,h,n,N⟩
 | s=>k s
theorem s4(s:St)(k:St→β):XJ s k=k s:=by
 unfold XJ
 split
 ·rw[pi,Dp]
 ·rfl
section
variable{P:Program}
theorem BV.frzV{c}{o}{R}{h j}{n n1}{v}{id g e sz}{xs}(M:BV P c o R h n v j n1)(O:hget j id=some (.arr g e sz xs)) :
  BV P c o R h n (Ko id g xs v) (LE id g xs ⟨[(0,v)],j,n1,1⟩).h n1:=by
 intro T x a w U V X K Q Y
 refine M T x a w U V X K Q λu y Z k2 k3 k4 k5=>?_
 have l:ES y ⟨[(0,v)],j,n1,1⟩ { tmps:=#[u],defers:=[] } y.w:=by
  refine⟨_,rfl,rfl,y,rfl,.refl y,k2,k3,k4,λt=>?_⟩
  rw[D6]
  split
  ·rename_i ht;subst ht;exact k5
  ·exact .any _
 obtain⟨_,_,_,z,A,B,q,C,E,F⟩:=Ul (s:=⟨[(0,v)],j,n1,1⟩) O y _ _ l
 have I:=F 0
 have:get (LE id g xs ⟨[(0,v)],j,n1,1⟩).e 0=Ko id g xs v:=rfl
 rw[this] at I
 have J:=Y u z (Z.trans B.le) q C E I
 rw[A] at J;exact J
def MB:Nat→AV→AS→Nat→AV × AS
 | 0,v,h,_=>(v,h)
 | f+1,v,h,n=>match PA h v with
  | some id=>match hget h id with
   | some (.arr g _ _ j)=>MB f (Ko id g j v) (LE id g j ⟨[(0,v)],h,n,1⟩).h n
   | _=>(v,h)
  | none=>(v,h)
theorem gq{c}{o}{R}{h}{n n1} : ∀(f:Nat) {v:AV} {j:AS},BV P c o R h n v j n1→BV P c o R h n (MB f v j n1).1 (MB f v j n1).2 n1
 | 0,v,j,l=>l
 | f+1,v,j,l=>by
  unfold MB
  split
  ·split
   ·rename_i q;exact gq f (l.frzV q)
   ·exact l
  ·exact l
def kU(o:Oper):Bool:=match o.op with
 | .buildSlice _ _ _=>true
 | .call ⟨.builtin .append,⟨[.const _,_]⟩,_⟩=>true
 | .call ⟨.value _,_,_⟩=>true
 | _=>false
def S1(S:HJ):HJ:=λR h n o=>match S R h n o with
 | some (v,l,j)=>match kU o with
  | true=>some ((MB 9 v l j).1,(MB 9 v l j).2,j)
  | false=>some (v,l,j)
 | none=>none
theorem kz{S}(q:JQ P S):JQ P (S1 S):=by
 intro R h n o r j
 unfold S1 at j
 split at j
 ·rename_i v w A u
  have l:=q R h n o _ u
  split at j
  ·cases j;exact gq 9 l
  ·cases j;exact l
 ·cases j
def Pt(S:HJ)(l:Jd)(ops:Array Oper):List Oper→List PE→List (AS × Nat)→Ab→AS→Nat→Option (List PE × List (AS × Nat))
 | [],L,j,_,_,_=>some (L.reverse,j.reverse)
 | o::rest,L,j,e,h,n=>
  match (match o.guard with | none=>some true | some _=>JB e ops o) with
  | some true=>match SC o with
   | true=>match S e h n o with
    | some (v,_,_)=>Pt S l ops rest (⟨o.dst,v,false⟩::L) j (Fa o.dst v e) h n
    | none=>none
   | false=>match l e h o with
    | some v=>Pt S l ops rest (⟨o.dst,v,false⟩::L) j (Fa o.dst v e) h n
    | none=>match S e h n o with
     | some (v,q,u)=>Pt S l ops rest (⟨o.dst,v,true⟩::L) ((q,u)::j) (Fa o.dst v e) q u
     | none=>none
  | some false=>Pt S l ops rest (⟨o.dst,.whn false (.r (.bool false)),false⟩::L) j (Fa o.dst (.whn false (.r (.bool false))) e) h n
  | none=>none
def VG(P:Program)(S:HJ)(j:Jd)(ops:Array Oper)(s:St):Option St:=match Pt S j ops ops.toList [] [(s.h,s.n)] s.e s.h s.n with
 | some (L,l)=>match WZ P S j ops s L l with
  | true=>match l[DY (λ_=>true) L 0]? with
   | some (q,u)=>some ⟨CW (λ_=>true) (λ_=>0) s.e (L.map PE.po),q,u,s.N⟩
   | none=>none
  | false=>none
 | none=>none
def Uj(S:HJ)(ops:Array Oper):List Oper→Ab→AS→Nat→Option Nat
 | [],_,_,_=>none
 | o::rest,e,h,n=>
  match (match o.guard with | none=>some true | some _=>JB e ops o) with
  | some true=>match S e h n o with
   | some (v,j,l)=>match SC o with
    | true=>Uj S ops rest (Fa o.dst v e) h n
    | false=>Uj S ops rest (Fa o.dst v e) j l
   | none=>dF ⟨e,h,n,0⟩ o
  | some false=>Uj S ops rest (Fa o.dst (.whn false (.r (.bool false))) e) h n
  | none=>none
def mJ(F:List Nat)(s:St)(o:Oper):Option Nat:=match o.op with
 | .call ⟨.value j,l,_⟩=>match A6 s.e j with
  | .fn f _=>match F.any (Nat.beq f) with
   | true=>l.toList.findSome? λx=>PA s.h (A6 s.e x)
   | false=>none
  | _=>none
 | _=>none
def TH(F:List Nat)(c:Df):Df:=match c with
 | .ops ops (o::rest) ks s=>match mJ F s o with
  | some id=>match hget s.h id with
   | some (.arr g _ _ j)=>.ops ops (o::rest) ks (LE id g j s)
   | _=>c
  | none=>c
 | c=>c
theorem bL{F}{Q}{c}(h:Dc P Q (TH F c)):Dc P Q c:=by
 unfold TH at h
 split at h
 ·split at h
  ·split at h
   ·rename_i j;exact CY.weak (Ul j) h
   ·exact h
  ·exact h
 ·exact h
structure Lv where
 S:HJ
 Sp:Jd
structure L6(P:Program)(p:Lv):Prop where
 S:JQ P p.S
 Sp:Kv P p.Sp
def Wt(p:Lv)(ops:Array Oper)(o:Oper)(rest:List Oper)(ks:List Fr)(s:St):Option Df:=match o.op with
 | .call ⟨.value _,_,_⟩=>match (match o.guard with | none=>some true | some _=>JB s.e ops o) with
  | some true=>match p.Sp s.e s.h o with
   | some v=>match o.dst with
    | some d=>match Nat.blt d s.N with
     | true=>some (.ops ops rest ks { e:=(d,v)::s.e,h:=s.h,n:=s.n,N:=s.N })
     | false=>none
    | none=>none
   | none=>none
  | _=>none
 | _=>none
theorem lj{p}(hp:L6 P p){Q}{ops}{o:Oper}{rest}{ks}{s:St}{u}(h:Wt p ops o rest ks s=some u)(hc:Dc P Q u):Dc P Q (.ops ops (o::rest) ks s):=by
 unfold Wt at h
 split at h
 ·split at h
  ·rename_i hg
   split at h
   ·rename_i v A
    split at h
    ·rename_i d hd
     split at h
     ·rename_i B;cases h
      have l:(false=false∧o.guard=none)∨Cd s.e ops o true:=by
       cases q:o.guard with
       | none=>exact .inl ⟨rfl,rfl⟩
       | some j=>rw[q] at hg;exact .inr (Gl hg)
      exact CY.cons (K1:=λw=>w=_) (Yd l hd B (hp.Sp _ _ _ _ A _) (AN.nil rfl)) λw e=>e ▸ hc
     ·cases h
    ·cases h
   ·cases h
  ·cases h
 ·cases h
def R0(P:Program)(p:Lv)(c:Df):Option Df:=match YB P c with
 | some (.ops o r ks s)=>XJ s λs=>some (.ops o r ks s)
 | some j=>some j
 | none=>match c with
  | .code (.region i ops true) ks s=>match VG P (S1 p.S) p.Sp ops s with
   | some l=>some (.out .normal ks l)
   | none=>match Uj (S1 p.S) ops ops.toList s.e s.h s.n with
    | some id=>match hget s.h id with
     | some (.arr g _ _ q)=>some (.code (.region i ops true) ks (LE id g q s))
     | _=>none
    | none=>none
  | _=>none
def Vp(P:Program)(p:Lv)(c:Df):Option Df:=match c with
 | .ops ops (o::rest) ks s=>match Wt p ops o rest ks s with
  | some j=>some j
  | none=>R0 P p c
 | c=>R0 P p c
theorem sV{S}{u}{Q}(w:P.follows .mixedOrders=true)(A:JQ P S)(q:Kv P u){ops}{s s'}{id}(j:VG P S u ops s=some s')(hc:Q .normal s'):AW P (.region id ops true) Q s:=by
 unfold VG at j
 split at j
 ·rename_i L B _
  split at j
  ·rename_i hB
   split at j
   ·rename_i C E l
    cases j
    exact vY A q L B w hB l hc
   ·cases j
  ·cases j
 ·cases j
theorem fX{p}{Q}(l:P.follows .mixedOrders=true)(hp:L6 P p){c q}(h:R0 P p c=some q)(hc:Dc P Q q):Dc P Q c:=by
 unfold R0 at h
 split at h
 ·rename_i o r ks s j;rw[s4] at h;cases h;exact ij l j hc
 ·rename_i w _ j;cases h;exact ij l j hc
 ·split at h
  ·split at h
   ·rename_i A j;cases h;exact sV l (kz hp.S) hp.Sp j hc
   ·split at h
    ·split at h
     ·rename_i u;cases h;exact AW.weak (Ul u) hc
     ·cases h
    ·cases h
  ·cases h
theorem me{p}{Q}(j:P.follows .mixedOrders=true)(hp:L6 P p){c l}(h:Vp P p c=some l)(hc:Dc P Q l):Dc P Q c:=by
 unfold Vp at h
 split at h
 ·split at h
  ·rename_i u q;cases h;exact lj hp q hc
  ·exact fX j hp h hc
 ·exact fX j hp h hc
def runX(P:Program)(F:List Nat)(p:Lv):Nat→Df→Df
 | 0,c=>c
 | n+1,c=>match Vp P p (TH F (TH F c)) with
  | some j=>runX P F p n j
  | none=>c
theorem Pp{F}{p}{Q}(j:P.follows .mixedOrders=true)(hp:L6 P p):∀ {n:Nat} {c:Df},Dc P Q (runX P F p n c)→Dc P Q c
 | 0,c,h=>h
 | n+1,c,h=>by
  unfold runX at h
  split at h
  ·rename_i q l;exact bL (bL (me j hp l (Pp j hp h)))
  ·exact h
def TG(P:Program):HJ:=λR h n o=>match Lj P R h o with
 | some v=>some (v,h,n)
 | none=>Rf P R h n o
theorem fc:JQ P (TG P):=by
 intro R h n o r j
 unfold TG at j
 split at j
 ·rename_i v l;cases j;exact(Lm (c:=true) l).spec _
 ·exact Xa j
def X9(P:Program)(F:List Nat)(p:Lv)(R:Ab)(h:AS)(n:Nat)(o:Oper):Option (AV × AS × Nat):=match o.op with
 | .call ⟨.value q,l,_⟩=>match A6 R q with
  | .fn f j=>match P.funcs[f]? with
   | some fn=>match fn.body with
    | some code => if (fn.name == "runtime.NumGoroutine") = false ∧ Nat.ble (l.toList.map (A6 R) ++ j).length fn.ntmps = true then
      HZ (l.toList.map (A6 R)++j) λu=>DO n λn=>UX h λh=>
      match runX P F p 1000000 (.code code [] ⟨Db 0 u,h,n,fn.ntmps⟩) with
      | .out .ret [] s=>match Kg P s fn.results.toList with
       | some r=>some (r,s.h,s.n)
       | none=>none
      | .out .normal [] s=>match Kg P s fn.results.toList with
       | some r=>some (r,s.h,s.n)
       | none=>none
      | _=>none
     else none
    | none=>none
   | none=>none
  | _=>none
 | _=>none
theorem ti{F}{p}(U:P.follows .mixedOrders=true)(hp:L6 P p){R}{h}{n}{o}{r}(j:X9 P F p R h n o=some r):BV P true o R h n r.1 r.2.1 r.2.2:=by
 unfold X9 at j
 split at j
 ·rename_i V X Z ho
  split at j
  ·rename_i f q I
   split at j
   ·rename_i fn hf
    split at j
    ·rename_i code hb
     split at j
     ·rename_i Y
      rw[L5,Dp,gz] at j
      have B:Ev true R V (.fn f q):=by rw[← I];exact Be true R V
      have C:∀(v:AV) (J:AS) (M:Nat),AW P code (HF P fn.results.toList λr w A=>r=v∧w=J∧A=M) ⟨Db 0 (X.toList.map (A6 R)++q),h,n,fn.ntmps⟩→BV P true o R h n v J M:=by
       intro v J M hw hc z a O hH hn he K Q hK
       refine Se ho B (Li true R X.toList) hf hb Y.1 rfl (wx Y.2) O hH hn he hw K Q λu y r w A k1 k2 k3 k4 k5 ⟨e1,e2,e3⟩=>?_
       subst e1;subst e2;subst e3
       exact hK u y k1 k2 k3 k4 k5
      split at j
      ·rename_i s T
       split at j
       ·rename_i E l;cases j
        refine C _ _ _ (Pp (F:=F) (Q:=HF P fn.results.toList λr w A=>r=E∧w=s.h∧A=s.n) (c:=.code code [] _) (n:=1000000) U hp ?_)
        rw[T];exact⟨E,Pw l,rfl,rfl,rfl⟩
       ·cases j
      ·rename_i s T
       split at j
       ·rename_i E l;cases j
        refine C _ _ _ (Pp (F:=F) (Q:=HF P fn.results.toList λr w A=>r=E∧w=s.h∧A=s.n) (c:=.code code [] _) (n:=1000000) U hp ?_)
        rw[T];exact⟨E,Pw l,rfl,rfl,rfl⟩
       ·cases j
      ·cases j
     ·cases j
    ·cases j
   ·cases j
  ·cases j
 ·cases j
def NG(h:AS):List AV→Option (List AV)
 | []=>some []
 | a::l=>match (match a with
   | .own id g=>match hget h id with
    | some (.arr j _ _ q)=>if j=g then some (.r (.sl q)) else none
    | _=>none
   | a=>match a.closed with
    | true=>some a
    | false=>none),NG h l with
  | some b,some m=>some (b::m)
  | _,_=>none
def Kn(h:AS)(a:AV):Option AV:=match a with
 | .own id g=>match hget h id with
  | some (.arr j _ _ l)=>if j=g then some (.r (.sl l)) else none
  | _=>none
 | .agg q=>(NG h q).map .agg
 | a=>match a.closed with
  | true=>some a
  | false=>none
theorem e9{h} : ∀ {cs ds:List AV},NG h cs=some ds→QQ h cs ds
 | [],ds,q=>by cases q;trivial
 | a::l,ds,q=>by
  unfold NG at q
  split at q
  ·rename_i b m j u
   cases q
   refine⟨?_,e9 u⟩
   split at j
   ·split at j
    ·rename_i w
     split at j
     ·rename_i hg;subst hg;cases j;exact .own w
     ·cases j
    ·cases j
   ·split at j
    ·rename_i A;cases j;exact .closed _ A
    ·cases j
  ·cases q
theorem T5{h}{a b}(j:Kn h a=some b):Fz h a b:=by
 unfold Kn at j
 split at j
 ·split at j
  ·rename_i l
   split at j
   ·rename_i hg;subst hg;cases j;exact .one (.own l)
   ·cases j
  ·cases j
 ·rw[wW] at j
  obtain⟨w,q,rfl⟩:=j
  exact .agg (e9 q)
 ·split at j
  ·rename_i u;cases j;exact .one (.closed _ u)
  ·cases j
def OJ(R:Ab)(h:AS):List Operand→Option (List AV)
 | []=>some []
 | x::j=>match Kn h (A6 R x),OJ R h j with
  | some b,some l=>some (b::l)
  | _,_=>none
theorem gj{R}{h} : ∀ {xs:List Operand} {bs:List AV},OJ R h xs=some bs→Hw true R h xs bs
 | [],bs,j=>by cases j;trivial
 | x::xs,bs,j=>by
  unfold OJ at j
  split at j
  ·rename_i b l q u
   cases j
   exact⟨⟨_,Be true R x,T5 q⟩,gj u⟩
  ·cases j
theorem iG{R} : ∀(xs:List Operand),Du (xs.map (A6 R))=true→PU true R xs (xs.map (A6 R))
 | [],_=>trivial
 | x::xs,h=>by
  simp only[wS,Du,v7] at h
  exact⟨.inl ⟨Be true R x,h.1⟩,iG xs h.2⟩
def UA(P:Program)(s:St):ResultVar→Option AV
 | .tmp t=>Kn s.h (get s.e t)
 | .cell a t=>match get s.e a with
  | .ptr id g 0 0=>match hget s.h id with
   | some (.box l _ j)=>if l=g then match KP P t with
     | true=>match j with
      | [r]=>Kn s.h r
      | _=>none
     | false=>match Ky P t with
      | some sz=>if j.length=sz then Kn s.h (.agg j) else none
      | none=>none
    else none
   | _=>none
  | _=>none
theorem Z1{s}{x}{r}(h:UA P s x=some r):D3 P s x r:=by
 unfold UA at h
 split at h
 ·exact T5 h
 ·split at h
  ·rename_i id g hp
   split at h
   ·rename_i w e A j
    split at h
    ·rename_i hg;subst hg
     split at h
     ·rename_i l
      split at h
      ·exact .inl ⟨id,_,_,_,Oy l,hp,j,T5 h⟩
      ·cases h
     ·split at h
      ·rename_i sz q
       split at h
       ·rename_i u;exact .inr ⟨sz,id,_,_,_,Qf q,hp,j,u,T5 h⟩
       ·cases h
      ·cases h
    ·cases h
   ·cases h
  ·cases h
def T4(P:Program)(s:St):List ResultVar→Option (List AV)
 | []=>some []
 | x::l=>match UA P s x,T4 P s l with
  | some r,some j=>some (r::j)
  | _,_=>none
theorem f5{s} : ∀ {l:List ResultVar} {j:List AV},T4 P s l=some j→Mp (D3 P s) l j
 | [],j,h=>by cases h;trivial
 | x::l,j,h=>by
  unfold T4 at h
  split at h
  ·rename_i r q u w;cases h;exact⟨Z1 u,f5 w⟩
  ·cases h
def R7(P:Program)(s:St)(l:List ResultVar):Option AV:=match l with
 | [x]=>UA P s x
 | l=>(T4 P s l).map .tup
theorem Yg{s}{l}{r}(h:R7 P s l=some r):MY (D3 P s) l r:=by
 unfold R7 at h
 split at h
 ·exact Z1 h
 ·rename_i A j
  rw[wW] at h
  obtain⟨q,u,rfl⟩:=h
  have w:=f5 u
  unfold MY
  split
  ·rename_i x;exact absurd rfl (j x)
  ·exact⟨q,rfl,w⟩
def X3(P:Program)(j:List ResultVar):Df→Option AV
 | .out .ret [] s=>R7 P s j
 | .out .normal [] s=>R7 P s j
 | _=>none
theorem uJ{j}{c}{r}(h:X3 P j c=some r):Dc P (Fq P j r) c:=by
 unfold X3 at h
 split at h
 ·exact Yg h
 ·exact Yg h
 ·cases h
def S9(P:Program)(F X:List Nat)(p:Lv)(R:Ab)(h:AS)(o:Oper):Option AV:=match o.op with
 | .call ⟨.value u,q,_⟩=>match A6 R u with
  | .fn f j=>match X.any (Nat.beq f) with
   | true=>none
   | false=>match Du j,OJ R h q.toList with
    | true,some l=>match P.funcs[f]? with
     | some fn=>match fn.body with
      | some code => if (fn.name == "runtime.NumGoroutine") = false ∧ Nat.ble (l ++ j).length fn.ntmps = true ∧ Du (l ++ j) = true then
        HZ (l++j) λw=>
        match X3 P fn.results.toList (runX P F p 1000000 (.code code [] ⟨Db 0 w,[],0,fn.ntmps⟩)) with
        | some r=>FK r λr=>if r.closed=true∧(r.flat=true∨Du (q.toList.map (A6 R))=true) then some r else none
        | none=>none
       else none
      | none=>none
     | none=>none
    | _,_=>none
  | _=>none
 | _=>none
theorem gW{R}{h} : ∀ {xs:List Operand} {bs:List AV},OJ R h xs=some bs→Du (xs.map (A6 R))=true→bs=xs.map (A6 R)
 | [],bs,j,_=>by cases j;rfl
 | x::xs,bs,j,A=>by
  unfold OJ at j
  simp only[wS,Du,v7] at A
  split at j
  ·rename_i b F q I
   cases j
   rw[wS,gW I A.2]
   congr 1
   unfold Kn at q
   split at q
   ·rename_i E;rw[E] at A;cases A.1
   ·rename_i u E
    rw[wW] at q
    obtain⟨B,J,rfl⟩:=q
    rw[E] at A ⊢
    have:∀(u B:List AV),Du u=true→NG h u=some B→B=u:=by
     intro u
     induction u with
     | nil=>intro B _ j;cases j;rfl
     | cons a l M=>
      intro B w j
      simp only[Du,v7] at w
      unfold NG at j
      split at j
      ·rename_i b m C O
       cases j
       rw[M m w.2 O]
       congr 1
       split at C
       ·cases w.1
       ·split at C
        ·cases C;rfl
        ·cases C
      ·cases j
    rw[this u B A.1 J]
   ·split at q
    ·cases q;rfl
    ·cases q
  ·cases j
theorem fF{F X}{p}(U:P.follows .mixedOrders=true)(hp:L6 P p):Kv P (S9 P F X p):=by
 intro R h o v j n
 unfold S9 at j
 split at j
 ·rename_i M V Y O
  split at j
  ·rename_i f u E
   split at j
   ·cases j
   ·split at j
    ·rename_i I l q
     split at j
     ·rename_i fn Z
      split at j
      ·rename_i code hb
       split at j
       ·rename_i J
        rw[L5] at j
        split at j
        ·rename_i r B
         rw[dT] at j
         split at j
         ·rename_i T
          cases j
          have w:Ev true R M (.fn f u):=by rw[← E];exact Be true R M
          have A:AO P f (I++u) v:=ir Z hb J.1 rfl T.1 J.2.2 (wx J.2.1) (Pp (F:=F) (Q:=Fq P fn.results.toList v) U hp (uJ B))
          rcases T.2 with C | C
          ·exact ER O w l (gj q) (λ_=>A) C
          ·refine CB O w l (iG V.toList C) (λ_=>?_)
           rw[← gW q C];exact A
         ·cases j
        ·cases j
       ·cases j
      ·cases j
     ·cases j
    ·cases j
  ·cases j
 ·cases j
def X7(P:Program)(T:List (FuncId × Bool)):Prop:=∀p∈T,AO P p.1 [] (.r (.bool p.2))
def Su(T:List (FuncId × Bool))(R:Ab)(o:Oper):Option AV:=match o.op with
 | .call ⟨.value j,⟨[]⟩,_⟩=>match A6 R j with
  | .fn f []=>match T.find? (λp=>Nat.beq p.1 f) with
   | some p=>some (.r (.bool p.2))
   | none=>none
  | _=>none
 | _=>none
theorem gA{T}(A:X7 P T){R}{h}{n}{o}{r}(j:Su T R o=some r):BV P true o R h n r h n:=by
 unfold Su at j
 split at j
 ·rename_i u B C
  split at j
  ·rename_i f q
   split at j
   ·rename_i p hp
    cases j
    have E:=List.mem_of_find?_eq_some hp
    have F:p.1=f:=wI (by have:=List.find?_some hp;exact this)
    have l:Ev true R u (.fn f []):=by rw[← q];exact Be true R u
    have w:=A p E
    rw[F] at w
    exact ER (caps:=[]) (bs:=[]) C l rfl trivial (λ_=>w) rfl
   ·cases j
  ·cases j
 ·cases j
def LA(P:Program)(T:List (FuncId × Bool))(F X:List Nat):Nat→Lv
  | 0 => ⟨TG P, λ_ _ _ => none⟩
  | l+1 =>
    ⟨λR h n o => match TG P R h n o with
      | some r => some r
      | none => match Su T R o with
        | some v => some (v, h, n)
        | none => match S9 P F X (LA P T F X l) R h o with
          | some v => some (v, h, n)
          | none => X9 P F (LA P T F X l) R h n o,
     λR h o => match Su T R o with
      | some v => some v
      | none => S9 P F X (LA P T F X l) R h o⟩
theorem gk{T}{F X}(u:P.follows .mixedOrders=true)(w:X7 P T):∀l:Nat,L6 P (LA P T F X l)
 | 0=>⟨fc,λR h o v j=>by cases j⟩
 | l+1=>by
  have A:=gk u w l (F:=F) (X:=X)
  refine⟨λR h n o r j=>?_,λR h o v j n=>?_⟩
  ·unfold LA at j
   dsimp only at j
   split at j
   ·rename_i B q;cases j;exact fc R h n o _ q
   ·split at j
    ·rename_i v q;cases j;exact gA w q
    ·split at j
     ·rename_i v q;cases j;exact fF u A _ _ _ _ q _
     ·exact ti u A j
  ·unfold LA at j
   dsimp only at j
   split at j
   ·rename_i C q;cases j;exact gA w q
   ·exact fF u A _ _ _ _ j _
theorem AO.runX {f} {fn : Func} {code} {N} {b} (T : List (FuncId × Bool)) (u : X7 P T) (F X : List Nat) (l n : Nat) (q : P.follows .mixedOrders = true) (w : P.funcs[f]? = some fn) (A : fn.body = some code) (j : (fn.name == "runtime.NumGoroutine") = false) (B : fn.ntmps = N)
 (C:Uv fn.results.toList (Al.runX P F (LA P T F X l) n (.code code [] ⟨[], [], 0, N⟩))=some b):AO P f [] (.r (.bool b)) :=
  ir w A j B rfl rfl (yS _) (Pp (F := F) (Q := Fq P fn.results.toList (.r (.bool b))) q (gk q u l) (m8 C))
end
theorem iL{α:Sort _}{x:α}{p:Prop} : x=x∨p:=.inl rfl
section
variable{P:Program}{ops:Array Oper}{rest:List Oper}{s:St}{K:St→Prop}{o:Oper}
theorem sQ{d}{v}(hg:(o.guard, o.dst, Nat.blt d s.N)=(none, some d, true))(j:AU P true o s.e s.h v)
 (l:AN P ops rest { e := (d, v)::s.e, h := s.h, n := s.n, N := s.N } K):AN P ops (o::rest) s K :=
  AN.step (xy hg).1 (xy (xy hg).2).1 (xy (xy hg).2).2 (AU.spec j _) l
end
theorem jL{α:Sort _}{x:α}{p q:Prop} : (x=x∨p)∨q:=.inl (.inl rfl)
theorem iR{c}{R}{x}{v}(h:BR R x=.whn c v):Ev c R x v:=.inr ⟨c,id,h⟩
theorem nL{n:Nat} : n≤n:=wL n
theorem fR{α β:Sort _}{x:β}(_:α):x=x:=rfl
section
variable{P:Program}{ops:Array Oper}{rest:List Oper}{s:St}{K:St→Prop}{o:Oper}
theorem sA{d}{x}(hg:(o.guard, o.dst, Nat.blt d s.N)=(none, some d, true))(j:o.op=.assign x)
 (l:AN P ops rest { e := (d, BR s.e x)::s.e, h := s.h, n := s.n, N := s.N } K):AN P ops (o::rest) s K := sQ hg (Do j (.inl rfl)) l
theorem aZ(h:K s):AN P ops [] s K:=AN.nil h
end
section
variable{P:Program}{Q:Exit→St→Prop}{s:St}{x y:Code}
theorem aS(h:∀K:St→Prop,(∀s,AW P y Q s→K s)→(∀s j,Ak s j→K j→K s)→AW P x (FQ K Q) s):AW P (.seq x y) Q s:=vC h
theorem aR{id}{l:List Oper}(h:AN P l.toArray l s (Q .normal)):AW P (.region id l.toArray false) Q s:=AW.region h
theorem aC{c}{b}(hc:BR s.e c=.r (.bool b))(j:b=true→AW P x Q s)(l:b=false→AW P y Q s):AW P (.cond c x y) Q s:=AW.cond hc j l
end
theorem fB{P}{c}{o:Oper}{R}{h}{t}{x}{f off}{id g j i k}{e}{cs}(l:o.op=.fieldAddr t x f)(q:AY P t f off)(u:Ev c R x (.ptr id g i k))(w:c=true→hget h id=some (.box j e cs))
 (hg:j=g):AU P c o R h (.ptr id g i (k+off)) := Fg (ob := .box j e cs) l q u w hg
@[reducible] def rI(k:Int):AV:=.r (.int .i64 k)
@[reducible] def rB(b:Bool):AV:=.r (.bool b)
theorem oQ{P}{ops}{s:St}{L}{i}{p:PO}{o:Oper}(j:(Nat→Nat)→Ab)(l:(Nat→Nat)→AS)
 (u:∀D G, Bf ops D i→Fi (CW D G s.e L) (j G)) (w:∀D G, Bf ops D i→Fk (Dh D G s.h L) (l G)) (h:∀G e q, AU P true o (j G++e) (l G++q) (p.v G))
 (hg:o.guard=none := by rfl) (hd:o.dst=p.d := by rfl) (A:∀d, p.d=some d→Nat.blt d s.N=true := by intro d h;cases h;rfl) (hp:p.hp=none := by rfl) (B:∀G n, p.v (C1 G i n)=p.v G := by intros;rfl):Ob P ops s L i p o :=
  Uo (n1 := λn => n) hg hd A hp j l u w B λG e q _ => AU.spec (h G e q) _
@[reducible] def cZ:AV:=.cst (.slice none 0 0)
inductive Cc(e:Ab):List Nat→Ab→Prop
 | nil:Cc e [] []
 | cons {k:Nat} {ks:List Nat} {v:AV} {r:Ab} (h:get e k=v) (t:Cc e ks r):Cc e (k::ks) ((k,v)::r)
inductive Fb(e:AS):List Nat→AS→Prop
 | nil:Fb e [] []
 | cons {k:Nat} {ks:List Nat} {v:A9} {r:AS} (h:hget e k=some v) (t:Fb e ks r):Fb e (k::ks) ((k,some v)::r)
theorem Cc.cv{e}{ks}{e'}(h:Cc e ks e'):RA e' e:=by
 induction h with
 | nil=>trivial
 | cons h _ j=>exact⟨.inl (.inl h),j⟩
theorem Fb.cv{e}{ks}{e'}(h:Fb e ks e'):QR e' e:=by
 induction h with
 | nil=>trivial
 | cons h _ j=>exact⟨.inl h,j⟩
section
variable{e:Ab}{k:Nat}{ks:List Nat}{r:Ab}
theorem kR{d}(t:Cc e ks r)(h:get e k=.r d):Cc e (k::ks) ((k,.r d)::r):=.cons h t
theorem kP{a b c d}(t:Cc e ks r)(h:get e k=.ptr a b c d):Cc e (k::ks) ((k,.ptr a b c d)::r):=.cons h t
theorem kO{a b}(t:Cc e ks r)(h:get e k=.own a b):Cc e (k::ks) ((k,.own a b)::r):=.cons h t
theorem kA{d}(t:Cc e ks r)(h:get e k=.agg d):Cc e (k::ks) ((k,.agg d)::r):=.cons h t
theorem kC{d}(t:Cc e ks r)(h:get e k=.cst d):Cc e (k::ks) ((k,.cst d)::r):=.cons h t
theorem kT{d}(t:Cc e ks r)(h:get e k=.tup d):Cc e (k::ks) ((k,.tup d)::r):=.cons h t
theorem kF{f}{d}(t:Cc e ks r)(h:get e k=.fn f d):Cc e (k::ks) ((k,.fn f d)::r):=.cons h t
theorem kQ{d}{i}(t:Cc e ks r)(h:get e k=.rop d i):Cc e (k::ks) ((k,.rop d i)::r):=.cons h t
theorem kM{a b}(t:Cc e ks r)(h:get e k=.mref a b):Cc e (k::ks) ((k,.mref a b)::r):=.cons h t
theorem kW{b}{v}(t:Cc e ks r)(h:get e k=.whn b v):Cc e (k::ks) ((k,.whn b v)::r):=.cons h t
theorem kL{xs}(t:Cc e ks r)(h:get e k=.full xs):Cc e (k::ks) ((k,.full xs)::r):=.cons h t
end
section
variable{e:AS}{k:Nat}{ks:List Nat}{r:AS}
theorem hB{g}{t}{cs}(t1:Fb e ks r)(h:hget e k=some (.box g t cs)):Fb e (k::ks) ((k,some (.box g t cs))::r):=.cons h t1
theorem hA{g}{t}{sz}{xs}(t1:Fb e ks r)(h:hget e k=some (.arr g t sz xs)):Fb e (k::ks) ((k,some (.arr g t sz xs))::r):=.cons h t1
theorem hC{o}(t1:Fb e ks r)(h:hget e k=some o):Fb e (k::ks) ((k,some o)::r):=.cons h t1
end
section
variable{P:Program}{Q:Exit→St→Prop}{x y:Code}
theorem aF{e:Ab}{h:AS}{n N:Nat}(ks:List Nat){e':Ab}(hr:AW P x Q ⟨e',[],n,N⟩)
  (he:Cc e ks e':=by repeat' first | exact Cc.nil | apply kR _ rfl | apply kP _ rfl | apply kA _ rfl | apply kO _ rfl | apply kC _ rfl | apply kT _ rfl | apply kF _ rfl | apply kQ _ rfl | apply kM _ rfl | apply kW _ rfl | apply kL _ rfl):AW P x Q ⟨e,h,n,N⟩:=
 AW.weak (Ak.cv (h':=[]) he.cv trivial (wL _)) hr
theorem aG{e:Ab}{h:AS}{n N:Nat}(ks js:List Nat){e':Ab}{h':AS}(hr:AW P x Q ⟨e',h',n,N⟩)
  (he:Cc e ks e':=by repeat' first | exact Cc.nil | apply kR _ rfl | apply kP _ rfl | apply kA _ rfl | apply kO _ rfl | apply kC _ rfl | apply kT _ rfl | apply kF _ rfl | apply kQ _ rfl | apply kM _ rfl | apply kW _ rfl | apply kL _ rfl)
  (hh:Fb h js h':=by repeat' first | exact Fb.nil | apply hB _ rfl | apply hA _ rfl | apply hC _ rfl):AW P x Q ⟨e,h,n,N⟩:=
 AW.weak (Ak.cv he.cv hh.cv (wL _)) hr
end
section
variable{P:Program}{ops:Array Oper}{rest:List Oper}{K:St→Prop}{o o2:Oper}{e:Ab}{h:AS}{n N:Nat}
theorem A7(ks js:List Nat){e':Ab}{h':AS}(hr:AN P ops rest ⟨e',h',n,N⟩ K)
  (he:Cc e ks e':=by repeat' first | exact Cc.nil | apply kR _ rfl | apply kP _ rfl | apply kA _ rfl | apply kO _ rfl | apply kC _ rfl | apply kT _ rfl | apply kF _ rfl | apply kQ _ rfl | apply kM _ rfl | apply kW _ rfl | apply kL _ rfl)
  (hh:Fb h js h':=by repeat' first | exact Fb.nil | apply hB _ rfl | apply hA _ rfl | apply hC _ rfl):AN P ops rest ⟨e,h,n,N⟩ K:=
 AN.weak (Ak.cv he.cv hh.cv (wL _)) hr
end
section
variable{P:Program}{ops:Array Oper}{rest:List Oper}{K:St→Prop}{o o2:Oper}{s:St}
theorem vQ{d j q}{l b}{v}(hg:(o.guard, o.dst, Nat.blt d s.N, (ops[j]?).bind (·.dst), BR s.e (.tmp q))=(some (j, l), some d, true, some q, .r (.bool b)))(u:AU P (b==l) o s.e s.h v)
 (w:AN P ops rest { e := (d, .whn (b==l) v)::s.e, h := s.h, n := s.n, N := s.N } K):AN P ops (o::rest) s K := by
  simp only[wV] at hg
  obtain⟨A, B, C, E, F⟩ := hg
  exact AN.stepW (.one A E F) B C (AU.spec u _) w
theorem wQ{d j u}{l b q}{v}(hg:(o.guard, o.dst, Nat.blt d s.N, (ops[j]?).bind (·.dst), BR s.e (.tmp u))=(some (j, l), some d, true, some u, .whn q (.r (.bool b))))(w:AU P (q&&(b==l)) o s.e s.h v)
 (A:AN P ops rest { e := (d, .whn (q&&(b==l)) v)::s.e, h := s.h, n := s.n, N := s.N } K):AN P ops (o::rest) s K := by
  simp only[wV] at hg
  obtain⟨B, C, E, F, I⟩ := hg
  exact AN.stepW (.two B F I) C E (AU.spec w _) A
theorem qP{d}{v}(hg:(o.guard, o.dst, Nat.blt d s.N)=(none, some d, true))(j:AU P true o s.e s.h v)
 (l:AQ P ops rest { e := (d, v)::s.e, h := s.h, n := s.n, N := s.N } K):AQ P ops (o::rest) s K :=
  AQ.step (xy hg).1 (xy (xy hg).2).1 (xy (xy hg).2).2 j l
theorem qO{d j q}{l b}{v}(hg:(o.guard, o.dst, Nat.blt d s.N, (ops[j]?).bind (·.dst), BR s.e (.tmp q))=(some (j, l), some d, true, some q, .r (.bool b)))(u:AU P (b==l) o s.e s.h v)
 (w:AQ P ops rest { e := (d, .whn (b==l) v)::s.e, h := s.h, n := s.n, N := s.N } K):AQ P ops (o::rest) s K := by
  simp only[wV] at hg
  obtain⟨A, B, C, E, F⟩ := hg
  exact AQ.stepW (.one A E F) B C u w
theorem qT{d j u}{l b q}{v}(hg:(o.guard, o.dst, Nat.blt d s.N, (ops[j]?).bind (·.dst), BR s.e (.tmp u))=(some (j, l), some d, true, some u, .whn q (.r (.bool b))))(w:AU P (q&&(b==l)) o s.e s.h v)
 (A:AQ P ops rest { e := (d, .whn (q&&(b==l)) v)::s.e, h := s.h, n := s.n, N := s.N } K):AQ P ops (o::rest) s K := by
  simp only[wV] at hg
  obtain⟨B, C, E, F, I⟩ := hg
  exact AQ.stepW (.two B F I) C E w A
theorem sS{d}{v}{h'}{j}(hg:(o.guard, o.dst, Nat.blt d s.N)=(none, some d, true))(l:BV P true o s.e s.h s.n v h' j)
 (q:AN P ops rest { e := (d, v)::s.e, h := h', n := j, N := s.N } K):AN P ops (o::rest) s K :=
  AN.step (xy hg).1 (xy (xy hg).2).1 (xy (xy hg).2).2 l q
theorem lF{t t2}{x y}{f off id g i k d1 d2 j q u}{e1 e2}{cs l}{a}(B:AY P t f off)(C:Bh P t2)
 (w:(o.guard, o.dst, Nat.blt d1 s.N, o.op, BR s.e x, hget s.h id)=(none, some d1, true, .fieldAddr t x f, .ptr id g i k, some (.box g e1 cs)))
 (A:(o2.guard, o2.dst, Nat.blt d2 s.N, o2.op, BR ((d1, .ptr id g i (k+off))::s.e) y, hget s.h j, l[u]?)=(none, some d2, true, .load t2 y, .ptr j q 0 u, some (.box q e2 l), some a))
 (E:AN P ops rest { e := (d2, a)::(d1, .ptr id g i (k+off))::s.e, h := s.h, n := s.n, N := s.N } K):AN P ops (o::o2::rest) s K := by
  simp only[wV] at w A
  obtain⟨F, I, a3, a4, a5, J⟩ := w
  obtain⟨M, O, T, U, V, X, Y⟩ := A
  exact AN.step F I a3 (AU.spec (Fg (ob := .box g e1 cs) a4 B (.inl a5) (λ_ => J) rfl) _) (AN.step M O T (AU.spec (AZ U C (.inl V) X Y) _) E)
theorem vF{t t2}{x y}{f off id g i k d1 d2 l C E j F I q}{w b B u}{e1 e2}{cs A}{a}(O:AY P t f off)(T:Bh P t2)
 (J:(o.guard, o.dst, Nat.blt d1 s.N, (ops[j]?).bind (·.dst), BR s.e (.tmp F), o.op, BR s.e x, hget s.h id)=(some (j, w), some d1, true, some F, .r (.bool b), .fieldAddr t x f, .ptr id g i k, some (.box g e1 cs)))
 (M:(o2.guard, o2.dst, Nat.blt d2 s.N, (ops[I]?).bind (·.dst), BR ((d1, .whn (b==w) (.ptr id g i (k+off)))::s.e) (.tmp q), o2.op, BR ((d1, .whn (b==w) (.ptr id g i (k+off)))::s.e) y, hget s.h l, A[E]?)=(some (I, B), some d2, true, some q, .r (.bool u), .load t2 y, .whn (u==B) (.ptr l C 0 E), some (.box C e2 A), some a))
 (U:AN P ops rest { e := (d2, .whn (u==B) a)::(d1, .whn (b==w) (.ptr id g i (k+off)))::s.e, h := s.h, n := s.n, N := s.N } K):AN P ops (o::o2::rest) s K := by
  simp only[wV] at J M
  obtain⟨V, X, a3, a4, a5, Y, Z, a8⟩ := J
  obtain⟨b1, u, b3, b4, b5, b6, b7, b8, b9⟩ := M
  exact AN.stepW (.one V a4 a5) X a3 (AU.spec (Fg (ob := .box g e1 cs) Y O (.inl Z) (λ_ => a8) rfl) _) (AN.stepW (.one b1 b4 b5) u b3 (AU.spec (AZ b6 T (iR b7) b8 b9) _) U)
end
def AV.isR:AV→Bool
 | .r _=>true
 | _=>false
theorem mr{l:List AV}(h:l.all AV.isR=true):∃cs:List RV,l=cs.map .r:=by
 induction l with
 | nil=>exact⟨[],rfl⟩
 | cons a l j=>
  rw[zH,v7] at h
  obtain⟨cs,rfl⟩:=j h.2
  cases a with
  | r d=>exact⟨d::cs,rfl⟩
  | _=>exact Bool.noConfusion h.1
theorem Fz.g2{h}{a}{ds:List AV}(e:a=.agg ds)(e2:ds.all AV.isR=true):Fz h a (.agg ds):=by
 obtain⟨l,j⟩:=mr e2
 exact .g e j
section
variable{P:Program}{ops:Array Oper}{rest:List Oper}{K:St→Prop}{o:Oper}{s:St}
theorem cL{d:Nat}{f:FuncId}{fo:Operand}{xs:Array Operand}{ats:Array TypeId}{bs:List AV}{r:AV}(hq:AO P f bs r)
  (hg:(o.guard,o.dst,Nat.blt d s.N,o.op,BR s.e fo,r.flat)=(none,some d,true,.call { callee:=.value fo,args:=xs,argTypes:=ats },.fn f [],true))
  (hr:AN P ops rest { e:=(d,r)::s.e,h:=s.h,n:=s.n,N:=s.N } K)
  (hx:Hw true s.e s.h xs.toList bs:=by repeat' first | exact trivial | refine⟨⟨_,iL,.d rfl⟩,?_⟩ | refine⟨⟨_,iL,.g2 rfl rfl⟩,?_⟩ | refine⟨⟨_,iL,.one (.own rfl)⟩,?_⟩ | refine⟨⟨_,iR rfl,.d rfl⟩,?_⟩ | refine⟨⟨_,iR rfl,.g2 rfl rfl⟩,?_⟩):AN P ops (o::rest) s K:=by
 simp only[wV] at hg
 obtain⟨h1,h2,h3,h4,h5,h6⟩:=hg
 exact AN.step h1 h2 h3 (ER (caps:=[]) h4 (.inl h5) rfl hx (λ_=>by rw[wR];exact hq) h6) hr
theorem vL{d j dj:Nat}{want b:Bool}{f:FuncId}{fo:Operand}{xs:Array Operand}{ats:Array TypeId}{bs:List AV}{r:AV}(hq:(b==want)=true→AO P f bs r)
  (hg:(o.guard,o.dst,Nat.blt d s.N,(ops[j]?).bind (·.dst),BR s.e (.tmp dj),o.op,BR s.e fo,r.flat)=(some (j,want),some d,true,some dj,.r (.bool b),.call { callee:=.value fo,args:=xs,argTypes:=ats },.fn f [],true))
  (hr:AN P ops rest { e:=(d,.whn (b==want) r)::s.e,h:=s.h,n:=s.n,N:=s.N } K)
  (hx:Hw (b==want) s.e s.h xs.toList bs:=by repeat' first | exact trivial | refine⟨⟨_,iL,.d rfl⟩,?_⟩ | refine⟨⟨_,iL,.g2 rfl rfl⟩,?_⟩ | refine⟨⟨_,iL,.one (.own rfl)⟩,?_⟩ | refine⟨⟨_,iR rfl,.d rfl⟩,?_⟩ | refine⟨⟨_,iR rfl,.g2 rfl rfl⟩,?_⟩):AN P ops (o::rest) s K:=by
 simp only[wV] at hg
 obtain⟨h1,h2,h3,h4,h5,h6,h7,h8⟩:=hg
 exact AN.stepW (.one h1 h4 h5) h2 h3 (ER (caps:=[]) h6 (.inl h7) rfl hx (λhc=>by rw[wR];exact hq hc) h8) hr
end
section
variable{P:Program}{Q:Exit→St→Prop}{s:St}{x y:Code}
theorem aU{id}{l:List Oper}(h:AN P l.toArray l s λj=>AW P y Q j):AW P (.seq (.region id l.toArray false) y) Q s:=.seq (.region h)
theorem aT(h:∀ {K:St→Prop},(∀s,AW P y Q s→K s)→AW P x (FQ K Q) s):AW P (.seq x y) Q s:=va λ_ j=>h j
theorem cI{α:Type}{b:Bool}{c:Operand}{X Y Z:α}(hc:BR s.e c=.r (.bool b))(h:(if b=true then X else Y)=Z)(j:X=Z→AW P x Q s)(l:Y=Z→AW P y Q s):AW P (.cond c x y) Q s:=
 AW.cond hc (λe=>j (Br e h)) (λe=>l (Bt e h))
end
theorem mF{P:Program}{f}{fn:Func}{code}{args:List AV}{r:AV}{N}(l:P.funcs[f]?=some fn)(q:fn.ntmps=N)
 (j : (fn.body, fn.name == "runtime.NumGoroutine", r.closed, Nat.ble args.length N) = (some code, false, true, true)) (u : ∀ w, AW P code (Fq P fn.results.toList r) ⟨Db 0 args, [], w, N⟩) : AO P f args r := by
  simp only[wV] at j
  obtain⟨A, B, C, E⟩ := j
  exact vE l A B q C (wx E) u
theorem oZ{P}{ops}{s}{K}{y}{Q}(j:∀s,AW P y Q s→K s)(h:AW P y Q s):AN P ops [] s K:=AN.nil (j _ h)
def cH(t i:Nat):List PO→Nat→Option Nat→Option Nat
 | [],_,r=>r
 | p::L,k,r=>match Nat.blt k i with
  | true=>cH t i L (k+1) (match p.d with
   | some d=>(match Nat.beq d t with
    | true=>some k
    | false=>r)
   | none=>r)
  | false=>r
def hP(t i:Nat):List PO→Nat→Option Nat→Option Nat
 | [],_,r=>r
 | p::L,k,r=>match Nat.blt k i with
  | true=>hP t i L (k+1) (match p.hp with
   | some (d,_)=>(match Nat.beq d t with
    | true=>some k
    | false=>r)
   | none=>r)
  | false=>r
section
variable{P:Program}{ops:Array Oper}{s:St}{L:List PO}{i:Nat}{p:PO}{o:Oper}
theorem OB{D}{G}{e}{t j}(l:Bf ops D i)(_:cH t i L 0 none=some j){p:PO}{a}(q:L[j]?=some p)(hd:p.d=some t)(u:wt ops 40 i j=true)(hB:KK (L.drop (j+1)) t=true)(w:p.v G=a):get (CW D G e L) t=a:=PK l j q hd u hB w
theorem N3{D}{G}{h}{t j}(l:Bf ops D i)(_:hP t i L 0 none=some j){p:PO}{ob}{a}(q:L[j]?=some p)(hd:p.hp=some (t,ob))(u:wt ops 40 i j=true)(hB:OD ops i t (L.drop (j+1)) (j+1)=true)(w:ob G=a):hget (Dh D G h L) t=a:=mb l j q hd u hB w
theorem oB(ie:Ab)(ih:AS)(h:∀ {G e h'},AU P true o (ie++e) (ih++h') (p.v G))
  (hg:o.guard=none:=by rfl) (hd:o.dst=p.d:=by rfl) (hN:∀d,p.d=some d→Nat.blt d s.N=true:=by intro d h;cases h<;>rfl) (hp:p.hp=none:=by rfl) (hv:∀G n,p.v (C1 G i n)=p.v G:=by intros;rfl)
  (hE:∀D G,Bf ops D i→Fi (CW D G s.e L) ie:=by intro _ _ hr;repeat' first | exact trivial | refine⟨Mm rfl rfl,?_⟩ | refine⟨OB hr rfl rfl rfl (by kernel_rfl) rfl rfl,?_⟩ | refine⟨NZ hr (by kernel_rfl) rfl,?_⟩)
  (hH:∀D G,Bf ops D i→Fk (Dh D G s.h L) ih:=by intro _ _ hr;repeat' first | exact trivial | refine⟨Mw rfl rfl,?_⟩ | refine⟨N3 hr rfl rfl rfl (by kernel_rfl) (by kernel_rfl) rfl,?_⟩ | refine⟨JJ hr (by kernel_rfl) rfl,?_⟩):Ob P ops s L i p o:=
 Uo (n1:=λn=>n) hg hd hN hp (λ_=>ie) (λ_=>ih) hE hH hv λ_ _ _ _=>AU.spec h _
theorem oC(ie:(Nat→Nat)→Ab)(ih:(Nat→Nat)→AS)(h:∀G e h',AU P true o (ie G++e) (ih G++h') (p.v G))
  (hg:o.guard=none:=by rfl) (hd:o.dst=p.d:=by rfl) (hN:∀d,p.d=some d→Nat.blt d s.N=true:=by intro d h;cases h<;>rfl) (hp:p.hp=none:=by rfl) (hv:∀G n,p.v (C1 G i n)=p.v G:=by intros;rfl)
  (hE:∀D G,Bf ops D i→Fi (CW D G s.e L) (ie G):=by intro _ _ hr;repeat' first | exact trivial | refine⟨Mm rfl rfl,?_⟩ | refine⟨OB hr rfl rfl rfl (by kernel_rfl) rfl rfl,?_⟩ | refine⟨NZ hr (by kernel_rfl) rfl,?_⟩)
  (hH:∀D G,Bf ops D i→Fk (Dh D G s.h L) (ih G):=by intro _ _ hr;repeat' first | exact trivial | refine⟨Mw rfl rfl,?_⟩ | refine⟨N3 hr rfl rfl rfl (by kernel_rfl) (by kernel_rfl) rfl,?_⟩ | refine⟨JJ hr (by kernel_rfl) rfl,?_⟩):Ob P ops s L i p o:=
 Uo (n1:=λn=>n) hg hd hN hp ie ih hE hH hv λG e h' _=>AU.spec (h G e h') _
theorem oD(ie:(Nat→Nat)→Ab)(ih:(Nat→Nat)→AS){n1:Nat→Nat}(h:∀G e h' n,BV P true o (ie G++e) (ih G++h') n (p.v G) (ih G++h') (n1 n))
  (hg:o.guard=none:=by rfl) (hd:o.dst=p.d:=by rfl) (hN:∀d,p.d=some d→Nat.blt d s.N=true:=by intro d h;cases h<;>rfl) (hp:p.hp=none:=by rfl) (hv:∀G n,p.v (C1 G i n)=p.v G:=by intros;rfl)
  (hE:∀D G,Bf ops D i→Fi (CW D G s.e L) (ie G):=by intro _ _ hr;repeat' first | exact trivial | refine⟨Mm rfl rfl,?_⟩ | refine⟨OB hr rfl rfl rfl (by kernel_rfl) rfl rfl,?_⟩ | refine⟨NZ hr (by kernel_rfl) rfl,?_⟩)
  (hH:∀D G,Bf ops D i→Fk (Dh D G s.h L) (ih G):=by intro _ _ hr;repeat' first | exact trivial | refine⟨Mw rfl rfl,?_⟩ | refine⟨N3 hr rfl rfl rfl (by kernel_rfl) (by kernel_rfl) rfl,?_⟩ | refine⟨JJ hr (by kernel_rfl) rfl,?_⟩):Ob P ops s L i p o:=
 Uo hg hd hN hp ie ih hE hH hv h
theorem oG{c:Bool}{v0:(Nat→Nat)→AV}(ie:Ab)(ih:AS)(hv:∀G n,p.v (C1 G i n)=.whn c (v0 G))(h:∀ {G e h'},AU P c o (ie++e) (ih++h') (v0 G))
  (hd:o.dst=p.d:=by rfl) (hN:∀d,p.d=some d→Nat.blt d s.N=true:=by intro d h;cases h<;>rfl) (hp:p.hp=none:=by rfl)
  (hE:∀D G,Bf ops D i→Fi (CW D G s.e L) ie:=by intro _ _ hr;repeat' first | exact trivial | refine⟨Mm rfl rfl,?_⟩ | refine⟨OB hr rfl rfl rfl (by kernel_rfl) rfl rfl,?_⟩ | refine⟨NZ hr (by kernel_rfl) rfl,?_⟩)
  (hH:∀D G,Bf ops D i→Fk (Dh D G s.h L) ih:=by intro _ _ hr;repeat' first | exact trivial | refine⟨Mw rfl rfl,?_⟩ | refine⟨N3 hr rfl rfl rfl (by kernel_rfl) (by kernel_rfl) rfl,?_⟩ | refine⟨JJ hr (by kernel_rfl) rfl,?_⟩)
  (hg:∀e,Cd (ie++e) ops o c:=by intros;first | exact .one rfl rfl rfl | exact .two rfl rfl rfl):Ob P ops s L i p o:=
 iw (n1:=λn=>n) (c:=c) (v0:=v0) hd hN hp (λ_=>ie) (λ_=>ih) hE hH hv (λ_ e=>hg e) λ_ _ _ _=>AU.spec h _
theorem oH{c:Bool}{v0:(Nat→Nat)→AV}(ie:(Nat→Nat)→Ab)(ih:(Nat→Nat)→AS)(hv:∀G n,p.v (C1 G i n)=.whn c (v0 G)){n1:Nat→Nat}(h:∀G e h' n,BV P c o (ie G++e) (ih G++h') n (v0 G) (ih G++h') (n1 n))
  (hd:o.dst=p.d:=by rfl) (hN:∀d,p.d=some d→Nat.blt d s.N=true:=by intro d h;cases h<;>rfl) (hp:p.hp=none:=by rfl)
  (hE:∀D G,Bf ops D i→Fi (CW D G s.e L) (ie G):=by intro _ _ hr;repeat' first | exact trivial | refine⟨Mm rfl rfl,?_⟩ | refine⟨OB hr rfl rfl rfl (by kernel_rfl) rfl rfl,?_⟩ | refine⟨NZ hr (by kernel_rfl) rfl,?_⟩)
  (hH:∀D G,Bf ops D i→Fk (Dh D G s.h L) (ih G):=by intro _ _ hr;repeat' first | exact trivial | refine⟨Mw rfl rfl,?_⟩ | refine⟨N3 hr rfl rfl rfl (by kernel_rfl) (by kernel_rfl) rfl,?_⟩ | refine⟨JJ hr (by kernel_rfl) rfl,?_⟩)
  (hg:∀G e,Cd (ie G++e) ops o c:=by intros;first | exact .one rfl rfl rfl | exact .two rfl rfl rfl):Ob P ops s L i p o:=
 iw (c:=c) (v0:=v0) hd hN hp ie ih hE hH hv hg h
theorem oM{id:Nat}{ob:(Nat→Nat)→Option A9}{n1:Nat→Nat}(ie:(Nat→Nat)→Ab)(ih:(Nat→Nat)→AS)(hp:p.hp=some (id,ob))(h:∀(G:Nat→Nat) e h' n,BV P true o (ie G++e) (ih G++h') n (p.v (C1 G i n)) ((id,ob (C1 G i n))::(ih G++h')) (n1 n))
  (hg:o.guard=none:=by rfl) (hd:o.dst=p.d:=by rfl) (hN:∀d,p.d=some d→Nat.blt d s.N=true:=by intro d h;cases h<;>rfl)
  (hE:∀D G,Bf ops D i→Fi (CW D G s.e L) (ie G):=by intro _ _ hr;repeat' first | exact trivial | refine⟨Mm rfl rfl,?_⟩ | refine⟨OB hr rfl rfl rfl (by kernel_rfl) rfl rfl,?_⟩ | refine⟨NZ hr (by kernel_rfl) rfl,?_⟩)
  (hH:∀D G,Bf ops D i→Fk (Dh D G s.h L) (ih G):=by intro _ _ hr;repeat' first | exact trivial | refine⟨Mw rfl rfl,?_⟩ | refine⟨N3 hr rfl rfl rfl (by kernel_rfl) (by kernel_rfl) rfl,?_⟩ | refine⟨JJ hr (by kernel_rfl) rfl,?_⟩):Ob P ops s L i p o:=
 vb hg hd hN hp ie ih hE hH h
end
@[reducible] def pO(d:Nat)(v:AV):PO:=⟨some d,λ_=>v,none,[]⟩
theorem rP{P:Program}{id:Nat}{l:List Oper}{s:St}{Q:Exit→St→Prop}(n:Nat)(L:List PO){lt:List Oper}(hm:P.follows .mixedOrders=true)(e4:l.drop n=lt)(hOb:LD P l.toArray s L 0 L l)
  (h:∀(G:Nat→Nat) (n':Nat),AN P l.toArray lt ⟨CW (λ_=>true) G s.e L,Dh (λ_=>true) G s.h L,n',s.N⟩ (Q .normal)) (hB:WN l.toArray n L=true:=by kernel_rfl)
  (hLoc:Ik L:=by repeat' first | exact trivial | refine⟨λ_ _ _=>⟨rfl,λ_ _ e=>by cases e<;>rfl⟩,?_⟩):AW P (.region id l.toArray true) Q s:=JC n L hm hB hLoc e4 hOb h
theorem wk{s s'}(h:Ak s s':=by refine Ak.cv ?_ ?_ nL<;>repeat (first | exact trivial | refine⟨jL,?_⟩ | refine⟨.inl rfl,?_⟩)):Ak s s':=h
section
variable{P:Program}{ops:Array Oper}{rest:List Oper}{K:St→Prop}{o:Oper}{s:St}
theorem mM{d}{x}(hg:(o.guard,o.dst,Nat.blt d s.N,o.op)=(none,some d,true,.move x))(j:AN P ops rest { e:=(d,BR s.e x)::s.e,h:=s.h,n:=s.n,N:=s.N } K):AN P ops (o::rest) s K:=by
 simp only[wV] at hg
 obtain⟨l,q,u,w⟩:=hg
 exact AN.step l q u (AU.spec (AK w (.inl rfl)) _) j
theorem mA{d}{x}(hg:(o.guard,o.dst,Nat.blt d s.N,o.op)=(none,some d,true,.assign x))(j:AN P ops rest { e:=(d,BR s.e x)::s.e,h:=s.h,n:=s.n,N:=s.N } K):AN P ops (o::rest) s K:=by
 simp only[wV] at hg
 obtain⟨l,q,u,w⟩:=hg
 exact AN.step l q u (AU.spec (Do w (.inl rfl)) _) j
theorem vM{d j q}{l b}{x}(hg:(o.guard, o.dst, Nat.blt d s.N, (ops[j]?).bind (·.dst), BR s.e (.tmp q), o.op)=(some (j, l), some d, true, some q, .r (.bool b), .move x))
 (u:AN P ops rest { e := (d, .whn (b==l) (BR s.e x))::s.e, h := s.h, n := s.n, N := s.N } K):AN P ops (o::rest) s K := by
  simp only[wV] at hg
  obtain⟨w, A, B, C, E, F⟩ := hg
  exact AN.stepW (.one w C E) A B (AU.spec (AK F (.inl rfl)) _) u
end
section
variable{P:Program}{ops:Array Oper}{rest:List Oper}{K:St→Prop}{o:Oper}{s:St}{d:Nat}{x y:Operand}
theorem one{v}(hg:o.guard=none)(hd:o.dst=some d)(j:Nat.blt d s.N=true)(l:AU P true o s.e s.h v)(q:AN P ops rest { e:=(d,v)::s.e,h:=s.h,n:=s.n,N:=s.N } K):AN P ops (o::rest) s K:=AN.step hg hd j (AU.spec l _) q
theorem xI{α:Type}{f}{t e}{sz b}{l:List α}{k}{z}{a}(q:Bn P t e sz b)(hg:(o.guard, o.dst, Nat.blt d s.N, o.op, BR s.e x, BR s.e y)=(none, some d, true, .indexAddr t x y, .r (.sl (l.map f)), .r (.int k z)))
 (u:AL l z=some a) (w:AN P ops rest { e := (d, .rop (f a) 0)::s.e, h := s.h, n := s.n, N := s.N } K) (j:∀a, (f a).length=sz := by intro _;rfl):AN P ops (o::rest) s K := by
  simp only[wV] at hg
  exact one hg.1 hg.2.1 hg.2.2.1 (Ap hg.2.2.2.1 q.slice (.inl hg.2.2.2.2.1) (.inl hg.2.2.2.2.2) j λ_ => u) w
theorem xL{α:Type}{f}{t e}{sz b}{l:List α}(j:Bn P t e sz b)(hg:(o.guard, o.dst, Nat.blt d s.N, o.op, BR s.e x)=(none, some d, true, .call { callee := .builtin .len, args := #[x], argTypes := #[t] }, .r (.sl (l.map f))))
 (q:AN P ops rest { e := (d, .r (.int .i64 l.length))::s.e, h := s.h, n := s.n, N := s.N } K):AN P ops (o::rest) s K := by
  simp only[wV] at hg
  exact one hg.1 hg.2.1 hg.2.2.1 (Bu hg.2.2.2.1 j.slice (.inl hg.2.2.2.2)) q
theorem xA{t j}{k}{a b r}(hg:(o.guard, o.dst, Nat.blt d s.N, o.op, BR s.e x, BR s.e y)=(none, some d, true, .binOp .add t x y j, .r (.int k a), .r (.int k b)))
 (l:AM k (a+b)=some r) (q:AN P ops rest { e := (d, .r (.int k r))::s.e, h := s.h, n := s.n, N := s.N } K):AN P ops (o::rest) s K := by
  simp only[wV] at hg
  exact one hg.1 hg.2.1 hg.2.2.1 (G5 hg.2.2.2.1 (.inl hg.2.2.2.2.1) (.inl hg.2.2.2.2.2) λ_ => l) q
theorem xN{a b}(hg:(o.guard, o.dst, Nat.blt d s.N, o.op, BR s.e x, BR s.e y)=(none, some d, true, .pick x y (.const (.bool false)), .r (.bool a), .whn (a==true) (.r (.bool b))))
 (j:AN P ops rest { e := (d, .r (.bool (a&&b)))::s.e, h := s.h, n := s.n, N := s.N } K):AN P ops (o::rest) s K := by
  simp only[wV] at hg
  exact one hg.1 hg.2.1 hg.2.2.1 (BP hg.2.2.2.1 (.inl hg.2.2.2.2.1) (iR hg.2.2.2.2.2)) j
theorem xO{a b}(hg:(o.guard, o.dst, Nat.blt d s.N, o.op, BR s.e x, BR s.e y)=(none, some d, true, .pick x (.const (.bool true)) y, .r (.bool a), .whn (a==false) (.r (.bool b))))
 (j:AN P ops rest { e := (d, .r (.bool (a||b)))::s.e, h := s.h, n := s.n, N := s.N } K):AN P ops (o::rest) s K := by
  simp only[wV] at hg
  exact one hg.1 hg.2.1 hg.2.2.1 (CM hg.2.2.2.1 (.inl hg.2.2.2.2.1) (iR hg.2.2.2.2.2)) j
theorem xB{t}{row:List RV}{sz}(cs:List AV)(j:Bj P t sz)(hg:(o.guard, o.dst, Nat.blt d s.N, o.op, BR s.e x, row.length, row.map AV.r)=(none, some d, true, .load t x, .rop row 0, sz, cs))
 (l:AN P ops rest { e := (d, .agg cs)::s.e, h := s.h, n := s.n, N := s.N } K):AN P ops (o::rest) s K := by
  simp only[wV] at hg
  exact one hg.1 hg.2.1 hg.2.2.1 (CU hg.2.2.2.1 j (.inl hg.2.2.2.2.1) hg.2.2.2.2.2.1 hg.2.2.2.2.2.2) l
theorem xC{t}{id g}{e}{sz}{cs:List AV}(j:Bj P t sz)(hg:(o.guard, o.dst, Nat.blt d s.N, o.op, BR s.e x, hget s.h id, cs.length)=(none, some d, true, .load t x, .ptr id g 0 0, some (.box g e cs), sz))
 (l:AN P ops rest { e := (d, .agg cs)::s.e, h := s.h, n := s.n, N := s.N } K):AN P ops (o::rest) s K := by
  simp only[wV] at hg
  exact one hg.1 hg.2.1 hg.2.2.1 (D5 hg.2.2.2.1 j (.inl hg.2.2.2.2.1) hg.2.2.2.2.2.1 hg.2.2.2.2.2.2) l
theorem xV{t}{row}{k}(r:RV)(j:Bh P t)(hg:(o.guard, o.dst, Nat.blt d s.N, o.op, BR s.e x, row[k]?)=(none, some d, true, .load t x, .rop row k, some r))
 (l:AN P ops rest { e := (d, .r r)::s.e, h := s.h, n := s.n, N := s.N } K):AN P ops (o::rest) s K := by
  simp only[wV] at hg
  exact one hg.1 hg.2.1 hg.2.2.1 (BU hg.2.2.2.1 j (.inl hg.2.2.2.2.1) hg.2.2.2.2.2) l
theorem xX{vs}{i}{a}(hg:(o.guard, o.dst, Nat.blt d s.N, o.op, BR s.e x, vs[i]?)=(none, some d, true, .extract x i, .tup vs, some a))
 (j:AN P ops rest { e := (d, a)::s.e, h := s.h, n := s.n, N := s.N } K):AN P ops (o::rest) s K := by
  simp only[wV] at hg
  exact one hg.1 hg.2.1 hg.2.2.1 (gL hg.2.2.2.1 (.inl hg.2.2.2.2.1) hg.2.2.2.2.2) j
theorem xS{t j}{k}{a b}(hg:(o.guard, o.dst, Nat.blt d s.N, o.op, BR s.e x, BR s.e y)=(none, some d, true, .binOp .lss t x y j, .r (.int k a), .r (.int k b)))
 (l:AN P ops rest { e := (d, .r (.bool (decide (a<b))))::s.e, h := s.h, n := s.n, N := s.N } K):AN P ops (o::rest) s K := by
  simp only[wV] at hg
  exact one hg.1 hg.2.1 hg.2.2.1 (B7 hg.2.2.2.1 (.inl hg.2.2.2.2.1) (.inl hg.2.2.2.2.2)) l
theorem xQ{t j}{k}{a b}(hg:(o.guard, o.dst, Nat.blt d s.N, o.op, BR s.e x, BR s.e y)=(none, some d, true, .binOp .eql t x y j, .r (.int k a), .r (.int k b)))
 (l:AN P ops rest { e := (d, .r (.bool (decide (a=b))))::s.e, h := s.h, n := s.n, N := s.N } K):AN P ops (o::rest) s K := by
  simp only[wV] at hg
  exact one hg.1 hg.2.1 hg.2.2.1 (Aq hg.2.2.2.1 (.inl hg.2.2.2.2.1) (.inl hg.2.2.2.2.2)) l
theorem xU{t j}{k}{a b}(hg:(o.guard, o.dst, Nat.blt d s.N, o.op, BR s.e x, BR s.e y)=(none, some d, true, .binOp .neq t x y j, .r (.int k a), .r (.int k b)))
 (l:AN P ops rest { e := (d, .r (.bool (!(a=b))))::s.e, h := s.h, n := s.n, N := s.N } K):AN P ops (o::rest) s K := by
  simp only[wV] at hg
  exact one hg.1 hg.2.1 hg.2.2.1 (Cf hg.2.2.2.1 (.inl hg.2.2.2.2.1) (.inl hg.2.2.2.2.2)) l
end
theorem xH{ρ α:Type}{o:ρ}{v:α ⊕ ρ}{q:ρ}(j:∀q,v=.inr q→o=q)(h:some (.inr q)=some v):o=q:=j _ (wo h).symm
theorem ZD{P}{T r}{s:St}{t}(e:some T=some r)(h:get s.e t=rI T):Fq P [.tmp t] (rI r) .ret s:=Cz (λr=>rI r) e (.inl rfl) (.t (.d h))
theorem gw{P}{T r}{s:St}{t}(e:some T=some r)(h:get s.e t=rB T):Fq P [.tmp t] (rB r) .ret s:=Cz (λr=>rB r) e (.inl rfl) (.t (.d h))
theorem zI{P}{T r}{s:St}{t id}{x}{o:Oper}{Q}(e:some T=some r)(h:(o.guard, o.dst, Nat.blt t s.N, o.op, BR s.e x)=(none, some t, true, .assign x, rI T))
 (k:Fq P [.tmp t] (rI r) .ret { e := (t, BR s.e x)::s.e, h := s.h, n := s.n, N := s.N } → Q .ret { e := (t, BR s.e x)::s.e, h := s.h, n := s.n, N := s.N }):AW P (.seq (.region id [o].toArray false) .ret) Q s := by
  simp only[wV] at h
  refine aU (AN.step h.1 h.2.1 h.2.2.1 (AU.spec (Do h.2.2.2.1 (.inl rfl)) _) (AN.nil (AW.ret (k (ZD e ?_)))))
  show get (_::_) t=_
  unfold get
  rw[zo]
  exact h.2.2.2.2
theorem zB{P}{T r}{s:St}{t id}{x}{o:Oper}{Q}(e:some T=some r)(h:(o.guard, o.dst, Nat.blt t s.N, o.op, BR s.e x)=(none, some t, true, .assign x, rB T))
 (k:Fq P [.tmp t] (rB r) .ret { e := (t, BR s.e x)::s.e, h := s.h, n := s.n, N := s.N } → Q .ret { e := (t, BR s.e x)::s.e, h := s.h, n := s.n, N := s.N }):AW P (.seq (.region id [o].toArray false) .ret) Q s := by
  simp only[wV] at h
  refine aU (AN.step h.1 h.2.1 h.2.2.1 (AU.spec (Do h.2.2.2.1 (.inl rfl)) _) (AN.nil (AW.ret (k (gw e ?_)))))
  show get (_::_) t=_
  unfold get
  rw[zo]
  exact h.2.2.2.2
@[reducible] def rL{α:Type}(l:List α):AV:=rI (l.length:Int)
@[reducible] def rS(l:List UInt8):AV:=.r (.str l)
abbrev NN:=Nat→Nat
open Go.WideShapes
section
variable{H:Type}(K:Gj H){enc:TypeId × Value→H}{P:Program}{W:World}
theorem eq{t:TypeId}{A:Array Field}{α:Type}{f:α→List RV}{ok:α→Prop}{μ:α→Nat}{v:Value}{d:DataW H}{p:List MemPlace}{r:Reach}{b0:Nat}(B:P.underlying t=some (.struct A))(C:Bb K enc P W t f ok μ)
  (j:Value.okWide P W r b0 t v) (h:DataW.Trod enc P W 0 (λ_=>true) true t v d p):∃a,ok a∧AX (Cx.start W) (.agg ((f a).map .r)) v∧μ a≤K.B d:=by
 obtain⟨O,rfl,_⟩:=okWide_struct B j
 obtain⟨l,E⟩:=h
 obtain⟨a,F,q,I⟩:=C l _ _ E
 refine⟨a,F,.agg ?_ λi c u w J=>?_,I⟩
 ·have:=q.1
  rw[wN,← this];rfl
 ·rw[wd,wW] at w
  obtain⟨M,hd,rfl⟩:=w
  exact .r (q.2 i M u hd (by rw[← J];exact xv))
end
end Go.Proofs.YtdafahjmopdleaaGreatDoor.Al

namespace Go.Proofs.YtdafahjmopdleaaGreatDoor.Al
open Go.Lib
theorem Y9{W:World}{g}{row}(h:∀j d,row[j]?=some d→∃v,W.cell? ⟨g,j,none⟩=some v∧Bl W (· < W.heap.size) d v):AX (Cx.start W) (.rop row 0) (.pointer (some ⟨g,0,none⟩)):=by
 have u:row≠[]→g<W.heap.size:=by
  intro w
  obtain⟨d,hd⟩:∃d,row[0]?=some d:=by
   cases row with
   | nil=>exact absurd rfl w
   | cons d r=>exact⟨d,rfl⟩
  obtain⟨v,l,_⟩:=h 0 d hd
  unfold World.cell? at l
  rcases yV g W.heap.size with q | q
  ·exact q
  ·rw[zE q] at l;cases l
 exact AX.rop (x:=Cx.start W) (row:=row) (k:=0) (b:=g) (off:=0) (λj=>(W.cell? ⟨g,j,none⟩).getD undef) u
  (λj d A=>by obtain⟨v,l,_⟩:=h j d A;rw[wY];show W.cell? _=_;rw[l];rfl)
  (λj d A=>by obtain⟨v,l,q⟩:=h j d A;rw[l];exact q)
theorem ZQ{α β:Type}(f:α→β):∀(l:List α) (j:Nat),(l.flatMap λz=>[f z])[j]?=(l[j]?).map f
 | [],j=>by simp
 | x::l,0=>by simp
 | x::l,j+1=>by
  have:=ZQ f l j
  rw[zC,zQ,yH,this,yH]
theorem gV{α β:Type}(f g:α→β):∀(l:List α) (j:Nat) (d:β),(l.flatMap λz=>[f z,g z])[j]?=some d→∃i a,l[i]?=some a∧((j=2 * i∧d=f a)∨(j=2 * i+1∧d=g a))
 | [],j,d,h=>by simp at h
 | x::l,0,d,h=>by
  have:f x=d:=by simpa using h
  exact⟨0,x,rfl,.inl ⟨rfl,this.symm⟩⟩
 | x::l,1,d,h=>by
  have:g x=d:=by simpa using h
  exact⟨0,x,rfl,.inr ⟨rfl,this.symm⟩⟩
 | x::l,j+2,d,h=>by
  rw[zC] at h
  have w:(l.flatMap λz=>[f z,g z])[j]?=some d:=by simpa using h
  obtain⟨i,a,A,q⟩:=gV f g l j d w
  refine⟨i+1,a,by simpa using A,?_⟩
  rcases q with ⟨q,u⟩ | ⟨q,u⟩
  ·exact .inl ⟨by omega,u⟩
  ·exact .inr ⟨by omega,u⟩
theorem rM {P : Program} {W : World} {d1 d2 : DataW Unit} {t1 t2 e1 e2 : TypeId} {fs : Array Field} (h1 : VarReads P W "unicode/utf8.first" d1) (hd1 : d1 = tabData .u8 Fe) (n1 : P.globalNamed "unicode/utf8.first" = some Ig)
  (y1:(P.globals[Ig]?).map (·.type)=some t1) (u1:P.underlying t1=some (.array 256 e1)) (ue:P.underlying e1=some (.int .u8)) (ce:P.cellsOf e1=1) (ct:P.cellsOf t1=256)
  (h2 : VarReads P W "unicode/utf8.acceptRanges" d2) (hd2 : d2 = .agg (JV.map fun p => .agg ([p.1, p.2].map fun z => .lit (.int .u8 z)))) (n2 : P.globalNamed "unicode/utf8.acceptRanges" = some JA)
  (y2:(P.globals[JA]?).map (·.type)=some t2) (u2:P.underlying t2=some (.array 16 e2)) (us:P.underlying e2=some (.struct fs)) (hfs:∀(i:Nat) (f:Field),fs[i]?=some f→P.underlying f.type=some (.int .u8)∧f.offset=i∧P.cellsOf f.type=1)
  (hsz:fs.size=2) (c2:P.cellsOf e2=2)
  (hw:∀g cs,bZ g=some cs→0<cs.size∧∃t p,W.heap[g]?=some (.cells cs t p):=by intro _ _ h;cases h) (hF:YY W:=by trivial):GB (Cx.start W):=by
 refine⟨λg row hg=>?_,λg cs hg=>⟨?_,hw g cs hg⟩,W,hF,Go.RowKit.Below.refl _ _,λ_ h=>h⟩
 rotate_left
 ·obtain⟨_,t,p,h⟩:=hw g cs hg
  show g<W.heap.size
  exact(ww.1 h).1
 unfold HW at hg
 by_cases hF:g=Ig
 ·rw[vx hF] at hg
  cases hg
  subst hF
  obtain⟨g,t,cs,fuel,p,hg,hty,hvar,hd⟩:=h1
  obtain rfl:=wo (n1.symm.trans hg)
  obtain rfl:=wo (y1.symm.trans hty)
  subst hd1
  have hcs:=cells_of_tab u1 ue ce ct hd
  refine Y9 λj d hj=>?_
  rw[ZQ,wW] at hj
  obtain⟨z,hz,rfl⟩:=hj
  refine⟨.int .u8 z,?_,.int _ _⟩
  rw[World.var?_cell hg hvar j,← xv,hcs,wd,hz];rfl
 ·rw[ne hF] at hg
  by_cases hA:g=JA
  ·rw[vx hA] at hg
   cases hg
   subst hA
   obtain⟨g,t,cs,fuel,p,hg,hty,hvar,hd⟩:=h2
   obtain rfl:=wo (n2.symm.trans hg)
   obtain rfl:=wo (y2.symm.trans hty)
   subst hd2
   refine Y9 λj d hj=>?_
   obtain⟨i,a,hi,hja⟩:=gV _ _ _ _ _ hj
   have hil:i<16:=(wA.1 hi).1
   obtain⟨fuel',d',q,hdi,he⟩:=array_elem u2 hd i hil
   rw[wd,hi] at hdi
   cases hdi
   rw[c2] at he
   have hcs:=ints_of_struct us hfs (by rw[c2,hsz]) he
   have e0:=yZ (·[0]?) hcs
   have e1:=yZ (·[1]?) hcs
   simp only[xh,xW] at e0 e1
   rcases hja with ⟨rfl,rfl⟩ | ⟨rfl,rfl⟩
   ·refine⟨.int .u8 a.1,?_,.int _ _⟩
    rw[World.var?_cell hg hvar (2 * i),← xv]
    simpa[yU] using e0
   ·refine⟨.int .u8 a.2,?_,.int _ _⟩
    rw[World.var?_cell hg hvar (2 * i+1),← xv]
    simpa[yU] using e1
  ·rw[ne hA] at hg;cases hg
end Go.Proofs.YtdafahjmopdleaaGreatDoor.Al
