/- The program logic, a part of it. -/
import Derived.Test.YtcgleifameckmaaGreatDoorAl1
import Derived.ArgAppend
import Derived.Below
import Derived.Calls
import Derived.LaidLaws
import Derived.Laws.BytesString
import Derived.Laws.RangeString
import Derived.Lib.LaidU8
import Derived.OrdersHeld
import Derived.RowKit
import Derived.Shelf.SlSortCmp.NoneTotal
import Derived.Shelf.Slices.In.SortNone
import Derived.Shelf.Sort.Plain
import Derived.Shelf.Strconv.AtoiAll
import Derived.Shelf.Strconv.Itoa3
import Derived.Shelf.Unicode.ValidAny
import Derived.WideLaws
set_option linter.all false
namespace Go.Proofs.YtcgleifameckmaaGreatDoor.Al
open Go.RowKit
section
variable{P:Program}{ops:Array Oper}{rest:List Oper}{s:St}{K:St->Prop}{o:Oper}
end
theorem wS{y:Cx}(l:y.ok) o:y.le { y with w:=y.w.alloc o,S:=λb=>y.S b\/b=y.w.heap.size } /\ ({ y with w:=y.w.alloc o,S:=λb=>y.S b\/b=y.w.heap.size } : Cx).ok:=by
 have q:y.le { y with w:=y.w.alloc o,S:=λb=>y.S b\/b=y.w.heap.size }:=
  ⟨by simp,rfl,rfl,rfl,λb m=>Below.heap_alloc _ _ _ (m.elim (l.S_lt b) (l.F_lt b)),λb h=>.inl h,rfl,wy _,λid C h _=>⟨C,h,rfl,rfl,rfl⟩,λid C h A _ _=>⟨C,h,A,rfl,rfl,rfl,rfl⟩⟩
 have hsz:∀o:Obj,(y.w.alloc o).heap.size=y.w.heap.size+1:=λo=>World.size_alloc _ _
 refine⟨q,λb m=>?_,λb m=>?_,λb m A=>?_,λid w h=>?_,λid w b k E F=>?_,l.inj,l.extOf (y:={ y with w:=y.w.alloc o,S:=λb=>y.S b\/b=y.w.heap.size }) (λid o h=>⟨o,h⟩) rfl rfl (by show _<=(y.w.alloc o).heap.size;rw[hsz];omega) (λid o b k h B I=>I.elim (l.own' id o b k h B).2.1 λe=>by have:=(l.own' id o b k h B).1;omega) (λid o b k h B=>(l.own' id o b k h B).2.2),l.tabs.le q⟩
 .show b<(y.w.alloc o).heap.size
  rw[hsz]
  rcases m with m | m
  .have:=l.S_lt b m;omega
  .omega
 .show b<(y.w.alloc o).heap.size
  rw[hsz];have:=l.F_lt b m;omega
 .rcases m with m | m
  .exact l.SF b m A
  .have:=l.F_lt b A;omega
 .obtain⟨E,F⟩:=l.obj id w h
  exact⟨E,F.mono q (λb k m=>Below.heap_alloc _ _ _ (l.own id w b k h m).1) λj b k m=>Below.heap_alloc _ _ _ (l.own' id w b k h (.inr ⟨j,m⟩)).1⟩
 .have:=l.own id w b k E F
  refine⟨by show b<(y.w.alloc o).heap.size;rw[hsz];omega,λm=>?_,this.2.2⟩
  rcases m with m | m
  .exact this.2.1 m
  .omega
section
variable{P:Program}{s:St}
def Mk:AL->Bool
 | []=>true
 | (_,some o)::r=>!o.isCal&&Mk r
 | (_,none)::r=>Mk r
theorem nb{h}(l:Mk h=true){id}{o:AU}(j:hget h id=some o):o.isCal=false := by
  induction h with
  | nil => cases j
  | cons p r m =>
    obtain⟨d, v⟩ := p
    rw[BG] at j
    cases v with
    | none => split at j
              · cases j
              · exact m l j
    | some q =>
      simp only[Mk, xE, yc] at l
      split at j
      · cases j;exact l.1
      · exact m l.2 j
end
section
variable{P:Program}{ops:Array Oper}{Q:Exit->Act->World->Prop}{md:Region.Mode}
theorem oh(m:¬ LetsOut Q){i}{K}{a}{w}(h:wpOp P ops Q i K a w):wpOpIn (zF none) 0 P ops Q i K a w:=by
 unfold wpOp at h
 unfold wpOpIn
 split
 .rename_i j;rw[j] at h;exact h
 .rename_i o j
  rw[j] at h
  simp only at h
  split
  .rename_i l
   rw[ww l] at h
   rcases h with h | h
   .exact Wu (z:=none) (.inl rfl) h
   .exact absurd h.2 m
  .rename_i l
   rw[wv l] at h
   exact⟨λ_ _=>trivial,h⟩
theorem YC(j:¬ LetsOut Q){w}{n g}{L}(l:∀listed a,L listed a->wpAnyIn (zF none) 0 P md ops Q g listed a w) :
  ∀(f:Nat) (listed:Array Bool) (a:Act),wpAnyL P md ops w n L f listed a->wpAnyIn (zF none) 0 P md ops Q (f+g) listed a w
 | 0,listed,a,h=>by rw[xd];exact l _ _ h
 | f+1,listed,a,h=>by
  rw[show f+1+g=(f+g)+1 by omega]
  exact⟨λm=>absurd m h.1,λi q=>oh j (wpOp_of_stOp (λA B=>YC j l f _ A B) (h.2 i q).2)⟩
theorem gb:∀(l:List Oper) (k:Nat) (listed:Array Bool) (a:Act) (w:World),(∀j,l[j]?=ops[k+j]?) ->
  Region.seqB md ops l.length k listed=true->wpListIn (zF none) 0 P ops Q l a w->wpAnyIn (zF none) 0 P md ops Q l.length listed a w
 | [],_,_,_,_,_,hB,h=>⟨by simpa[Region.seqB] using hB,h⟩
 | o::l,k,listed,a,w,q,hB,h=>by
  have C:ops[k]?=some o:=by simpa using(q 0).symm
  simp only[xz,Region.seqB,xE,xG] at hB
  refine⟨λA=>(by rw[hB.1] at A;cases A),λi B=>?_⟩
  rw[hB.1] at B
  have m:i=k:=by simpa using B
  subst m
  have E:wpOpIn (zF none) 0 P ops Q i (wpListIn (zF none) 0 P ops Q l) a w:=by unfold wpOpIn;simp only[C];exact h
  exact wpOpIn_mono (λF w' I=>gb l (i+1) _ F w' (λj=>by have:=q (j+1);simpa[yz,Nat.add_comm 1 j] using this) hB.2 I) E
theorem Sm{z}(j:z=none\/ops.toList.all Hq=true):∀(l:List Nat) (a:Act) (w:World),wpOpsIn (zF none) 0 P ops Q l a w->wpOpsIn (zF z) 0 P ops Q l a w
 | [],_,_,h=>h
 | i::rest,a,w,h=>by
  simp only[wpOpsIn] at h ⊢
  split
  .rename_i m;rw[m] at h;exact Sm j rest a w h
  .rename_i o m
   rw[m] at h
   simp only at h
   split
   .rename_i q
    rw[ww q] at h
    exact dJ (j.imp _root_.id λA=>xf.1 A o (xa (by rw[xo];exact m))) (Oper.wpIn_mono (λa w h=>Sm j rest a w h) h)
   .rename_i q
    rw[wv q] at h
    exact⟨λ_ _=>trivial,Sm j rest _ w h.2⟩
theorem vy{s}{id}{l l1 l2:List Oper}{Q} n(hm:P.follows .mixedOrders=true)(hB:Region.lexTailB .any l.toArray n=true)(h1:l.take n=l1)(h2:l.drop n=l2)
 (h:AT P l.toArray l1 s (λs' => Bn P l.toArray l2 s' (Q .normal))):AW P (.region id l.toArray true) Q s := by
  intro z0 O M a w ⟨_, A, hsz, y, T, U, V, hH, hn, he⟩
  subst T
  subst h1;subst h2
  obtain⟨r1, r2⟩ := Qr V
  simp only[Region.lexTailB, xE, xG] at hB
  obtain⟨⟨⟨⟨B, C⟩, hs⟩, hc⟩, E⟩ := hB
  have a1:n<l.length := by simpa using C
  have m:(l.take n).length=n := by simp;omega
  have F:(l.drop n).length=l.toArray.size - n := by simp
  have I:HeadInv .any l.toArray n (Array.replicate l.toArray.size false) :=
    ⟨by simp, λj oj _ hl => (by rw[getD_replicate_false] at hl;cases hl), λt _ ht => getD_in (by simpa using ht) (getD_replicate_false _ _)⟩
  have H := wpAnyL_lex (md := .any) (g := l.toArray.size - n) B hs hc C (l.take n) 0 _ a (λj hj => by
    have X:j<n := by rw[m] at hj;exact hj
    simp[X]) (by simpa using m) I (by rw[m];exact E)
    (h _ a r2 hH hn hsz (he.mono r1) (λJ => wpListIn (zF none) 0 P l.toArray (Dm M Q) (l.drop n) J { y.w with drawn := y.w.drawn+1 }) λs' J k1 k2 k3 k4 k5 k6 k7 =>
      k1 M J _ ⟨_, k6.trans A, by rw[k5, k4], _, rfl, U.trans r1, r2, by rw[k2];exact hH, by rw[k3];exact hn, k7⟩ _ KQ λZ a2 a6 k a0 => ⟨by simp, Z, k, a0⟩)
  refine wpIn_region_draw λt => ?_
  simp only[Region.schedule, hm, WAQ, zm]
  refine Sm (O.imp _root_.id λh => h) _ a _ (wpAnyIn_sound l.toArray.size t _ a _ ?_)
  have := YC (Q := Dm M Q) (g := l.toArray.size - n) KQ (λq J hL => by
    have := gb (md := .any) (Q := Dm M Q) (l.drop n) n q J { y.w with drawn := y.w.drawn+1 } (λj => by simp[xr]) (by rw[F];exact hL.1) hL.2
    rwa [F] at this) _ _ _ H
  rw[m, show n+(l.toArray.size - n)=l.toArray.size by omega] at this
  exact this
end
end Go.Proofs.YtcgleifameckmaaGreatDoor.Al

namespace Go.Proofs.YtcgleifameckmaaGreatDoor.Al
open Go.RowKit
def RV.scal:RV->Bool
 | .int _ _=>true
 | .bool _=>true
 | .str _=>true
 | _=>false
theorem kp{w w'}{S S'}{d:RV}{v}(h:d.scal=true)(j:A4 w S d v):A4 w' S' d v:=by
 cases j with
 | int k n=>exact .int k n
 | bool b=>exact .bool b
 | str s=>exact .str s
 | _=>simp[RV.scal] at h
theorem Nw.mono{P}{b}{us}{w}{Q Q'}(h:Nw P b us w Q)(l:∀e w',Q e w'->Q' e w'):Nw P b us w Q':=
 let ⟨f,t,j,m,q,A⟩:=h
 ⟨f,t,j,m,q,A.mono l⟩
open Classical in
theorem sy{x:Cx}(w:x.ok){id g}{W:FE}{ys}{y:List RV}{c}(m:x.H id=some (.cal g W ys))(hA:W.A (ys++[y])=some c){us:Array Value}(X:us.size=y.length)
 (Z:∀(i:Nat) (d:RV) (u:Value), y[i]?=some d->us[i]?=some u->A4 x.w (λ_ => False) d u) {v} (F:AP x (.yld id g) v) :
    ∃b, v=.func (.yield b) #[] #[]/\Nw W.P b us x.w λe w' => e=.returned (.bool c)/\∃z:Cx, z.w=w'/\x.le z/\z.ok/\z.H=(λi => if id=i then some (.cal g W (ys++[y])) else x.H i)/\z.n=x.n := by
  obtain⟨hg, κs, A, O, h3, T, h5⟩ := w.obj id _ m
  cases F with
  | yld _ _ F =>
    obtain⟨b', cap, I, k2⟩ := F _ m rfl
    rw[A] at I
    simp only[xF, xM] at I
    obtain⟨rfl, rfl⟩ := I
    refine⟨W.b, k2, (O.round ys y c x.w κs us hA h3 X Z).mono λe w' ⟨he, U, hJ, V, J, ht, ho, M, hκ⟩ => ⟨he, ?_⟩⟩
    have B := HB w id (.cal g W (ys++[y])) w' (x.β id) (λj => if U j then some (j, 0) else none) x.n V J ht ho
      (λd hd C => M d hd (λe => C _ m (.inl ⟨1, by rw[e];exact A⟩)) λhk => C _ m (.inr (T d hk)))
      (λd k q => by
        rw[A] at q
        simp only[xF, xM] at q
        obtain⟨rfl, rfl⟩ := q
        exact⟨xD (w.own id _ W.b 1 m A).1 V, .inr ⟨_, m, .inl ⟨1, A⟩⟩⟩)
      (λj d k q => by
        split at q
        · rename_i hj
          simp only[xF, xM] at q
          obtain⟨rfl, rfl⟩ := q
          obtain⟨E, e2, e3⟩ := hκ j hj
          refine⟨⟨e2, ?_⟩, λk' l => ?_, λj' k' l => ?_⟩
          · rcases E with E | E
            · exact .inr ⟨_, m, .inr (T j E)⟩
            · exact .inl E
          · rw[A] at l
            simp only[xF, xM] at l
            exact e3 l.1.symm
          · split at l
            · simp only[xF, xM] at l
              exact l.1
            · cases l
        · cases q)
      (wy _) hg (λ_ => ⟨_, m, rfl, rfl, rfl⟩) (λhf => by cases hf)
      (λa0 => ⟨U, A, O, hJ, λd hd => ⟨d, 0, ww hd⟩, h5⟩)
    exact⟨_, rfl, B.1, B.2, rfl, rfl⟩
section
variable{P:Program}{ops:Array Oper}{rest:List Oper}{s:St}{K:St->Prop}{o:Oper}
theorem Bn.stepC{d}{id g}{W:FE}{ys}{y:List RV}{c}{fo}{xs:Array Operand}{C}(hP:W.P=P)(hg:o.guard=none)(hd:o.dst=some d)(E:Nat.blt d s.N=true)
 (ho:o.op=.call { callee := .value fo, args := xs, argTypes := C }) (F:Ev true s.e fo (.yld id g)) (hx:HT true s.e xs.toList (y.map .r)) (I:y.all RV.scal=true) (hh:hget s.h id=some (.cal g W ys)) (hA:W.A (ys++[y])=some c)
 (hw:Bn P ops rest { e := (d, .r (.bool c))::s.e, h := (id, some (.cal g W (ys++[y])))::s.h, n := s.n, N := s.N } K):Bn P ops (o::rest) s K := by
  intro c0 a w ⟨ds, l, hsz, x, J, M, O, hH, hn, T⟩ Q m hQ
  subst J
  refine wpListIn_plain hg λK' U => ?_
  obtain⟨V, X⟩ := hx.rep rfl T
  have Z:(xs.map a.eval).size=y.length := by
    simp only[Array.size_map]
    simpa using V.symm
  obtain⟨b, hv, f, t, a7, bd, q, j⟩ := sy O (by rw[hH];exact hh) hA Z (λi d u h1 h2 => by
    have h3 := X i (.r d) u (by rw[xJ, h1];rfl) (by simpa using h2)
    cases h3 with
    | r h3 => exact kp (xf.1 I d (xa h1)) h3) (F.rep T rfl)
  subst hP
  refine⟨λ_ _ => trivial, ?_⟩
  rw[show(zF none).round=none from rfl, Oper.semAt_none, jC ho hv, q]
  refine⟨λe => (by cases e), j.mono λe w' ⟨he', z, a0, A, B, a1, a2⟩ => ?_⟩
  subst he'
  subst a0
  refine U _ _ ?_
  rw[hd]
  have a6:d<a.tmps.size := by rw[hsz];exact B8 E
  refine hw c0 (a.put (some d) (.bool c)) z.w ⟨ds, by simpa[Act.put] using l, by simpa[Act.put] using hsz, z, rfl, M.trans A, B, ?_, by rw[a2, hn], (T.mono A).put a6 (.r (.bool c))⟩ Q m hQ
  rw[a1]
  funext i
  rw[BG, hH]
end
end Go.Proofs.YtcgleifameckmaaGreatDoor.Al

namespace Go.Proofs.YtcgleifameckmaaGreatDoor.Al
open Go.RowKit
theorem AP.fence{x}(B:Nat->Prop){a}{v}(h:AP x a v):AP { x with F:=B } a v:=by
 induction h with
 | r h=>exact .r h
 | agg q _ m=>exact .agg q m
 | tup q _ m=>exact .tup q m
 | own hg j l=>exact .own hg j l
 | pre hg j l=>exact .pre hg j l
 | ptr hg j l=>exact .ptr hg j l
 | mref hg j l=>exact .mref hg j l
 | yld hg j l=>exact .yld hg j l
 | pk hg w j l=>exact .pk hg w j l
 | fo hg w j l=>exact .fo hg w j l
 | full h C=>exact .full h C
 | rop u E F I=>exact .rop u E F I
 | fn q _ m=>exact .fn q m
 | cst v=>exact .cst v
 | whn _ A m=>exact .whn m A
 | ifc j h A=>exact .ifc j h A
 | any v=>exact .any v
theorem CL.fence{x}(C:Nat->Prop){β}{κ}{o}(h:CL x β κ o):CL { x with F:=C } β κ o:=by
 cases o with
 | box g e cs=>
  obtain⟨b,O,q,w,A,B⟩:=h
  exact⟨b,O,q,w,A,λj c hj=>let ⟨u,F,I,T⟩:=B j c hj;⟨u,F,I,T.fence C⟩⟩
 | hot g e xs k id g'=>
  obtain⟨U,q,E,J,w,A,B,u,M,V⟩:=h
  exact⟨U,q,E,J,w,A,B,u,M,V.fence C⟩
 | mp g ks vs clock=>
  obtain⟨b,J,q,w,A,B,M⟩:=h
  exact⟨b,J,q,w,A,B,λj c u F I=>(M j c u F I).fence C⟩
 | mi g X mg Z seen last=>obtain⟨b,m,q,w,A⟩:=h;exact⟨b,m,q,w,A.fence C⟩
 | mj g X mg len seen=>obtain⟨b,m,q,w,A⟩:=h;exact⟨b,m,q,w,A.fence C⟩
 | lp g e N ps a b st p=>
  obtain⟨b,r,q,w,A,B,M,V,h7,h8,h9⟩:=h
  exact⟨b,r,q,w,A,B,M,V,h7,h8,λt=>(h9 t).fence C⟩
 | arr g e sz xs=>exact h
 | it g s pos=>exact h
 | md g l=>exact h
 | mb g v e l=>exact h
 | mr g v e sz hole l=>exact h
 | rr g e sz col e2 sz2 hole xs=>
  obtain⟨U,E,J,q,w,A,B⟩:=h
  exact⟨U,E,J,q,w,A,λi row hi=>let ⟨u,F,I⟩:=B i row hi;⟨u,F,I.imp (λ⟨r,g',T,k4⟩=>⟨r,g',T,k4.fence C⟩) id⟩⟩
 | cal g W ys=>exact h
theorem EH.fence{x} j(h:EH x):EH { x with F:=j }:=h.same rfl λ_ h=>h
theorem Cx.ok.fence{x:Cx}(l:x.ok)(m:Nat->Prop)(C:∀b,m b->b<x.w.heap.size)(E:∀b,x.S b->¬ m b)(B:∀id o b k,x.H id=some o->x.atk id b k->¬ m b):({ x with F:=m } : Cx).ok:=
 ⟨l.S_lt,C,E,λid o h=>let ⟨q,w⟩:=l.obj id o h;⟨q,w.fence m⟩,λid o b k h A=>let ⟨q,w,_⟩:=l.own id o b k h A;⟨q,w,B id o b k h (.inl A)⟩,l.inj,
  λid o j b c h A=>let ⟨q,w,_,F,I⟩:=l.ext id o j b c h A;⟨q,w,B id o b c h (.inr ⟨j,A⟩),F,I⟩,l.tabs.fence m⟩
theorem Cx.ok.turn{x:Cx}(l:x.ok){w':World}(A:x.w.heap.size<=w'.heap.size)(F:w'.os=x.w.os)(I:w'.tape=x.w.tape)(hp:w'.output=x.w.output)
  (h:∀d,(x.S d\/x.F d\/∃id o k,x.H id=some o/\x.atk id d k)->w'.heap[d]?=x.w.heap[d]?):x.le { x with w:=w' } /\ ({ x with w:=w' } : Cx).ok:=by
 have q:x.le { x with w:=w' }:=⟨A,F,I,hp,λb m=>h b (m.imp _root_.id .inl),λ_ h=>h,rfl,wy _,λid o h _=>⟨o,h,rfl,rfl,rfl⟩,λid o h J _ _=>⟨o,h,J,rfl,rfl,rfl,rfl⟩⟩
 refine⟨q,λb m=>xD (l.S_lt b m) A,λb m=>xD (l.F_lt b m) A,l.SF,λid o w=>?_,λid o b k M O=>?_,l.inj,l.extOf (y:={ x with w:=w' }) (λid o h=>⟨o,h⟩) rfl rfl A (λid o b k h B=>(l.own' id o b k h B).2.1) (λid o b k h B=>(l.own' id o b k h B).2.2),l.tabs.le q⟩
 .obtain⟨C,E⟩:=l.obj id o w
  exact⟨C,E.mono q (λb k m=>h b (.inr (.inr ⟨id,o,k,w,.inl m⟩))) λj b k m=>h b (.inr (.inr ⟨id,o,k,w,.inr ⟨j,m⟩⟩))⟩
 .obtain⟨C,E,T⟩:=l.own id o b k M O
  exact⟨xD C A,E,T⟩
def EC{σ:Type}(F:σ->List RV->Option σ):List (List RV)->σ->Option σ
 | [],j=>some j
 | y::l,j=>(F j y).bind (EC F l)
theorem bW{σ:Type}(F:σ->List RV->Option σ) ys y(j:σ):EC F (ys++[y]) j=(EC F ys j).bind λs=>F s y:=by
 induction ys generalizing j with
 | nil=>simp[EC]
 | cons a l m=>
  simp only[yV,EC]
  cases F j a with
  | none=>rfl
  | some s=>simpa using m s
def LR{σ:Type}(F:σ->List RV->Option σ)(j:σ)(ys:List (List RV)):Option Bool:=(EC F ys j).map λ_=>true
def TK{σ:Type}(pd:σ->Option Code)(F:σ->List RV->Option σ)(j:σ)(ys:List (List RV)):Option Bool:=(EC F ys j).map λs=>(pd s).isNone
def Io(p:Option Code):LoopState:=if p.isNone then .ready else .done
def cY{σ:Type}(x:Cx)(lid b:Nat)(lp:σ->AU)(F:σ->List RV->Option σ)(st0:σ)(Hf:σ->(Nat->Nat)->AL)(nf:(Nat->Nat)->Nat)(ys:List (List RV))(w:World)(κ:Nat->Prop):Prop:=
 ∃(z:Cx) (j:σ) (i:Nat->Nat),EC F ys st0=some j/\z.w=w/\z.ok/\x.le z/\z.H=hget ((lid,some (lp j))::Hf j i)/\z.n=nf i/\z.β lid=some (b,1) /\
  (∀id o d k,z.H id=some o->z.atk id d k->d=b\/κ d)/\∀d,z.S d->(x.S d\/x.F d)\/κ d
def VK{σ:Type}(P:Program)(x:Cx)(lid b:Nat)(lp:σ->AU)(pd:σ->Option Code)(F:σ->List RV->Option σ)(st0:σ)(Hf:σ->(Nat->Nat)->AL)(nf:(Nat->Nat)->Nat):FE:=
 ⟨P,TK pd F st0,b,λd=>x.S d\/x.F d,cY x lid b lp F st0 Hf nf⟩
theorem jU{P:Program}{σ:Type}{x:Cx}{lid b g N:Nat}{e:Aa}{ps:List Nat}{asg bd:Code}{F:σ->List RV->Option σ}{st0:σ}{pd:σ->Option Code}{Hf:σ->(Nat->Nat)->AL}{nf:(Nat->Nat)->Nat}(b0:∀d,x.F d->¬ x.S d)
  (hg:∀i,g<nf i) (ai:(ps.all λp=>Nat.blt p N)=true) (aj:(Ca asg&&Ca bd)=true)
  (U:∀st y l i,F st y=some l->pd st=none/\y.length=ps.length/\AW P asg (Jh P lid g bd λc h' n'=>c=(pd l).isNone/\∃i',(∀id o,hget ((lid,some (.lp g e N ps asg bd (Io (pd l)) (pd l)))::Hf l i') id=some o->hget h' id=some o)/\n'<=nf i')
   ⟨Ou ps (y.map .r) e,(lid,some (.lp g e N ps asg bd .ready none))::Hf st i,nf i,N⟩) :
  Y9 (VK P x lid b (λs=>.lp g e N ps asg bd (Io (pd s)) (pd s)) pd F st0 Hf nf):=by
 let S:Nat->Prop:=λd=>x.S d\/x.F d
 have h9:∀d,S d↔x.S d\/x.F d:=λd=>Iff.rfl
 constructor
 .rintro ys w w' κ ⟨z,st,i,V,rfl,T,h3,h4,h5,h6,h7,h8⟩ B J ht hp a2
  obtain⟨k1,k2⟩:=T.turn B J ht hp (λd hd=>by
   refine a2 d ?_
   rcases hd with hd | hd | ⟨id,o,k,E,e2⟩
   .exact(h8 d hd).elim (λh=>.inr (.inr h)) λh=>.inr (.inl h)
   .rw[h3.F] at hd
    exact .inr (.inr ((h9 d).2 (.inr hd)))
   .exact(h7 id o d k E e2).imp _root_.id .inl)
  exact⟨{ z with w:=w' },st,i,V,rfl,k2,h3.trans k1,h4,h5,h6,h7,h8⟩
 .rintro ys y c w κ X hA ⟨z,st,i,V,rfl,T,h3,h4,h5,h6,h7,h8⟩ hl hr
  have h8:∀d,z.S d->S d\/κ d:=h8
  simp only[VK,TK,bW,V,yJ,xK] at hA
  obtain⟨l,ac,rfl⟩:=hA
  obtain⟨ak,a6,hw⟩:=U st y l i ac
  simp only[ak] at h4
  have h4:z.H=hget ((lid,some (.lp g e N ps asg bd .ready none))::Hf st i):=h4
  let own:Nat->Prop:=λd=>∃id o k,z.H id=some o/\z.atk id d k
  let z2:Cx:={ z with F:=λd=>d<z.w.heap.size/\¬ z.S d/\¬ own d }
  have al:z2.ok:=T.fence _ (λb hb=>hb.1) (λb hb I=>I.2.1 hb) λid o b k h ha I=>I.2.2 ⟨id,o,k,h,ha⟩
  have an:z.H lid=some (.lp g e N ps asg bd .ready none):=by rw[h4,BG,ww rfl]
  obtain⟨_,b',r,m1,m2,m3,m4,m5,m6,m7,m8,m9⟩:=T.obj lid _ an
  rw[h6] at m1
  simp only[xF,xM,zt] at m1
  obtain⟨rfl⟩:=m1
  have ao:X.size=r.params.size:=by rw[m3,hl,a6];simp
  have a7:((r.params.zip X).foldl (λtmps (x:Nat × Value)=>tmps.setIfInBounds x.1 x.2) r.tmps)=(ps.zip X.toList).foldl (λt (p:Nat × Value)=>t.setIfInBounds p.1 p.2) r.tmps:=by
   rw[m3,<- Array.foldl_toList]
   simp
  have aq:∀(j:Nat) (a:AV) (u:Value),(y.map AV.r)[j]?=some a->X.toList[j]?=some u->AP z2 a u:=by
   intro j a u V T
   rw[xJ,xK] at V
   obtain⟨d,V,rfl⟩:=V
   exact .r ((hr j d u V (by simpa using T)).mono (λb hb=>hb.elim) λb hb=>hb.elim)
  obtain⟨k1,k2⟩:=Yj (x:=z2) ps (y.map .r) X.toList e r.tmps (by simpa using a6) (by simpa using hl.trans a6) aq (λp hp=>by rw[m8];exact B8 (xf.1 ai p hp)) (λt=>(m9 t).fence _)
  have ad:Ca asg=true/\Ca bd=true:=by simpa using aj
  have hR:=kl (z:=z2) (f:=r.fn) (b:=b) (tmps:=(ps.zip X.toList).foldl (λt (p:Nat × Value)=>t.setIfInBounds p.1 p.2) r.tmps) al h4 h5 (by rw[BG,ww rfl]) h6 m2 ⟨m3,m4,m5,m6,m7⟩ (by rw[k1];exact m8) k2 ad hw
  have ae:=run_yield (P:=P) (args:=X) m2 ao
  refine⟨_,_,_,_,ae,?_⟩
  rw[m4,m5]
  have Z:(r.params.zip X).foldl (λtmps (x:Tmp × Value)=>match x with | (t,a)=>tmps.setIfInBounds t a) r.tmps=(ps.zip X.toList).foldl (λt (p:Nat × Value)=>t.setIfInBounds p.1 p.2) r.tmps:=a7
  rw[Z]
  refine hR.mono λe' w' ⟨c,y',h',n',he',ar,m,M,au,av,aw,i',af,ax⟩=>⟨by rw[he',aw],?_⟩
  subst ar
  obtain⟨f1,f2⟩:=Qt M (hget ((lid,some (.lp g e N ps asg bd (Io (pd l)) (pd l)))::Hf l i')) (λid o J=>by rw[au];exact af id o J) (nf i') (by rw[av];exact ax)
  have a0:y'.F=z2.F:=m.F
  have a8:∀d,z.F d->z2.F d:=λd hd=>⟨T.F_lt d hd,λB=>T.SF d B hd,λ⟨id,o,k,E,e2⟩=>(T.own' id o d k E e2).2.2 hd⟩
  let z':Cx:={ y' with F:=z.F,H:=hget ((lid,some (.lp g e N ps asg bd (Io (pd l)) (pd l)))::Hf l i'),n:=nf i' }
  have aa:z'.ok:=f2.fence z.F (λd hd=>xD (T.F_lt d hd) m.size) (λd hd I=>M.SF d hd (by rw[a0];exact a8 d I)) λid o d k h ha I=>(f2.own' id o d k h ha).2.2 (by show y'.F d;rw[a0];exact a8 d I)
  have ag:z.le z':=by
   have A:=m.trans f1
   exact⟨A.size,A.os,A.tape,A.output,λd hd=>A.blk d (hd.imp _root_.id (a8 d)),A.S,rfl,A.n,A.H,A.K⟩
  have ah:z'.β lid=some (b,1):=by
   obtain⟨o1,_,_,_,q⟩:=ag.H lid (.lp g e N ps asg bd (Io (pd l)) (pd l)) (show hget _ lid=_ by rw[BG,ww rfl]) (.inl (by show g<z.n;rw[h5];exact hg i))
   rw[q,h6]
  have ay:z'.H lid=some (.lp g e N ps asg bd (Io (pd l)) (pd l)):=(show hget _ lid=_ by rw[BG,ww rfl])
  have a1:∀d,d<z.w.heap.size->¬ z2.F d->z.S d\/own d:=λd hd I=>by
   by_cases B:z.S d
   .exact .inl B
   .by_cases J:own d
    .exact .inr J
    .exact absurd ⟨hd,B,J⟩ I
  have C:∀d,own d->d=b\/κ d:=λd ⟨id,o,k,E,e2⟩=>h7 id o d k E e2
  refine⟨λd=>(∃id o k,z'.H id=some o/\z'.atk id d k/\d≠b)\/(z'.S d/\¬ S d),⟨z',l,i',by rw[bW,V];exact ac,rfl,aa,h3.trans ag,rfl,rfl,ah,λid o d k E e2=>?_,λd hd=>?_⟩,m.size,m.os,m.tape,m.output,λd hd az hk=>?_,λd hd=>?_⟩
  .by_cases O:d=b
   .exact .inl O
   .exact .inr (.inl ⟨id,o,k,E,e2,O⟩)
  .by_cases B:S d
   .exact .inl B
   .exact .inr (.inr ⟨hd,B⟩)
  .refine m.blk d ?_
   by_cases B:z.S d
   .exact .inl B
   .refine .inr ⟨hd,B,λJ=>?_⟩
    exact(C d J).elim az hk
  .rcases hd with ⟨id,o,k,E,e2,e3⟩ | ⟨E,e2⟩
   .obtain⟨q1,q2,q3⟩:=f2.own' id o d k E e2
    refine⟨?_,q1,e3⟩
    by_cases ab:d<z.w.heap.size
    .left
     rcases a1 d ab (λI=>q3 (by show y'.F d;rw[a0];exact I)) with B | J
     .exact absurd (m.S d B) q2
     .exact(C d J).resolve_left e3
    .right;omega
   .have O:d≠b:=λe=>(aa.own lid _ b 1 ay ah).2.1 (by rw[<- e];exact E)
    refine⟨?_,aa.S_lt d E,O⟩
    by_cases ab:d<z.w.heap.size
    .left
     rcases a1 d ab (λI=>M.SF d E (by rw[a0];exact I)) with B | J
     .exact(h8 d B).resolve_left e2
     .exact(C d J).resolve_left O
    .right;omega
end Go.Proofs.YtcgleifameckmaaGreatDoor.Al

namespace Go.Proofs.YtcgleifameckmaaGreatDoor.Al
open Go.RowKit
section
variable{x:Cx}(id0:Nat)(o0:AU)(β0:Option (Nat × Nat))(κ0:Nat->Option (Nat × Nat))(n':Nat)
def Cx.add(x:Cx):Cx:={ x with H:=λi=>if id0=i then some o0 else x.H i,β:=λi=>if id0=i then β0 else x.β i,K:=λi=>if id0=i then κ0 else x.K i,n:=n' }
theorem AP.add(hg:x.n<=o0.gen)(E:x.n<=n')(J:o0.isFam=false){a}{v}(h:AP x a v):AP (x.add id0 o0 β0 κ0 n') a v:=by
 induction h with
 | r h=>exact .r h
 | agg I _ F=>exact .agg I F
 | tup I _ F=>exact .tup I F
 | own l A B=>
  refine .own (xD l E) A λo j w=>?_
  dsimp only [Cx.add] at j ⊢
  split at j
  .cases j;omega
  .rename_i C;rw[wv C];exact B o j w
 | pre l A B=>
  refine .pre (xD l E) A λo j w=>?_
  dsimp only [Cx.add] at j ⊢
  split at j
  .cases j;omega
  .rename_i C;rw[wv C];exact B o j w
 | ptr l A B=>
  refine .ptr (xD l E) A λo j w=>?_
  dsimp only [Cx.add] at j ⊢
  split at j
  .cases j;omega
  .rename_i C;rw[wv C];exact B o j w
 | mref l A B=>
  refine .mref (xD l E) A λo j w=>?_
  dsimp only [Cx.add] at j ⊢
  split at j
  .cases j;omega
  .rename_i C;rw[wv C];exact B o j w
 | yld l A B=>
  refine .yld (xD l E) A λo j w=>?_
  dsimp only [Cx.add] at j ⊢
  split at j
  .cases j;omega
  .rename_i C;rw[wv C];exact B o j w
 | pk l M A B=>
  refine .pk (xD l E) (xD M E) A λo b c q m j w O T V U=>?_
  dsimp only [Cx.add] at j U
  split at j
  .cases j;rw[J] at w;cases w
  .rename_i C;rw[wv C] at U;exact B o b c q m j w O T V U
 | fo l M A B=>
  refine .fo (xD l E) (xD M E) A λo j w O T=>?_
  dsimp only [Cx.add] at j ⊢
  split at j
  .cases j;rw[J] at w;cases w
  .rename_i C;rw[wv C];exact B o j w O T
 | full h J=>exact .full h J
 | rop u X Z hr=>exact .rop u X Z hr
 | fn I _ F=>exact .fn I F
 | cst v=>exact .cst v
 | whn _ j F=>exact .whn F j
 | ifc A h j=>exact .ifc A h j
 | any v=>exact .any v
theorem CL.add(hg:x.n<=o0.gen)(M:x.n<=n')(hf:o0.isFam=false){β}{κ}{o}(h:CL x β κ o):CL (x.add id0 o0 β0 κ0 n') β κ o:=by
 have hA:∀ {a:AV} {v:Value},AP x a v->AP (x.add id0 o0 β0 κ0 n') a v:=λh=>h.add id0 o0 β0 κ0 n' hg M hf
 cases o with
 | box g e cs=>
  obtain⟨b,O,q,w,A,B⟩:=h
  exact⟨b,O,q,w,A,λj c hj=>let ⟨u,E,F,T⟩:=B j c hj;⟨u,E,F,hA T⟩⟩
 | hot g e xs k id g'=>
  obtain⟨U,q,C,I,w,A,B,u,J,V⟩:=h
  exact⟨U,q,C,I,w,A,B,u,J,hA V⟩
 | mp g ks vs clock=>
  obtain⟨b,I,q,w,A,B,J⟩:=h
  exact⟨b,I,q,w,A,B,λj c u E F=>hA (J j c u E F)⟩
 | mi g X mg Z seen last=>obtain⟨b,m,q,w,A⟩:=h;exact⟨b,m,q,w,hA A⟩
 | mj g X mg len seen=>obtain⟨b,m,q,w,A⟩:=h;exact⟨b,m,q,w,hA A⟩
 | lp g e N ps a b st p=>
  obtain⟨b,r,q,w,A,B,J,V,h7,h8,h9⟩:=h
  exact⟨b,r,q,w,A,B,J,V,h7,h8,λt=>hA (h9 t)⟩
 | arr g e sz xs=>exact h
 | it g s pos=>exact h
 | md g l=>exact h
 | mb g v e l=>exact⟨xD h.1 M,h.2⟩
 | mr g v e sz hole l=>exact⟨h.1,xD h.2.1 M,h.2.2⟩
 | rr g e sz col e2 sz2 hole xs=>
  obtain⟨U,C,I,q,w,A,B⟩:=h
  exact⟨U,C,I,q,w,A,λi row hi=>let ⟨u,E,F⟩:=B i row hi;⟨u,E,F.imp (λ⟨r,g',T,k4⟩=>⟨r,g',T,hA k4⟩) id⟩⟩
 | cal g W ys=>exact h
theorem Cx.ok.add(C:x.ok)(hg:x.n<=o0.gen)(a0:o0.gen<n')(hf:o0.isFam=false)(hβ:∀b k,β0=some (b,k)->b<x.w.heap.size/\¬ x.S b/\¬ x.F b/\∀id o I,x.H id=some o->x.atk id b I->False)
  (hκ:∀j b k,κ0 j=some (b,k)->(b<x.w.heap.size/\¬ x.S b/\¬ x.F b/\∀id o I,x.H id=some o->x.atk id b I->False)/\(∀I,β0=some (b,I)->False)/\∀U I,κ0 U=some (b,I)->U=j)
  (Z:CL (x.add id0 o0 β0 κ0 n') β0 κ0 o0):(x.add id0 o0 β0 κ0 n').ok:=by
 have hn:x.n<=n':=by omega
 have q:∀ {i:Nat} {o:AU},(x.add id0 o0 β0 κ0 n').H i=some o->id0≠i->x.H i=some o:=λh w=>by dsimp only [Cx.add] at h;rwa [wv w] at h
 have E:∀i,id0≠i->(x.add id0 o0 β0 κ0 n').β i=x.β i:=λi w=>wv w
 have O:∀i,id0≠i->(x.add id0 o0 β0 κ0 n').K i=x.K i:=λi w=>wv w
 have F:(x.add id0 o0 β0 κ0 n').β id0=β0:=ww rfl
 have T:(x.add id0 o0 β0 κ0 n').K id0=κ0:=ww rfl
 refine⟨C.S_lt,C.F_lt,C.SF,λi o h=>?_,λi o b k h B=>?_,λi A o J b k I h M B l=>?_,λi o j b c h B=>?_,C.tabs.same rfl λ_ h=>h⟩
 .by_cases w:id0=i
  .subst w
   have:(x.add id0 o0 β0 κ0 n').H id0=some o0:=ww rfl
   rw[this] at h;cases h
   rw[F,T]
   exact⟨a0,Z⟩
  .obtain⟨V,X⟩:=C.obj i o (q h w)
   rw[E i w,O i w]
   exact⟨xD V hn,X.add id0 o0 β0 κ0 n' hg hn hf⟩
 .by_cases w:id0=i
  .subst w
   rw[F] at B
   obtain⟨V,X,k3,_⟩:=hβ b k B
   exact⟨V,X,k3⟩
  .rw[E i w] at B
   exact C.own i o b k (q h w) B
 .by_cases w:id0=i<;>by_cases m:id0=A
  .rw[<- w,<- m]
  .subst w
   rw[F] at B;rw[E A m] at l
   exact((hβ b k B).2.2.2 A J I (q M m) (.inl l)).elim
  .subst m
   rw[F] at l;rw[E i w] at B
   exact((hβ b I l).2.2.2 i o k (q h w) (.inl B)).elim
  .rw[E i w] at B;rw[E A m] at l
   exact C.inj i A o J b k I (q h w) (q M m) B l
 .by_cases w:id0=i
  .subst w
   rw[T] at B
   obtain⟨⟨V,X,k3,k4⟩,k5,k6⟩:=hκ j b c B
   refine⟨V,X,k3,λA J k M l=>?_,λA J U c' M l=>?_⟩
   .by_cases m:id0=A
    .subst m;rw[F] at l;exact k5 k l
    .rw[E A m] at l;exact k4 A J k (q M m) (.inl l)
   .by_cases m:id0=A
    .subst m;rw[T] at l;exact⟨rfl,k6 U c' l⟩
    .rw[O A m] at l;exact(k4 A J c' (q M m) (.inr ⟨U,l⟩)).elim
  .rw[O i w] at B
   obtain⟨V,X,k3,k4,k5⟩:=C.ext i o j b c (q h w) B
   refine⟨V,X,k3,λA J k M l=>?_,λA J U c' M l=>?_⟩
   .by_cases m:id0=A
    .subst m;rw[F] at l;exact(hβ b k l).2.2.2 i o c (q h w) (.inr ⟨j,B⟩)
    .rw[E A m] at l;exact k4 A J k (q M m) l
   .by_cases m:id0=A
    .subst m;rw[T] at l;exact((hκ U b c' l).1.2.2.2 i o c (q h w) (.inr ⟨j,B⟩)).elim
    .rw[O A m] at l;exact k5 A J U c' (q M m) l
end
end Go.Proofs.YtcgleifameckmaaGreatDoor.Al

namespace Go.Proofs.YtcgleifameckmaaGreatDoor.Al
open Go.RowKit
section
variable{P:Program}{s:St}
open Classical in
theorem wd{σ:Type}{g:Operand}{ps:Array Tmp}{asg bd:Code}{Q:Exit->St->Prop}{f:FuncId}{caps:List AV}{L:List Nat}{hB:AL}{Post:FE->AV->AL->Prop}(lid:Nat)(pd:σ->Option Code)(F:σ->List RV->Option σ)(st0:σ)(Hf:σ->(Nat->Nat)->AL)(nf:(Nat->Nat)->Nat)(U:Nat->Nat)
  (bp:BE s.e g=.fn f (EK (lid::L) caps)) (bq:FM (L.length+1) caps=true) (a8:Fe s.h (lid::L) hB) (cn:hget hB 1000=none) (br:(lid::L).Nodup) (bs:Mk s.h=true)
  (ao:LX (Hf st0 U) s.h) (aq:∀j∈lid::L,hget (Hf st0 U) j=none) (ae:∀st i,hget (Hf st i) lid=none) (bt:s.n+1<=nf U) (hg:∀i,s.n<nf i) (bu:(ps.toList.all λp=>Nat.blt p s.N)=true) (ar:(Ca asg&&Ca bd)=true)
  (au:∀W:FE,W.P=P->W.A=TK pd F st0->BI P f (L.length+1) (.yld 1000 s.n::caps) ((1000,some (.cal s.n W []))::hB) (Post W))
  (av:pd st0=none)
  (aa:∀st y st' i,F st y=some st'->pd st=none/\y.length=ps.toList.length/\AW P asg (Jh P lid s.n bd λc h' n'=>c=(pd st').isNone/\∃i',(∀id o,hget ((lid,some (.lp s.n s.e s.N ps.toList asg bd (Io (pd st')) (pd st')))::Hf st' i') id=some o->hget h' id=some o)/\n'<=nf i')
   ⟨Ou ps.toList (y.map .r) s.e,(lid,some (.lp s.n s.e s.N ps.toList asg bd .ready none))::Hf st i,nf i,s.N⟩)
  (bv : ∃ fn, P.funcs[f]? = some fn /\ fn.body.isNone = false /\ (fn.name == "runtime.NumGoroutine") = false)
  (af:∀W r h',W.A=TK pd F st0->Post W r h'->∃ys C,hget h' 1000=some (.cal s.n W ys)/\EC F ys st0=some C/\∀i,match pd C with
   | none=>Q .normal ⟨s.e,Hf C i,nf i,s.N⟩
   | some c=>AW P c Q ⟨s.e,Hf C i,nf i,s.N⟩) :
  AW P (.rangeFunc g ps asg bd) Q s:=by
 intro z hz c0 a w ⟨ds,aw,hsz,y,bw,V,ax,hH,hn,he⟩
 have bx:z=none:=hz.resolve_right (by simp[Ca])
 subst bx
 subst bw
 obtain⟨fn,hf,ac,ag⟩:=bv
 obtain⟨code,bz⟩:∃code,fn.body=some code:=by
  cases h:fn.body with
  | none=>rw[h] at ac;cases ac
  | some c=>exact⟨c,rfl⟩
 have X:=he.eval g
 rw[bp] at X
 generalize ay:a.eval g=gv at X
 cases X with
 | @fn _ _ us az c1=>
 refine wpIn_rangeFunc λb0 _=>?_
 obtain⟨q1,q2⟩:=wS ax (.deferred (some []))
 let lp:AU:=.lp s.n s.e s.N ps.toList asg bd .ready none
 have b1:∀r:Loop,r.params=ps->r.assign=asg->r.body=bd->r.state=.ready->r.pending=none->r.tmps=a.tmps ->
   ∃z:Cx,z.w=(y.w.alloc (.deferred (some []))).alloc (.loop r)/\y.le z/\z.ok/\z.H=hget ((lid,some lp)::s.h)/\z.n=s.n+1/\z.S y.w.heap.size/\z.β lid=some (y.w.heap.size+1,1) /\
    (∀d,z.S d↔y.S d\/d=y.w.heap.size)/\z.F=y.F/\(∀i,i≠lid->z.β i=y.β i/\z.K i=y.K i)/\∀j,z.K lid j=none:=by
  intro r T e2 e3 e4 e5 e6
  have b3:=ES q2 lid lp ((y.w.alloc (.deferred (some []))).alloc (.loop r)) (some (y.w.heap.size+1,1)) (s.n+1) (by simp) rfl rfl rfl
   (λc hc _=>Below.heap_alloc _ _ _ hc) (λc k hc=>by
    simp only[xF,xM] at hc
    obtain⟨rfl,rfl⟩:=hc
    exact⟨by simp,.inl (by simp)⟩) (by show y.n<=s.n+1;omega) (ye _) (λah=>by
     have:s.n<y.n:=ah
     omega)
   (λb4=>⟨y.w.heap.size+1,r,rfl,by
    have:=World.alloc_heap_new (y.w.alloc (.deferred (some []))) (.loop r)
    rwa [World.size_alloc] at this,by simp[T],e2,e3,e4,e5,by rw[e6];exact hsz,λt=>by rw[e6];exact((he t).mono q1).mono b4⟩)
  refine⟨_,rfl,q1.trans b3.1,b3.2,?_,rfl,.inr rfl,by simp,λd=>Iff.rfl,rfl,λi E=>⟨wv λe=>E e.symm,wv λe=>E e.symm⟩,λj=>by simp⟩
  funext i
  simp only[BG]
  rw[hH]
 obtain⟨r,hr⟩:∃r:Loop,r = { state:=.ready,pending:=none,fn:=b0,tmps:=a.tmps,params:=ps,assign:=asg,body:=bd,defers:=y.w.heap.size }:=⟨_,rfl⟩
 obtain⟨x,A,c2,ad,ai,c3,b5,b6,b7,c4,c5,c6⟩:=b1 r (by rw[hr]) (by rw[hr]) (by rw[hr]) (by rw[hr]) (by rw[hr]) (by rw[hr])
 have cp:x.H lid=some lp:=by rw[ai,BG,ww rfl]
 have c7:x.w.heap[y.w.heap.size]?=some (.deferred (some [])):=by
  rw[A];exact(Below.heap_alloc _ _ _ (by simp)).trans (World.alloc_heap_new _ _)
 let q:Cx:={ y with w:=y.w.alloc (.deferred (some [])),S:=λb=>y.S b\/b=y.w.heap.size }
 obtain⟨t1,t2⟩:=Cx.ok.turn (x:=q) q2 (w':=x.w) (by rw[A];simp[q]) (by rw[A];rfl) (by rw[A];rfl) (by rw[A];rfl) (λd hd=>by
  have ah:d<q.w.heap.size:=by
   rcases hd with hd | hd | ⟨id,o,k,T,e2⟩
   .exact q2.S_lt d hd
   .exact q2.F_lt d hd
   .exact(q2.own' id o d k T e2).1
  rw[A];exact Below.heap_alloc _ _ _ ah)
 let m:Cx:={ q with w:=x.w }
 have c8:y.le m:=q1.trans t1
 have cl:q.w.heap.size=y.w.heap.size+1:=World.size_alloc _ _
 have cm:x.w.heap.size=y.w.heap.size+2:=by rw[A];simp
 have b8:(m.view (lid::L) hB).ok:=Vf (z:=m) t2 hH a8 br
 have c9:=b8.fence (λ_=>False) (λb h=>h.elim) (λb _ h=>h.elim) (λid o b k _ _ h=>h.elim)
 have ca:∀id o b k,(m.view (lid::L) hB).H id=some o->(m.view (lid::L) hB).atk id b k->¬ (m.S b\/m.F b):=λid o b k h l hs=>by
  obtain⟨_,k2,k3⟩:=b8.own' id o b k h l
  exact hs.elim k2 λh=>k3 (.inl h)
 obtain⟨r1,r2⟩:=Xh c9 (λb=>m.S b\/m.F b) (hget hB) m.n (wy _) (λb h=>.inl h) (λb h=>h.elim (t2.S_lt b) (t2.F_lt b)) (λb _ h=>h) (λid o h=>⟨o,h,rfl,rfl,λb k l=>ca id o b k h l,λ_=>rfl,λ_ h=>h⟩)
 let v3:Cx:={ m.view (lid::L) hB with F:=λ_=>False,S:=λb=>m.S b\/m.F b,H:=hget hB,n:=m.n }
 have r2:v3.ok:=r2
 let κ0:Nat->Prop:=λd=>∃id o k,id ∉ lid::L/\m.H id=some o/\m.atk id d k
 let S0:Nat->Prop:=λd=>x.S d\/x.F d
 let Z:σ->AU:=λs1=>.lp s.n s.e s.N ps.toList asg bd (Io (pd s1)) (pd s1)
 have b9:Z st0=lp:=by simp only[Z,av];rfl
 let W:FE:=VK P x lid (y.w.heap.size+1) Z pd F st0 Hf nf
 have cb:∀d,S0 d↔v3.S d:=λd=>by
  show x.S d\/x.F d↔(y.S d\/d=y.w.heap.size)\/y.F d
  rw[b7,c4]
 have aj:y.w.heap.size+1<x.w.heap.size/\¬ v3.S (y.w.heap.size+1)/\¬ v3.F (y.w.heap.size+1)/\∀id o k',v3.H id=some o->v3.atk id (y.w.heap.size+1) k'->False:=by
  have ba:∀d,m.S d\/m.F d->d<y.w.heap.size+1:=λd hd=>by
   have:d<q.w.heap.size:=hd.elim (q2.S_lt d) (q2.F_lt d)
   omega
  refine⟨by omega,λh=>by have:=ba _ h;omega,λh=>h,λid o k' h l=>?_⟩
  obtain⟨_,_,h3,_⟩:=a8.get h
  have:y.w.heap.size+1<q.w.heap.size:=(q2.own' (Bz (lid::L) id) _ _ k' (show y.H _=_ by rw[hH];exact h3) l).1
  omega
 have bb:=jU (P:=P) (x:=x) (lid:=lid) (b:=y.w.heap.size+1) (g:=s.n) (N:=s.N) (e:=s.e) (ps:=ps.toList) (asg:=asg) (bd:=bd) (F:=F) (st0:=st0) (pd:=pd) (Hf:=Hf) (nf:=nf) (λd I h2=>ad.SF d h2 I) hg bu ar aa
 have cc:cY x lid (y.w.heap.size+1) Z F st0 Hf nf [] x.w κ0:=by
  have a0:∀id o,hget ((lid,some lp)::Hf st0 U) id=some o->x.H id=some o:=λid o B=>by
   rw[BG] at B
   rw[ai,BG]
   split at B
   .rename_i E;rw[ww E];exact B
   .rename_i E;rw[wv E]
    rcases ao.get id with T | T
    .rw[T] at B;cases B
    .rw[<- T];exact B
  obtain⟨f1,f2⟩:=Qt ad (hget ((lid,some lp)::Hf st0 U)) a0 (nf U) (by rw[c3];exact bt)
  refine⟨{ x with H:=hget ((lid,some lp)::Hf st0 U),n:=nf U },st0,U,rfl,rfl,f2,f1,by rw[b9],rfl,b6,λid o d k B l=>?_,λd hd=>.inl (.inl hd)⟩
  by_cases E:id=lid
  .subst E
   left
   rcases l with l | ⟨j,l⟩
   .have l:x.β id=some (d,k):=l
    rw[b6] at l
    simp only[xF,xM] at l
    exact l.1.symm
   .have l:x.K id j=some (d,k):=l
    rw[c6] at l;cases l
  .right
   have hx:=a0 id o B
   have cd:y.H id=some o:=by rw[ai,BG,wv λe=>E e.symm] at hx;rw[hH];exact hx
   refine⟨id,o,k,λhm=>?_,cd,?_⟩
   .have:=aq id hm
    have bc:hget (Hf st0 U) id=some o:=by have B:hget ((lid,some lp)::Hf st0 U) id=some o:=B;rwa [BG,wv λe=>E e.symm] at B
    rw[this] at bc;cases bc
   .have I:=c5 id E
    rcases l with l | ⟨j,l⟩
    .exact .inl (by have l:x.β id=some (d,k):=l;rwa [I.1] at l)
    .exact .inr ⟨j,by have l:x.K id j=some (d,k):=l;rwa [I.2] at l⟩
 have be:∀d,κ0 d->d<y.w.heap.size+1/\¬ v3.S d/\¬ v3.F d/\∀id o k',v3.H id=some o->v3.atk id d k'->False:=λd ⟨id,o,k,T,e2,e3⟩=>by
  obtain⟨k1,k2,k3⟩:=q2.own' id o d k e2 e3
  have k1:d<q.w.heap.size:=k1
  refine⟨by omega,λh=>h.elim k2 k3,λh=>h,λid' o' k' h' cf=>?_⟩
  obtain⟨I,h2,h3,_⟩:=a8.get h'
  have:=q2.inj' (id:=id) (id':=Bz (lid::L) id') e2 (show y.H _=_ by rw[hH];exact h3) e3 cf
  exact T (this ▸ Se I h2)
 have hv:=r2.add 1000 (.cal s.n W []) (some (y.w.heap.size+1,1)) (λj=>if κ0 j then some (j,0) else none) (s.n+1) (by show y.n<=s.n;omega) (ye _) rfl
  (λb k hb=>by
   simp only[xF,xM] at hb
   obtain⟨rfl,rfl⟩:=hb
   exact aj)
  (λj d k hb=>by
   split at hb
   .rename_i hj
    simp only[xF,xM] at hb
    obtain⟨rfl,rfl⟩:=hb
    obtain⟨k1,k2,k3,k4⟩:=be j hj
    refine⟨⟨by show j<x.w.heap.size;omega,k2,k3,k4⟩,λk' J=>?_,λj' k' J=>?_⟩
    .simp only[xF,xM] at J
     omega
    .split at J
     .simp only[xF,xM] at J
      exact J.1
     .cases J
   .cases hb)
  ⟨κ0,rfl,bb,cc,λd hd=>⟨d,0,ww hd⟩,λd hd=>(cb d).1 hd⟩
 obtain⟨v,M⟩:∃v:Cx,v=v3.add 1000 (.cal s.n W []) (some (y.w.heap.size+1,1)) (λj=>if κ0 j then some (j,0) else none) (s.n+1):=⟨_,rfl⟩
 rw[<- M] at hv
 have cg:v.H=hget ((1000,some (.cal s.n W []))::hB):=by
  rw[M];funext i;rw[BG];rfl
 have ch:v.w=x.w:=by rw[M];rfl
 have ak:Fy v (.yld 1000 s.n::caps) (#[Value.func (.yield (y.w.heap.size+1)) #[] #[]]++us).toList:=by
  refine⟨by rw[GQ] at az;simp[az],λi c u I h2=>?_⟩
  cases i with
  | zero=>
   simp only[List.getElem?_cons_zero,xF] at I
   have al:some (Value.func (.yield (y.w.heap.size+1)) #[] #[])=some u:=by simpa using h2
   cases al;subst I
   exact .yld (by rw[M];exact ye _) rfl λo B _=>⟨y.w.heap.size+1,1,by rw[M];simp[Cx.add],rfl⟩
  | succ i=>
   have al:us[i]?=some u:=by simpa[Array.getElem?_append] using h2
   have bf:caps[i]?=some c:=by simpa using I
   have h3:=(c1 i (ren (lid::L) c) u (by rw[Gh,bf];rfl) al).mono c8
   have h4:AP (m.view (lid::L) hB) c u:=RL (x:=m) (y:=m.view (lid::L) hB) (L:=lid::L) (k:=(lid::L).length) rfl (λ_ h=>h) (wy _) (Tc hH a8) h3 c rfl (Gv bq bf)
   have h5:AP v3 c u:=(h4.fence λ_=>False).mono r1
   rw[M]
   exact h5.add 1000 _ _ _ _ (by show y.n<=s.n;omega) (by show y.n<=s.n+1;omega) rfl
 have ab:∀(args:Array Value) (w:World),(callFunc f args).run P w=.ok (.enter f args) w:=λargs w=>by
  simp only[callFunc,Sem.run_bind,run_program,Result.andThen_ok,hf,ag,bz]
  simp[Sem.run_pure]
 refine⟨y.w.heap.size+1,[{ target:=.collected y.w.heap.size,args:=#[] }],x.w,{ target:=.fn (.func f) us,args:=#[.func (.yield (y.w.heap.size+1)) #[] #[]] },x.w,f,
  #[.func (.yield (y.w.heap.size+1)) #[] #[]]++us,x.w,?_,?_,λ_ _=>trivial,?_,λe=>(by cases e),?_⟩
 .rw[A,hr];exact run_enterLoop_outer _ _ _ _ _
 .simp only[resolve,ay,Deferred.ofValue]
  simp[Act.eval,go_sem]
 .simp[invoke,ab]
 .have bg:=(au W rfl rfl).2 v _ hv cg ak
  rw[ch] at bg
  have cj:CallsIn (zF none) (0-1) P f (#[.func (.yield (y.w.heap.size+1)) #[] #[]]++us) x.w _:=callsIn_wide.2 bg
  refine cj.mono λe w' ⟨u,v',rv,h',he',bh,cq,bi,bj,_,_,_,hp⟩=>?_
  subst he'
  subst bh
  obtain⟨ys,C,an,a1,hQ⟩:=af _ _ _ rfl hp
  obtain⟨_,κ',m1,m2,⟨z,st,i,k1,k2,k3,k4,k5,k6,k7,k8,k9⟩,m4,m5⟩:=bi.obj 1000 _ (by rw[bj];exact an)
  have cr:v'.β 1000=some (y.w.heap.size+1,1):=m1
  have bk:z.H lid=some (Z st):=by rw[k5,BG,ww rfl]
  obtain⟨_,b2,O,n1,n2,_,_,_,n6,n7,_⟩:=k3.obj lid _ bk
  rw[k7] at n1
  simp only[xF,xM,zt] at n1
  subst n1
  rw[k1] at a1
  cases a1
  rw[k2] at n2
  have bl:=run_endLoop (P:=P) n2 (by rw[n6];unfold Io;split<;>exact λh=>by cases h)
  rw[<- k2] at n2
  obtain⟨u1,u2⟩:=VA (st':=.exhausted) (pd':=O.pending) k3 bk k7 n2
  have ck:({ O with state:=.exhausted,pending:=O.pending } : Loop) = { O with state:=.exhausted }:=rfl
  rw[ck] at u1 u2
  obtain⟨f1,f2⟩:=Qt u2 (hget (Hf C i)) (λid o B=>by
   show(if lid=id then _ else z.H id)=_
   by_cases E:lid=id
   .subst E;rw[ae] at B;cases B
   .rw[wv E,k5,BG,wv E];exact B) (nf i) (by show z.n<=nf i;rw[k6];exact wy _)
  have a2:=((c2.trans k4).trans u1).trans f1
  have a6:D9 c0 ⟨s.e,Hf C i,nf i,s.N⟩ { a with defers:=[{ target:=.collected y.w.heap.size,args:=#[] }]++a.defers } (z.w.putObj (y.w.heap.size+1) (.loop { O with state:=.exhausted })):=by
   refine⟨{ target:=.collected y.w.heap.size,args:=#[] } :: ds,by rw[<- aw];rfl,hsz,_,rfl,⟨V.le.trans a2,⟨List.nodup_cons.2 ⟨λbm=>?_,V.marks.1.1⟩,λ_ j oj hj=>?_⟩,λd hd=>?_⟩,f2,rfl,rfl,he.mono a2⟩
   .obtain⟨D,I,_,h3,_⟩:=V.marks.2 _ bm
    have:=ax.S_lt D h3
    simp only[Deferred.mk.injEq,Target.collected.injEq] at I
    omega
   .cases bn:oj.isCal with
    | false=>rfl
    | true=>
     obtain⟨o1,T,_,e2,_⟩:=a2.H j oj hj (.inr bn)
     rw[hH] at T
     have:=nb bs T
     rw[T5 e2,bn] at this
     cases this
   .have bo:=(k4.trans u1).trans f1
    rcases yD.1 hd with rfl | hd
    .exact⟨_,rfl,V.le.size,bo.S _ b5,(bo.blk _ (.inl b5)).trans c7⟩
    .obtain⟨D,I,h2,h3,h4⟩:=V.marks.2 d hd
     exact⟨D,I,h2,a2.S D h3,(a2.blk D (.inl h3)).trans h4⟩
  rw[k2] at a6
  refine⟨O.pending,_,bl,?_⟩
  have a7:=hQ i
  rw[<- n7] at a7
  split
  .rename_i hp
   rw[hp] at a7
   exact⟨by simp,_,a7,a6⟩
  .rename_i c hp
   rw[hp] at a7
   exact a7 none (.inl rfl) c0 _ _ a6
end
end Go.Proofs.YtcgleifameckmaaGreatDoor.Al

namespace Go.Proofs.YtcgleifameckmaaGreatDoor.Al
def m2{σ:Type}(f:Int->Int->Option σ):List RV->Option σ
 | [.int .i64 a,.int .i64 b]=>f a b
 | _=>none
theorem mI{σ:Type}{f:Int->Int->Option σ}{y:List RV}{r:σ}(h:m2 f y=some r):∃a b,y=[.int .i64 a,.int .i64 b]/\f a b=some r:=by
 unfold m2 at h
 split at h
 .exact⟨_,_,rfl,h⟩
 .cases h
def rng2{σ:Type}(it:(List (List RV)->Option Bool)->Option (List (List RV)))(F:σ->Int->Int->Option σ)(st0:σ):Option σ:=
 (it (LR (λs=>m2 (F s)) st0)).bind λj=>EC (λs=>m2 (F s)) j st0
section
variable{P:Program}{s:St}
theorem Xd{c}{Q}(h:AW P c (λe s=>∃j,AZ s j/\Q e j) s):AW P c Q s:=
 λz l m a w q=>wpIn_mono (h z l m a w q) λ_ _ _ ⟨A,I,⟨B,C,E⟩,F⟩=>⟨A,B,E,C _ _ _ F⟩
def fu{σ:Type}(lid:Nat)(lp:AU)(Hf:σ->(Nat->Nat)->AL)(nf:(Nat->Nat)->Nat)(st':σ)(c:Bool)(h':AL)(n':Nat):Prop:=
 c=true/\∃j,(∀id o,hget ((lid,some lp)::Hf st' j) id=some o->hget h' id=some o)/\n'<=nf j
theorem AW.rng2{σ:Type}{g:Operand}{ps:Array Tmp}{asg bd:Code}{Q:Exit->St->Prop}{f:FuncId}{caps:List AV}{L:List Nat}{hB:AL}{it:(List (List RV)->Option Bool)->Option (List (List RV))}{F:σ->Int->Int->Option σ}{st0 w:σ}(lid:Nat)(Hf:σ->(Nat->Nat)->AL)(nf:(Nat->Nat)->Nat)(i0:Nat->Nat)
  (hit:rng2 it F st0=some w)
  (a0:BE s.e g=.fn f (EK (lid::L) caps)) (a1:FM (L.length+1) caps=true) (a2:Fe s.h (lid::L) hB) (a6:hget hB 1000=none) (a7:(lid::L).Nodup) (a8:Mk s.h=true)
  (U:LX (Hf st0 i0) s.h) (V:((lid::L).all λj=>(hget (Hf st0 i0) j).isNone)=true) (C:∀O i,hget (Hf O i) lid=none) (aa:s.n+1<=nf i0) (hg:∀i,s.n<nf i) (I:(ps.toList.length==2&&ps.toList.all λp=>Nat.blt p s.N)=true) (X:(Ca asg&&Ca bd)=true)
  (ab : ∃ fn, P.funcs[f]? = some fn /\ fn.body.isNone = false /\ (fn.name == "runtime.NumGoroutine") = false)
  (Z:∀(W:FE) T,W.P=P->it W.A=some T->∃Post,BI P f (L.length+1) (.yld 1000 s.n::caps) ((1000,some (.cal s.n W []))::hB) Post/\∀r q,Post r q->hget q 1000=some (.cal s.n W T))
  (l:∀(E:Aa) (A B:Code),A=asg->B=bd->∀O a b m i,F O a b=some m->AW P asg (Jh P lid s.n bd (fu lid (.lp s.n E s.N ps.toList A B .ready none) Hf nf m))
   ⟨Ou ps.toList [.r (.int .i64 a),.r (.int .i64 b)] s.e,(lid,some (.lp s.n E s.N ps.toList A B .ready none))::Hf O i,nf i,s.N⟩)
  (J:∀i,Q .normal ⟨s.e,Hf w i,nf i,s.N⟩):AW P (.rangeFunc g ps asg bd) Q s:=by
 unfold Al.rng2 at hit
 rw[Option.bind_eq_some_iff] at hit
 obtain⟨T,ac,M⟩:=hit
 simp only[xE,beq_iff_eq] at I
 refine wd (Post:=λW r q=>W.A=LR (λs=>m2 (F s)) st0->hget q 1000=some (.cal s.n W T)) lid (λ_=>none) (λs=>m2 (F s)) st0 Hf nf i0 a0 a1 a2 a6 a7 a8 U (λj hj=>by
   have:=xf.1 V j hj
   simpa using this) C aa hg I.2 X (λW hP (hA:W.A=LR (λs=>m2 (F s)) st0)=>?_) rfl (λO y m i ad=>?_) ab (λW r q hA hp=>⟨T,w,hp hA,M,J⟩)
 .obtain⟨Post,h1,h2⟩:=Z W T hP (by rw[hA];exact ac)
  refine⟨h1.1,λx vs ae hH ha=>(h1.2 x vs ae hH ha).mono λe w' ⟨u,y,r,q,k1,k2,k3,k4,k5,k6,k7,k8,k9⟩=>⟨u,y,r,q,k1,k2,k3,k4,k5,k6,k7,k8,λ_=>h2 r q k9⟩⟩
 .obtain⟨a,b,rfl,hF⟩:=mI ad
  exact⟨rfl,by simp[I.1],l s.e asg bd rfl rfl O a b m i hF⟩
theorem Qs{σ:Type}{lid g N:Nat}{E:Aa}{ps:List Nat}{A B:Code}{Hf:σ->(Nat->Nat)->AL}{nf:(Nat->Nat)->Nat}{t st':σ}(e:some t=some st')(m:Nat->Nat)(q:s.h=(lid,some (.lp g E N ps A B .busy none))::Hf t m)(w:s.n<=nf m) :
  I0 lid g (fu lid (.lp g E N ps A B .ready none) Hf nf st') .normal s:=by
 cases e
 refine⟨E,N,ps,A,B,by rw[q,BG,ww rfl],rfl,m,λid o j=>?_,w⟩
 rw[BG] at j ⊢
 split
 .rename_i l;rw[ww l] at j;exact j
 .rename_i l
  rw[wv l] at j
  rw[q,BG,wv l]
  exact j
theorem hZ{id g}{bd}{C}{e0}{N}{ps}{asg j}(l:hget s.h id=some (.lp g e0 N ps asg j .ready none))(hw:AW P bd (I0 id g C) ⟨s.e,(id,some (.lp g e0 N ps asg j .busy none))::s.h,s.n,s.N⟩):Jh P id g bd C .normal s:=
 ⟨e0,N,ps,asg,j,l,hw⟩
end
section
variable{P:Program}{ops:Array Oper}{rest:List Oper}{s:St}{K:St->Prop}{o:Oper}
theorem Bn.step{d}{v}{h'}{n'}(hg:o.guard=none)(hd:o.dst=some d)(j:Nat.blt d s.N=true)(l:Az P true o s.e s.h s.n v h' n')
 (m:Bn P ops rest { e := (d, v)::s.e, h := h', n := n', N := s.N } K):Bn P ops (o::rest) s K :=
  Bn.cons (AN.step (K := λt => t = { e := (d, v)::s.e, h := h', n := n', N := s.N }) hg hd j l (AN.nil rfl)) λq e => e ▸ m
end
open Go.ChangeMaps (setBlock)
open Go.MapKept Go.RowKit
def AR{α:Type} : List (Int × α)->Int->Option α
 | [],_=>none
 | p::r,k=>if k=p.1 then some p.2 else AR r k
def Am{α:Type} : List (Int × α)->Int->α->List (Int × α)
 | [],k,v=>[(k,v)]
 | p::r,k,v=>if k=p.1 then(k,v)::r else p::Am r k v
def Ap{α β:Type}(rd:α->β)(m:List (Int × α)):List (Int × β):=m.map λp=>(p.1,rd p.2)
theorem Lz{α β:Type}(rd:α->β) m k:AR (Ap rd m) k=(AR m k).map rd:=by
 induction m with
 | nil=>rfl
 | cons p r j=>
  show(if k=p.1 then some (rd p.2) else AR (Ap rd r) k)=(if k=p.1 then some p.2 else AR r k).map rd
  split
  .rfl
  .exact j
theorem SX{α β:Type}(rd:α->β) m k(v:α):Am (Ap rd m) k (rd v)=Ap rd (Am m k v):=by
 induction m with
 | nil=>rfl
 | cons p r j=>
  show(if k=p.1 then(k,rd v)::Ap rd r else(p.1,rd p.2)::Am (Ap rd r) k (rd v))=Ap rd (if k=p.1 then(k,v)::r else p::Am r k v)
  split
  .rfl
  .rw[j];rfl
theorem E2{α:Type}{l:List (Int × α)}{k:Int}(h:Ao l k=none):AR l k=none/\∀v,Am l k v=l++[(k,v)]:=by
 induction l with
 | nil=>exact⟨rfl,λ_=>rfl⟩
 | cons p r q=>
  unfold Ao at h
  split at h
  .cases h
  .rename_i m
   have w:Ao r k=none:=by cases A:Ao r k with | none=>rfl | some j=>rw[A] at h;cases h
   obtain⟨B,e2⟩:=q w
   exact⟨by unfold AR;rw[wv m,B],λv=>by unfold Am;rw[wv m,e2];rfl⟩
theorem DT{α:Type}{l:List (Int × α)}{k}{j}(h:Ao l k=some j):∃v,l[j]?=some (k,v)/\AR l k=some v/\∀w,Am l k w=l.set j (k,w):=by
 induction l generalizing j with
 | nil=>cases h
 | cons p r q=>
  unfold Ao at h
  split at h
  .rename_i m
   cases h
   subst m
   exact⟨p.2,rfl,by unfold AR;rw[ww rfl],λw=>by unfold Am;rw[ww rfl];rfl⟩
  .rename_i m
   rw[xK] at h
   obtain⟨E,A,rfl⟩:=h
   obtain⟨v,B,e2,C⟩:=q A
   exact⟨v,B,by unfold AR;rw[wv m,e2],λw=>by unfold Am;rw[wv m,C];rfl⟩
theorem dY{α:Type}{l:List (Int × α)}{k}{j}(h:Ao l k=some j):j<l.length:=by
 obtain⟨v,m,_⟩:=DT h
 exact(wx.1 m).1
theorem VY{α β:Type}(f:Int × α->Int × β)(j:∀p,(f p).1=p.1)(m:List (Int × α))(k:Int):Ao (m.map f) k=Ao m k:=by
 induction m with
 | nil=>rfl
 | cons p r l=>
  show(if k=(f p).1 then some 0 else(Ao (r.map f) k).map (· + 1))=(if k=p.1 then some 0 else(Ao r k).map (· + 1))
  rw[j,l]
def GB{α:Type}(l:List (Int × α))(q:List MapEntry):Prop:=q.length=l.length/\∀(j:Nat) (k:Int) (d:α),l[j]?=some (k,d)->∃m,q[j]?=some m/\m.key=.int .i64 k/\m.born=j
theorem gY{α:Type} k:∀(l:List (Int × α)) (w:List MapEntry) (i:Nat),w.length=l.length->(∀(j:Nat) (A:Int) (d:α),l[j]?=some (A,d)->∃m,w[j]?=some m/\m.key=.int .i64 A) ->
  Instr.findNow (.int .i64) (.int .i64 k) w i=some ((Ao l k).map λj=>(i+j,((w[j]?).map (·.val)).getD undef))
 | [],[],i,_,_=>rfl
 | [],_::_,i,h,_=>by simp at h
 | _::_,[],i,h,_=>by simp at h
 | p::l,e::w,i,h,B=>by
  obtain⟨m,C,E⟩:=B 0 p.1 p.2 rfl
  cases C
  have F:=gY k l w (i+1) (by simpa using h) λj A d I=>B (j+1) A d I
  simp only[Instr.findNow,E,Instr.sameNow,zm,Ao]
  by_cases q:k=p.1
  .rw[ww q,show(k==p.1)=true by simpa using q];simp
  .rw[wv q,show(k==p.1)=false by simpa using q]
   simp only[F]
   cases Ao l k with
   | none=>rfl
   | some j=>simp[yz,Nat.add_comm 1 j]
theorem GB.find{α:Type}{l:List (Int × α)}{q:List MapEntry}(h:GB l q)(k:Int):Instr.findNow (.int .i64) (.int .i64 k) q.toArray.toList 0=some ((Ao l k).map λj=>(j,((q[j]?).map (·.val)).getD undef)):=by
 have:=gY k l q 0 h.1 λj w d A=>by obtain⟨m,B,C,_⟩:=h.2 j w d A;exact⟨m,B,C⟩
 simpa using this
section
variable{P:Program}
theorem MK{α:Type}{l:List (Int × α)}{m:List MapEntry}(q:GB l m){t B C:TypeId}(F:P.underlying t=some (.map B C))(E:P.underlying B=some (.int .i64)){w:World}{b clock:Nat}
  (I:w.heap[b]?=some (.map m.toArray clock)) (k:Int) (A:Value) (J:(zeroValue C).run P w=.ok A w) (ok:Bool) :
  (Instr.lookup t (.map (some b)) (.int .i64 k) ok).run P w=.ok (match Ao l k with
   | some j=>if ok then .tuple #[((m[j]?).map (·.val)).getD undef,.bool true] else((m[j]?).map (·.val)).getD undef
   | none=>if ok then .tuple #[A,.bool false] else A) w:=by
 have M:=run_findKey (P:=P) (w:=w) E (q.find k)
 unfold Instr.lookup
 simp only[Sem.run_bind,run_underlying F,Result.andThen_ok,MapKept.run_getObj_map I,Sem.run_pure,run_checkKey E (k:=.int .i64 k) (by simp[IsKey]),M]
 cases Ao l k with
 | none=>cases ok<;>simp[J]
 | some j=>cases ok<;>simp
def Eu(l:List MapEntry)(k:Int)(j:Option Nat)(y:Value):List MapEntry:=match j with
 | none=>l++[{ key:=.int .i64 k,val:=y,born:=l.length }]
 | some j=>l.modify j λe=>{ e with key:=.int .i64 k,val:=y }
theorem RO{α:Type}{l:List (Int × α)}{A:List MapEntry}(q:GB l A){t C F:TypeId}(I:P.underlying t=some (.map C F))(E:P.underlying C=some (.int .i64)){w:World}{b:Nat}
  (B:w.heap[b]?=some (.map A.toArray l.length)) (k:Int) (y:Value) :
  (Instr.mapUpdate t (.map (some b)) (.int .i64 k) y).run P w=.ok () { w with heap:=w.heap.setIfInBounds b (.map (Eu A k (Ao l k) y).toArray (Eu A k (Ao l k) y).length) }:=by
 have J:=run_findKey (P:=P) (w:=w) E (q.find k)
 unfold Instr.mapUpdate
 simp only[Sem.run_bind,run_underlying I,Result.andThen_ok,MapKept.run_getObj_map B,run_checkKey E (k:=.int .i64 k) (by simp[IsKey]),J]
 cases M:Ao l k with
 | none=>
  simp only[zY]
  rw[run_setObj_map _ B]
  simp[Eu,q.1]
 | some j=>
  obtain⟨v,O,_⟩:=DT M
  obtain⟨m,T,U,X⟩:=q.2 j k v O
  have V:A.toArray[j]?=some m:=by simpa using T
  simp only[yF,V,yP,U]
  simp[Instr.keyThatStays,Instr.sameBits]
  rw[run_setObj_map _ B]
  simp[Eu,q.1]
theorem gj{α:Type}{l:List (Int × α)}{A:List MapEntry}(q:GB l A)(k:Int)(y:Value)(v:α):GB (Am l k v) (Eu A k (Ao l k) y)/\(Eu A k (Ao l k) y).length=(Am l k v).length /\
  ∀(j:Nat) (w:Int) (d:α),(Am l k v)[j]?=some (w,d)->∃m,(Eu A k (Ao l k) y)[j]?=some m/\m.key=.int .i64 w/\m.born=j /\
   ((Ao l k=some j\/(Ao l k=none/\j=l.length))/\w=k/\d=v/\m.val=y\/Ao l k≠some j/\j<l.length/\l[j]?=some (w,d)/\A[j]?=some m):=by
 have key:(Eu A k (Ao l k) y).length=(Am l k v).length /\
  ∀(j:Nat) (w:Int) (d:α),(Am l k v)[j]?=some (w,d)->∃m,(Eu A k (Ao l k) y)[j]?=some m/\m.key=.int .i64 w/\m.born=j /\
   ((Ao l k=some j\/(Ao l k=none/\j=l.length))/\w=k/\d=v/\m.val=y\/Ao l k≠some j/\j<l.length/\l[j]?=some (w,d)/\A[j]?=some m):=by
  cases O:Ao l k with
  | none=>
   rw[(E2 O).2]
   refine⟨by simp[Eu,q.1],λj w d h=>?_⟩
   by_cases C:j<l.length
   .rw[xT C] at h
    obtain⟨m,E,T,F⟩:=q.2 j w d h
    exact⟨m,by show(A++_)[j]?=_;rw[xT (by rw[q.1];exact C)];exact E,T,F,.inr ⟨(by simp),C,h,E⟩⟩
   .have U:j=l.length:=by have:=(wx.1 h).1;simp at this;omega
    subst U
    rw[xP (wy _)] at h
    simp at h
    obtain⟨rfl,rfl⟩:=h
    exact⟨_,by show(A++_)[l.length]?=_;rw[<- q.1,xP (wy _)];simp;rfl,rfl,q.1,.inl ⟨.inr ⟨rfl,rfl⟩,rfl,rfl,rfl⟩⟩
  | some I=>
   obtain⟨v0,E,_,F⟩:=DT O
   rw[F]
   have J:=dY O
   refine⟨by simp[Eu,q.1],λj w d h=>?_⟩
   by_cases B:I=j
   .subst B
    rw[yw J] at h
    cases h
    obtain⟨m,M,e2,V⟩:=q.2 I k v0 E
    exact⟨{ m with key:=.int .i64 k,val:=y },by show(A.modify I _)[I]?=_;rw[List.getElem?_modify_eq,M];rfl,rfl,V,.inl ⟨.inl rfl,rfl,rfl,rfl⟩⟩
   .rw[yr B] at h
    obtain⟨m,M,e2,V⟩:=q.2 j w d h
    exact⟨m,by show(A.modify I _)[j]?=_;rw[List.getElem?_modify_ne (h:=B)];exact M,e2,V,.inr ⟨(λe=>B (xh e)),(wx.1 h).1,h,M⟩⟩
 exact⟨⟨key.1,λj w d h=>by obtain⟨m,E,T,F,_⟩:=key.2 j w d h;exact⟨m,E,T,F⟩⟩,key⟩
variable{c:Bool}{o:Oper}{R:Aa}{h:AL}{n:Nat}
theorem fY{x:Cx}(A:x.ok){id g}{l:List (Int × RV)}{v}(F:x.H id=some (.md g l))(B:AP x (.mref id g) v) :
  ∃(b:Nat) (q:List MapEntry),x.β id=some (b,1)/\v=.map (some b)/\GB l q/\x.w.heap[b]?=some (.map q.toArray l.length)/\∀(j:Nat) (k:Int) (d:RV) (m:MapEntry),l[j]?=some (k,d)->q[j]?=some m->A4 x.w x.S d m.val:=by
 obtain⟨_,b,q,I,M,O,J⟩:=A.obj _ _ F
 cases B with
 | mref _ _ B=>
  obtain⟨Z,cap,C,T⟩:=B _ F rfl
  rw[I] at C
  simp only[xF,xM] at C
  obtain⟨rfl,rfl⟩:=C
  exact⟨b,q,I,T,⟨O,λj k d E=>by obtain⟨m,w,e2,U,_⟩:=J j k d E;exact⟨m,w,e2,U⟩⟩,M,λj k d m E V=>by
   obtain⟨m',w,_,_,X⟩:=J j k d E
   rw[V] at w;cases w;exact X⟩
theorem uL{t} id(B:o.op=.makeMap t none):Az P c o R h n (.mref id n) ((id,some (.md n []))::h) (n+1):=by
 intro M z w m C q O K Q E
 have l:=ES m id (.md z.n []) (z.w.alloc (.map #[] 0)) (some (z.w.heap.size,1)) (z.n+1) (by simp) rfl rfl rfl
  (λb A _=>heap_alloc_old _ _ A) (λb k A=>by cases A;simp) (by omega) (by simp[AU.gen]) (λhg=>absurd hg (by simp[AU.gen]))
  (λF=>⟨z.w.heap.size,[],rfl,heap_alloc_new _ _,rfl,λj k d I=>by simp at I⟩)
 unfold Oper.wp execOp
 rw[B]
 simp only[zY,Sem.run_bind,run_makeMap,Result.andThen_ok,Sem.run_pure]
 refine E (.map (some z.w.heap.size)) _ l.1 l.2 (by simp only[C,q];exact Ck _ _ _) (by simp[q]) (.mref (by simp[q]) rfl λT J _=>?_)
 exact⟨z.w.heap.size,1,by simp,rfl⟩
theorem MI{α:Type}{rd:α->RV}{t V X:TypeId}{x i:Operand}{id g:Nat}{m:List (Int × α)}{k:Int}(ok:Bool)(E:Value)(z:α)(Z:o.op=.lookup t x i ok)(ht:P.underlying t=some (.map V X))
  (hk:P.underlying V=some (.int .i64)) (hz:∀w,(zeroValue X).run P w=.ok E w) (F:∀w S,A4 w S (rd z) E) (hx:Ev c R x (.mref id g)) (hi:Ev c R i (.r (.int .i64 k))) (hh:hget h id=some (.md g (Ap rd m))) :
  AS P c o R h (match ok with | true=>.tup [.r (rd ((AR m k).getD z)),.r (.bool (AR m k).isSome)] | false=>.r (rd ((AR m k).getD z))):=by
 intro hc y w O hH he
 obtain⟨b,es,h1,h2,T,h4,h5⟩:=fY O (by rw[hH];exact hh) (hx.rep he hc)
 have B:=hi.rep he hc
 generalize I:w.eval i=iv at B
 cases B with
 | r B=>
  cases B with
  | int=>
   have J:∀C:World,DZ y C->C.heap[b]?=some (.map es.toArray (Ap rd m).length):=λC A=>by rw[A b (.inr ⟨id,_,1,by rw[hH];exact hh,.inl h1⟩)];exact h4
   cases M:Ao (Ap rd m) k with
   | none=>
    have hg:AR m k=none:=by
     have:=(E2 M).1
     rw[Lz] at this
     simpa using this
    rw[hg]
    refine⟨match ok with | true=>.tuple #[E,.bool false] | false=>E,λC A=>?_,?_⟩
    .simp only[execOp,Z,h2,I,Sem.run_bind,MK T ht hk (J C A) k E (hz C) ok,M,Result.andThen_ok,Sem.run_pure]
     cases ok<;>simp
    .cases ok
     .exact .r (F _ _)
     .refine .tup rfl λq a' u' l e2=>?_
      rcases q with _ | _ | q
      .simp at l e2;subst l;subst e2;exact .r (F _ _)
      .simp at l e2;subst l;subst e2;exact .r (.bool _)
      .simp at l
   | some j=>
    obtain⟨v,l,e2,_⟩:=DT M
    obtain⟨U,e3,_⟩:=T.2 j k v l
    have hr:=h5 j k v U l e3
    have hg:∃a,AR m k=some a/\rd a=v:=by
     rw[Lz] at e2
     rw[xK] at e2
     exact e2
    obtain⟨a,hg,rfl⟩:=hg
    rw[hg]
    refine⟨match ok with | true=>.tuple #[U.val,.bool true] | false=>U.val,λC A=>?_,?_⟩
    .simp only[execOp,Z,h2,I,Sem.run_bind,MK T ht hk (J C A) k E (hz C) ok,M,e3,Result.andThen_ok,Sem.run_pure]
     cases ok<;>simp
    .cases ok
     .exact .r hr
     .refine .tup rfl λq a' u' l e2=>?_
      rcases q with _ | _ | q
      .simp at l e2;subst l;subst e2;exact .r hr
      .simp at l e2;subst l;subst e2;exact .r (.bool _)
      .simp at l
theorem Lc{α:Type}{rd:α->RV}{t kt et:TypeId}{x i y:Operand}{id g:Nat}{m:List (Int × α)}{k:Int}{a:α}(J:o.op=.mapUpdate t x i y\/o.op=.insert t x i y)(ht:P.underlying t=some (.map kt et))(hk:P.underlying kt=some (.int .i64))
  (hx:Ev c R x (.mref id g)) (hi:Ev c R i (.r (.int .i64 k))) (hy:Ev c R y (.r (rd a))) (hh:hget h id=some (.md g (Ap rd m))) :
  Az P c o R h n .any ((id,some (.md g (Ap rd (Am m k a))))::h) n:=by
 intro O z w q hH hn T K Q hK
 have l:z.H id=some (.md g (Ap rd m)):=by rw[hH];exact hh
 obtain⟨b,U,M,h2,h3,h4,h5⟩:=fY q l (hx.rep T O)
 have C:=hy.rep T O
 have A:=hi.rep T O
 generalize V:w.eval i=iv at A
 cases A with
 | r A=>
  cases A with
  | int=>
   cases C with
   | r C=>
   have E:=(q.own id _ b 1 l M).1
   obtain⟨q1,X,q3⟩:=gj h3 k (w.eval y) (rd a)
   rw[SX] at q1 X q3
   have F:=ES q id (.md g (Ap rd (Am m k a))) { z.w with heap:=z.w.heap.setIfInBounds b (.map (Eu U k (Ao (Ap rd m) k) (w.eval y)).toArray (Eu U k (Ao (Ap rd m) k) (w.eval y)).length) } (some (b,1)) z.n (by simp) rfl rfl rfl
    (λb' _ Z=>by
     have:b≠b':=λe=>Z _ 1 l (by rw[<- e];exact M)
     simp[this])
    (λb' k' a0=>by cases a0;exact⟨by simpa using E,.inr ⟨_,_,l,M⟩⟩) (wy _) (q.obj _ _ l).1 (λ_=>⟨_,l,rfl,rfl,M.symm⟩)
    (λB=>⟨b,Eu U k (Ao (Ap rd m) k) (w.eval y),rfl,by simp[E,X],X,λj k' d hj=>by
     obtain⟨mm,e1,e2,e3,e4⟩:=q3 j k' d hj
     refine⟨mm,e1,e2,e3,?_⟩
     rcases e4 with ⟨_,rfl,rfl,e⟩ | ⟨_,_,f1,f2⟩
     .rw[e];exact C.mono (λb E=>B.blk b (.inl E)) B.S
     .exact(h5 j k' d mm f1 f2).mono (λb E=>B.blk b (.inl E)) B.S⟩)
   have I:=RO h3 ht hk h4 k (w.eval y)
   unfold Oper.wp execOp
   rcases J with J | J<;>
   .rw[J]
    simp only[h2,V,Sem.run_bind,I,Result.andThen_ok,Sem.run_pure]
    exact hK undef _ F.1 F.2 (by simp only[hH];exact Ck _ _ _) hn (.any _)
end
end Go.Proofs.YtcgleifameckmaaGreatDoor.Al

namespace Go.Proofs.YtcgleifameckmaaGreatDoor.Al
open Go.ChangeMaps (setBlock)
open Go.MapKept Go.RowKit
def Cx.tk(x:Cx)(id id':Nat)(o:AU)(w':World)(j:Option (Nat × Nat))(l:Nat->Option (Nat × Nat))(n':Nat):Cx:=
 { x with w:=w',H:=λi=>if id=i then some o else if id'=i then none else x.H i,β:=λi=>if id=i then j else x.β i,K:=λi=>if id=i then l else x.K i,n:=n' }
theorem HD{x:Cx}{id id'}{o}{w'}{j}{l}{n' i}{q}(h:(x.tk id id' o w' j l n').H i=some q) :
  (id=i/\q=o/\(x.tk id id' o w' j l n').β i=j/\(x.tk id id' o w' j l n').K i=l)\/(i≠id/\i≠id'/\x.H i=some q/\(x.tk id id' o w' j l n').β i=x.β i/\(x.tk id id' o w' j l n').K i=x.K i):=by
 unfold Cx.tk at h ⊢
 dsimp only at h ⊢
 by_cases m:id=i
 .rw[ww m] at h ⊢
  cases h
  exact .inl ⟨m,rfl,rfl,by rw[ww m]⟩
 .rw[wv m] at h ⊢
  split at h
  .cases h
  .rename_i w
   exact .inr ⟨λe=>m e.symm,λe=>w e.symm,h,rfl,by rw[wv m]⟩
theorem wN{x:Cx}(q:x.ok) id id'(o:AU)(w':World) β' κ' n' 
 (F:x.w.heap.size<=w'.heap.size) (ab:w'.os=x.w.os) (a1:w'.tape=x.w.tape) (a2:w'.output=x.w.output)
 (a6:∀b, b<x.w.heap.size->(∀i o0, i=id\/i=id'->x.H i=some o0->x.at i b->False)->w'.heap[b]?=x.w.heap[b]?)
 (hβ:∀b k, β'=some (b, k)->b<w'.heap.size/\(x.w.heap.size<=b\/∃i o0, (i=id\/i=id')/\x.H i=some o0/\x.at i b))
 (hκ:∀j b k, κ' j=some (b, k)->(b<w'.heap.size/\(x.w.heap.size<=b\/∃i o0, (i=id\/i=id')/\x.H i=some o0/\x.at i b))/\(∀k', β'=some (b, k')->False)/\∀j' k', κ' j'=some (b, k')->j'=j)
 (hn:x.n<=n') (a7:o.gen<n') (a8:o.gen<x.n\/o.isCal=true->∃o0, x.H id=some o0/\o0.gen=o.gen/\o0.shape=o.shape/\β'=x.β id)
 (ac:o.isFam=true->o.gen<x.n->o.ver<x.n->∃o0, x.H id=some o0/\o0.isFam=true/\o0.gen=o.gen/\o0.ver=o.ver/\o0.kshape=o.kshape/\κ'=x.K id)
 (aa:x.le (x.tk id id' o w' β' κ' n')->CL (x.tk id id' o w' β' κ' n') β' κ' o) :
    x.le (x.tk id id' o w' β' κ' n')/\(x.tk id id' o w' β' κ' n').ok := by
  have A:∀b, (x.w.heap.size<=b\/∃i o0, (i=id\/i=id')/\x.H i=some o0/\x.at i b)->(¬ x.S b/\¬ x.F b)/\∀i J, i≠id->i≠id'->x.H i=some J->x.at i b->False := by
    intro b w
    rcases w with w | ⟨i0, o0, h0, B, C⟩
    · exact⟨⟨λh => by have := q.S_lt b h;omega, λh => by have := q.F_lt b h;omega⟩, λi J _ _ hi ha => by have := (q.at_lt hi ha).1;omega⟩
    · exact⟨(q.at_lt B C).2, λi J E m hi ha => by
        have := q.at_inj hi B ha C
        subst this
        exact h0.elim E m⟩
  have a0:x.le (x.tk id id' o w' β' κ' n') := by
    refine⟨F, ab, a1, a2, λb w => ?_, λ_ h => h, rfl, hn, λi J M hg => ?_, λi J M hf hg hv => ?_⟩
    · refine a6 b (w.elim (q.S_lt b) (q.F_lt b)) λi o0 _ B C => ?_
      have := q.at_lt B C
      exact w.elim this.2.1 this.2.2
    · rcases HD M with ⟨rfl, rfl, B, C⟩ | ⟨_, _, B, C, h3⟩
      · obtain⟨o0, V, e2, e3, e4⟩ := a8 hg
        exact⟨o0, V, e2, e3, by rw[B];exact e4⟩
      · exact⟨J, B, rfl, rfl, C⟩
    · rcases HD M with ⟨rfl, rfl, B, C⟩ | ⟨_, _, B, C, h3⟩
      · obtain⟨o0, V, e0, e2, e3, e4, e5⟩ := ac hf hg hv
        exact⟨o0, V, e0, e2, e3, e4, by rw[C];exact e5⟩
      · exact⟨J, B, hf, rfl, rfl, rfl, h3⟩
  have X:∀i J, i≠id->i≠id'->x.H i=some J->∀b, x.at i b->w'.heap[b]?=x.w.heap[b]? := by
    intro i J E m hi b w
    refine a6 b (q.at_lt hi w).1 λi0 o0 h0 B C => ?_
    have := q.at_inj hi B w C
    subst this
    exact h0.elim E m
  refine⟨a0, λb w => xD (q.S_lt b w) F, λb w => xD (q.F_lt b w) F, q.SF, λi J M => ?_, λi J b k M w => ?_, λi Z o1 o2 b k k' B C w l => ?_, λi J j b c M w => ?_, q.tabs.le a0⟩
  · rcases HD M with ⟨rfl, rfl, B, C⟩ | ⟨E, m, B, C, h3⟩
    · rw[B, C];exact⟨a7, aa a0⟩
    · rw[C, h3]
      obtain⟨V, e2⟩ := q.obj i J B
      exact⟨xD V hn, e2.mono a0 (λb k w => X i J E m B b (.inl ⟨k, w⟩)) λj b k w => X i J E m B b (.inr ⟨j, k, w⟩)⟩
  · rcases HD M with ⟨rfl, rfl, B, C⟩ | ⟨E, m, B, C, h3⟩
    · rw[B] at w
      obtain⟨V, e2⟩ := hβ b k w
      exact⟨V, (A b e2).1⟩
    · rw[C] at w
      have := q.own i J b k B w
      exact⟨xD this.1 F, this.2⟩
  · rcases HD B with ⟨rfl, rfl, V, e2⟩ | ⟨E, m, e0, V, e2⟩<;>rcases HD C with ⟨rfl, rfl, O, f2⟩ | ⟨T, I, f0, O, f2⟩
    · rfl
    · rw[V] at w;rw[O] at l
      exact((A b (hβ b k w).2).2 Z o2 T I f0 (.inl ⟨k', l⟩)).elim
    · rw[V] at w;rw[O] at l
      exact((A b (hβ b k' l).2).2 i o1 E m e0 (.inl ⟨k, w⟩)).elim
    · rw[V] at w;rw[O] at l
      exact q.inj i Z o1 o2 b k k' e0 f0 w l
  · rcases HD M with ⟨rfl, rfl, V, e2⟩ | ⟨E, m, e0, V, e2⟩
    · rw[e2] at w
      obtain⟨⟨B, C⟩, h3, h4⟩ := hκ j b c w
      refine⟨B, (A b C).1.1, (A b C).1.2, λZ o2 k U l => ?_, λZ o2 j' c' U l => ?_⟩
      · rcases HD U with ⟨rfl, rfl, O, f2⟩ | ⟨T, I, f0, O, f2⟩
        · rw[O] at l;exact h3 k l
        · rw[O] at l
          exact(A b C).2 Z o2 T I f0 (.inl ⟨k, l⟩)
      · rcases HD U with ⟨rfl, rfl, O, f2⟩ | ⟨T, I, f0, O, f2⟩
        · rw[f2] at l;exact⟨rfl, h4 j' c' l⟩
        · rw[f2] at l
          exact((A b C).2 Z o2 T I f0 (.inr ⟨j', c', l⟩)).elim
    · rw[e2] at w
      obtain⟨B, C, h3, h4, h5⟩ := q.ext i J j b c e0 w
      refine⟨xD B F, C, h3, λZ o2 k U l => ?_, λZ o2 j' c' U l => ?_⟩
      · rcases HD U with ⟨rfl, rfl, O, f2⟩ | ⟨T, I, f0, O, f2⟩
        · rw[O] at l
          exact(A b (hβ b k l).2).2 i J E m e0 (.inr ⟨j, c, w⟩)
        · rw[O] at l
          exact h4 Z o2 k f0 l
      · rcases HD U with ⟨rfl, rfl, O, f2⟩ | ⟨T, I, f0, O, f2⟩
        · rw[f2] at l
          exact((A b (hκ j' b c' l).1.2).2 i J E m e0 (.inr ⟨j, c, w⟩)).elim
        · rw[f2] at l
          exact h5 Z o2 j' c' f0 l
theorem jS id id' ob h:(λi=>if id=i then some ob else if id'=i then none else hget h i)=hget ((id,some ob)::(id',none)::h):=by
 funext i
 rw[BG,BG]
end Go.Proofs.YtcgleifameckmaaGreatDoor.Al

namespace Go.Proofs.YtcgleifameckmaaGreatDoor.Al
section
variable{P:Program}{ops:Array Oper}{md:Region.Mode}{Q:Exit->Act->World->Prop}{S:World->Prop}
def L5(P:Program)(md:Region.Mode)(ops:Array Oper)(Q:Exit->Act->World->Prop)(S:World->Prop)(L:Array Bool->Act->World->Prop):Nat->Array Bool->Act->World->Prop
 | 0,j,a,w=>L j a w
 | f+1,j,a,w=>Region.ready md ops j≠[]/\∀i∈Region.ready md ops j,wpOp P ops Q i (λl w'=>S w'/\L5 P md ops Q S L f (j.setIfInBounds i true) l w') a w
theorem eK{g}{L}(j:∀listed a w,L listed a w->wpAny P md ops Q g listed a w) :
  ∀(f:Nat) (listed:Array Bool) (a:Act) (w:World),L5 P md ops Q S L f listed a w->wpAny P md ops Q (f+g) listed a w
 | 0,listed,a,w,h=>by rw[xd];exact j _ _ _ h
 | f+1,listed,a,w,h=>by
  rw[show f+1+g=(f+g)+1 by omega]
  exact⟨λl=>absurd l h.1,λi m=>wpOp_mono (λq w' A=>eK j f _ q w' A.2) (h.2 i m)⟩
structure HI(md:Region.Mode)(ops:Array Oper)(n:Nat)(l0 listed:Array Bool):Prop where
 size:listed.size=ops.size
 closed:∀j oj,ops[j]?=some oj->listed.getD j false=true->l0.getD j false=true\/∀e∈oj.after,Region.binds md e=true->listed.getD e.on false=true
 tail:∀t,n<=t->t<ops.size->listed.getD t true=false
 mono:∀j,l0.getD j false=true->listed.getD j false=true
theorem HI.set{n i}{l0 listed:Array Bool}(l:HI md ops n l0 listed)(J:i∈Region.ready md ops listed)(M:i<n):HI md ops n l0 (listed.setIfInBounds i true):=by
 obtain⟨_,O,A,m⟩:=mem_ready.1 J
 refine⟨by simp[l.size],λj F w I=>?_,λt T B=>by rw[getD_set_ne true (by omega)];exact l.tail t T B,λj w=>getD_set_true (l.mono j w)⟩
 by_cases q:i=j
 .subst q
  have:F=O:=xh (w.symm.trans A)
  subst this
  exact .inr λe C E=>getD_set_true (m e C E)
 .rw[getD_set_ne false q] at I
  rcases l.closed j F w I with h | h
  .exact .inl h
  .exact .inr λe C E=>getD_set_true (h e C E)
def SM(md:Region.Mode)(ops:Array Oper)(n:Nat)(l0:Array Bool):Bool:=
 (List.range n).all λi=>l0.getD i false||(List.range (n+1)).any λj=>(i<j)&&!l0.getD j false&&Region.waitsFor md ops j i
theorem eG{n}{l0 listed:Array Bool}(hs:SM md ops n l0=true)(hc:Region.chainB md ops n=true)(hn:n<ops.size)(m:HI md ops n l0 listed) :
  ∀(d i:Nat),n-i=d->i<n->listed.getD i true=false->∀t,n<=t->t ∉ Region.ready md ops listed:=by
 intro d
 induction d using Nat.strongRecOn with
 | _ d ih=>
  intro i hd hi C t ht X
  obtain⟨_,Z,hot,A⟩:=mem_ready.1 X
  have E:t<ops.size:=(xt.1 hot).1
  by_cases M:t=n
  .subst M
   have l:=xf.1 hs i (yA.2 hi)
   rw[xl] at l
   rcases l with l | l
   .have:=m.mono i l
    rw[getD_both C] at this;cases this
   obtain⟨j,hj,q⟩:=y8.1 l
   simp only[xE,xG,yc] at q
   obtain⟨oj,F,e,I,J,w⟩:=Region.waitsFor_spec q.2
   have a0:j<=t:=by have:=yA.1 hj;omega
   by_cases O:j=t
   .subst O
    have:oj=Z:=xh (F.symm.trans hot)
    subst this
    have B:=A e I J
    rw[w,getD_both C] at B
    cases B
   .cases hl:listed.getD j false with
    | true=>
     rcases m.closed j oj F hl with T | T
     .rw[T] at q;cases q.1.2
     .have B:=T e I J
      rw[w,getD_both C] at B
      cases B
    | false=>
     have U:j<listed.size:=by rw[m.size];omega
     exact ih (t-j) (by omega) j rfl (by omega) (getD_in U hl) t (wy _) X
  .have l:=xf.1 hc t (yA.2 E)
   simp only[xl,xG] at l
   rcases l with l | l
   .omega
   .obtain⟨o',V,e,I,J,w⟩:=Region.waitsFor_spec l
    have:o'=Z:=xh (V.symm.trans hot)
    subst this
    have B:=A e I J
    rw[w,getD_both (m.tail (t-1) (by omega) (by omega))] at B
    cases B
theorem sL{n i}{I:Oper}{v}{l0}{L}(hi:ops[i]?=some I)(C:∀(j:Nat) (o:Oper) U b, ops[j]?=some o->o.op≠.select U b)
 (hQ:∀c a w, Q (.panic c) (a.put I.dst v) w->Q (.panic c) a w) (hs:SM md ops n l0=true) (hc:Region.chainB md ops n=true) (hn:n<ops.size) (V:i<n)
 (J:∀listed a w, L listed a w->∀j ∈ Region.ready md ops listed, n<=j) :
    ∀(f:Nat) (listed:Array Bool) (a:Act) (w:World), HI md ops n l0 listed ->
      (∀j M, ops[j]?=some M->j≠i->listed.getD j true=false->(∀e ∈ M.after, Region.binds md e=true->e.on≠i)->I.apart ops M=true) ->
      i ∈ Region.ready md ops listed->YieldsIf P ops S I v a->S w ->
      L5 P md ops Q S L f (listed.setIfInBounds i true) (a.put I.dst v) w->L5 P md ops Q S L (f+1) listed a w := by
  intro f
  induction f with
  | zero =>
    intro listed a w A _ E hy X H
    have m := (mem_ready.1 E).1
    refine⟨λh => (by rw[h] at E;cases E), λj O => ?_⟩
    have Z:j<n := by
      rcases zV j n with h | h
      · exact h
      · exact absurd O (eG hs hc hn A _ i rfl V m j h)
    by_cases l:j=i
    · subst l;exact hy.wpOp hi X ⟨X, H⟩
    · have := J _ _ _ H j (ready_mono O l)
      omega
  | succ f ih =>
    intro listed a w A q E hy X H
    have m := (mem_ready.1 E).1
    refine⟨λh => (by rw[h] at E;cases E), λj O => ?_⟩
    have Z:j<n := by
      rcases zV j n with h | h
      · exact h
      · exact absurd O (eG hs hc hn A _ i rfl V m j h)
    by_cases l:j=i
    · subst l;exact hy.wpOp hi X ⟨X, H⟩
    · have h1 := H.2 j (ready_mono O l)
      obtain⟨F, M, T, a0⟩ := mem_ready.1 O
      have a1:∀e ∈ M.after, Region.binds md e=true->e.on≠i := λe he hb heq => by
        have h1 := a0 e he hb
        rw[heq, getD_both m] at h1
        cases h1
      have h2 := wpOp_putIf T (q j M T l F a1) (λU b => C i I U b hi) (λU b => C j M U b T) hQ hy h1
      have B:∀k ok, ops[k]?=some ok->k≠i->(listed.setIfInBounds j true).getD k true=false ->
          (∀e ∈ ok.after, Region.binds md e=true->e.on≠i)->I.apart ops ok=true := λk ok hk a6 m a7 => by
        refine q k ok hk a6 ?_ a7
        by_cases a2:j=k
        · subst a2;exact F
        · rw[getD_set_ne true a2] at m;exact m
      refine wpOp_mono (λa' w' h3 => ⟨h3.2.1, ih (listed.setIfInBounds j true) a' w' (A.set O Z) B (ready_mono E (zu l)) h3.1 h3.2.1 ?_⟩) h2
      rw[Array.setIfInBounds_comm _ _ l]
      exact h3.2.2
def L4(md:Region.Mode)(ops:Array Oper):List Nat->Array Bool->Bool
 | [],_=>true
 | i::l,j=>(Region.ready md ops j).contains i&&Region.free md ops j i&&L4 md ops l (j.setIfInBounds i true)
def Rl(md:Region.Mode)(ops:Array Oper):List Nat->Array Bool->Bool
 | [],_=>true
 | i::l,j=>(Region.ready md ops j=[i])&&Rl md ops l (j.setIfInBounds i true)
def Dt(listed:Array Bool)(j:List Nat):Array Bool:=j.foldl (λl i=>l.setIfInBounds i true) listed
def O9(P:Program)(ops:Array Oper)(S:World->Prop)(j:Act->Prop):List Oper->Act->Prop
 | [],a=>j a
 | o::rest,a=>∃v,YieldsIf P ops S o v a/\O9 P ops S j rest (a.put o.dst v)
def XD(P:Program)(ops:Array Oper)(Q:Exit->Act->World->Prop)(S:World->Prop)(j:Act->World->Prop):List Oper->Act->World->Prop
 | [],a,w=>j a w
 | o::rest,a,w=>o.guard=none/\o.wp P a w (λl w'=>S w'/\XD P ops Q S j rest l w') Q
def VO(Q:Exit->Act->World->Prop):Prop:=∀c a w,¬ Q (.panic c) a w
theorem ZO(j:Region.noSelect ops=true)(B:VO Q){f} : ∀(m:List Nat) (l:List Oper) (listed:Array Bool) (a:Act) (w:World),m.map (λi=>ops[i]?)=l.map some->L4 md ops m listed=true ->
  O9 P ops (λ_=>True) (λa'=>wpAny P md ops Q f (Dt listed m) a' w) l a->wpAny P md ops Q (f+m.length) listed a w
 | [],[],listed,a,w,_,_,h=>h
 | [],_::_,_,_,_,h,_,_=>by cases h
 | _::_,[],_,_,_,h,_,_=>by cases h
 | i::m,o::l,listed,a,w,q,hB,⟨v,C,h⟩=>by
  simp only[L4,xE] at hB
  obtain⟨⟨E,F⟩,A⟩:=hB
  simp only[xj,zZ] at q
  have:=ZO j B m l (listed.setIfInBounds i true) (a.put o.dst v) w q.2 A h
  rw[xz,<- yz]
  refine wpAny_take q.1 j F E (λc a w h=>absurd h (B _ _ _)) ?_ this
  exact C.imp (λ⟨I,J⟩=>⟨I,λw=>J w trivial⟩) id
theorem YI{n:Nat}{l0:Array Bool}{L:Array Bool->Act->World->Prop} : ∀(m:List Nat) (l:List Oper) (listed:Array Bool) (a:Act) (w:World),m.map (λi=>ops[i]?)=l.map some->Rl md ops m listed=true ->
  XD P ops Q S (λa' w'=>L (Dt listed m) a' w') l a w->L5 P md ops Q S L m.length listed a w
 | [],[],listed,a,w,_,_,h=>h
 | [],_::_,_,_,_,h,_,_=>by cases h
 | _::_,[],_,_,_,h,_,_=>by cases h
 | i::m,o::l,listed,a,w,q,hB,⟨hg,h⟩=>by
  simp only[Rl,xE,xG] at hB
  simp only[xj,zZ] at q
  refine⟨by rw[hB.1];simp,λj A=>?_⟩
  rw[hB.1] at A
  have:j=i:=by simpa using A
  subst this
  unfold wpOp
  simp only[q.1]
  rw[ww (by simp[Region.wanted,hg])]
  exact .inl (Oper.wp_mono (λa' w' B=>⟨B.1,YI (n:=n) (l0:=l0) m l _ a' w' q.2 hB.2 B.2⟩) h)
theorem YG{n}{l0}{L}{f}(q:Region.noSelect ops=true)(M:VO Q)(O:SM md ops n l0=true)(hc:Region.chainB md ops n=true)(T:n<ops.size)
 (m:∀listed a w, L listed a w->∀j ∈ Region.ready md ops listed, n<=j) {w} (U:S w):∀(A:List Nat) (l:List Oper) (listed:Array Bool) (a:Act), A.map (λi => ops[i]?)=l.map some->L4 md ops A listed=true ->
    (∀i ∈ A, i<n)->HI md ops n l0 listed ->
    O9 P ops S (λa' => L5 P md ops Q S L f (Dt listed A) a' w) l a->L5 P md ops Q S L (f+A.length) listed a w
  | [], [], listed, a, _, _, _, _, h => h
  | [], _::_, _, _, h, _, _, _, _ => by cases h
  | _::_, [], _, _, h, _, _, _, _ => by cases h
  | i::A, o::l, listed, a, I, hB, B, C, ⟨v, V, h⟩ => by
    simp only[L4, xE] at hB
    obtain⟨⟨X, Z⟩, J⟩ := hB
    simp only[xj, zZ] at I
    have E:i ∈ Region.ready md ops listed := by simpa using X
    have F := B i (xY ..)
    have := YG q M O hc T m U A l (listed.setIfInBounds i true) (a.put o.dst v) I.2 J (λj hj => B j (xZ _ hj)) (C.set E F) h
    rw[xz, <- yz]
    exact sL I.1 (Region.noSelect_spec q) (λc a w h => absurd h (M _ _ _)) O hc T F m _ listed a w C (Region.free_spec I.1 Z) E V U this
end
open Go.ChangeShapes Go.WideShapes Go.Deep Go.WideElems Go.RowKit
section
variable{H:Type}{enc:TypeId × Value->H}{P:Program}{W:World}
theorem ju{t}{k}{v}{d}{p}{r}{l}(m:P.underlying t=some (.int k))(j:Value.okWide P W r l t v)(h:DataW.Trod enc P W 0 (λ_=>true) true t v d p) :
  ∃n:Int,(Lit.int k n).wf=true/\A4 W (· < W.heap.size) (.int k n) v:=by
 obtain⟨n,rfl,_,_,w⟩:=open_int m j h
 exact⟨n,w,.int _ _⟩
end
end Go.Proofs.YtcgleifameckmaaGreatDoor.Al

namespace Go.Proofs.YtcgleifameckmaaGreatDoor.Al
section
variable{P:Program}{ops:Array Oper}{rest:List Oper}{s:St}{K:St->Prop}{o:Oper}
def Fj(P:Program)(ops:Array Oper)(rest:List Oper)(s:St)(K:St->Prop):Prop:=
 ∀(y:Cx) (a:Act),y.ok->y.H=hget s.h->y.n=s.n->a.tmps.size=s.N->Bv y s.e a->∀m:Act->Prop,
  (∀j l,K j->j.h=s.h->j.n=s.n->j.N=s.N->l.tmps.size=s.N->l.defers=a.defers->Bv y j.e l->m l)->O9 P ops (λ_=>True) m rest a
theorem Fj.nil(h:K s):Fj P ops [] s K:=λ_ a _ _ _ j l _ m=>m s a h rfl rfl rfl j rfl l
theorem Fj.move{d}{x}(hg:o.guard=none)(q:o.op=.move x)(hd:o.dst=some d)(A:Nat.blt d s.N=true)
 (B:Fj P ops rest { e := (d, BE s.e x)::s.e, h := s.h, n := s.n, N := s.N } K):Fj P ops (o::rest) s K := by
  intro y a j C E hsz m F I
  have l:d<a.tmps.size := by rw[hsz];exact B8 A
  refine⟨a.eval x, .inl ⟨by simp[Region.wanted, hg], λw _ => by unfold execOp;simp only[q];rfl⟩, ?_⟩
  rw[hd]
  exact B y (a.put (some d) (a.eval x)) j C E (by simpa[Act.put] using hsz) (m.put l (m.eval x)) F λJ M O T U V X Z k7 => I J M O T U V X Z k7
def AF(P:Program)(ops:Array Oper)(rest:List Oper)(s:St)(K:St->Prop):Prop:=
 ∀(y:Cx) (a:Act),y.ok->y.H=hget s.h->y.n=s.n->a.tmps.size=s.N->Bv y s.e a->∀m:Act->Prop,
  (∀j l,K j->j.h=s.h->j.n=s.n->j.N=s.N->l.tmps.size=s.N->l.defers=a.defers->Bv y j.e l->m l)->O9 P ops (DZ y) m rest a
theorem AF.nil(h:K s):AF P ops [] s K:=λ_ a _ _ _ j l _ m=>m s a h rfl rfl rfl j rfl l
theorem AF.step{d}{v}(hg:o.guard=none)(hd:o.dst=some d)(A:Nat.blt d s.N=true)(B:AS P true o s.e s.h v)
 (C:AF P ops rest { e := (d, v)::s.e, h := s.h, n := s.n, N := s.N } K):AF P ops (o::rest) s K := by
  intro y a j q E hsz w F I
  obtain⟨u, l, J⟩ := B rfl y a j q w
  have m:d<a.tmps.size := by rw[hsz];exact B8 A
  refine⟨u, .inl ⟨by simp[Region.wanted, hg], l⟩, ?_⟩
  rw[hd]
  exact C y (a.put (some d) u) j q E (by simpa[Act.put] using hsz) (w.put m J) F λM O T U V X Z k6 k7 => I M O T U V X Z k6 k7
def Rr(P:Program)(o:Oper)(R:Aa)(h:AL)(n:Nat)(v:AV)(h':AL)(n':Nat):Prop:=
 ∀(x:Cx) (a:Act),x.ok->x.H=hget h->x.n=n->Bv x R a->∀(K:Act->World->Prop) (Q:Exit->Act->World->Prop),
  (∀(u:Value) (y:Cx),x.le y->y.ok->y.H=hget h'->y.n=n'->AP y v u->(∀b,b<x.w.heap.size->y.w.heap[b]?=x.w.heap[b]?)->K (a.put o.dst u) y.w)->o.wp P a x.w K Q
def AA(P:Program)(ops:Array Oper)(rest:List Oper)(s:St)(K:St->Prop):Prop:=
 ∀(l y:Cx) (a:Act),l.ok->l.le y->DZ l y.w->y.ok->y.H=hget s.h->y.n=s.n->a.tmps.size=s.N->Bv y s.e a->∀(Q:Exit->Act->World->Prop) (w:Act->World->Prop),
  (∀m q j,K m->l.le j->j.ok->j.H=hget m.h->j.n=m.n->m.N=s.N->q.tmps.size=s.N->q.defers=a.defers->Bv j m.e q->w q j.w)->XD P ops Q (DZ l) w rest a y.w
theorem AA.nil(h:K s):AA P ops [] s K:=λ_ y a _ j _ l m q w A _ _ B=>B s a y h j l m q rfl w rfl A
theorem AA.step{d}{v}{h'}{n'}(hg:o.guard=none)(hd:o.dst=some d)(M:Nat.blt d s.N=true)(O:Rr P o s.e s.h s.n v h' n')
 (T:AA P ops rest { e := (d, v)::s.e, h := h', n := n', N := s.N } K):AA P ops (o::rest) s K := by
  intro A y a j m B C U V hsz I Q X Z
  have E:d<a.tmps.size := by rw[hsz];exact B8 M
  refine⟨hg, O y a C U V I _ _ λu q J k2 k3 k4 k5 k6 => ?_⟩
  have l:DZ A q.w := by
    intro b w
    have F:b<A.w.heap.size := by
      rcases w with w | ⟨id, o, k, h1, h2⟩
      · exact j.S_lt b w
      · exact(j.own' id o b k h1 h2).1
    rw[k6 b (xD F m.size)]
    exact B b w
  refine⟨l, ?_⟩
  rw[hd]
  exact T A q (a.put (some d) u) j (m.trans J) l k2 k3 k4 (by simpa[Act.put] using hsz) ((I.mono J).put E k5) Q X λs' a' q j1 j2 j3 j4 j5 j6 j7 j8 => Z s' a' q j1 j2 j3 j4 j5 j6 j7 j8
def Vs(ops:Array Oper)(m j q:List Nat)(n:Nat):Bool:=
 let w:=Array.replicate ops.size false
 let l:=Dt w m
 let A:=Dt l j
 let B:=Dt A q
 Region.noSelect ops&&(n<ops.size)&&SM .any ops n l&&Region.chainB .any ops n&&L4 .any ops m w&&L4 .any ops j l&&Rl .any ops q A
  && Region.seqB .any ops (ops.size-n) n B&&(m.length+j.length+q.length=n)&&(j.all λi=>decide (i<n))&&((List.range ops.size).all λt=>(t<n)||!l.getD t true)
theorem gT j(l:Array Bool):(Dt l j).size=l.size:=by
 induction j generalizing l with
 | nil=>rfl
 | cons i j m=>show(Dt (l.setIfInBounds i true) j).size=_;rw[m];simp
theorem gq(y:Cx):DZ y y.w:=λ_ _=>rfl
theorem v8{id}{l:List Oper}{Q}(C A B:List Nat) n{V X Z lt:List Oper}(hm:P.follows .mixedOrders=true)(hB:Vs l.toArray C A B n=true)
 (e1:C.map (λi => l.toArray[i]?)=V.map some) (e2:A.map (λi => l.toArray[i]?)=X.map some) (e3:B.map (λi => l.toArray[i]?)=Z.map some) (e4:l.drop n=lt)
 (h:Fj P l.toArray V s λs1 => AF P l.toArray X s1 λs2 => AA P l.toArray Z s2 λs3 => AN P l.toArray lt s3 (Q .normal)):AW P (.region id l.toArray true) Q s := by
  intro z0 a0 T a w ⟨_, J, hsz, y, a6, a7, a8, hH, hn, he⟩
  subst a6
  obtain⟨r1, M⟩ := Qr a8
  simp only[Vs, xE, xG] at hB
  obtain⟨⟨⟨⟨⟨⟨⟨⟨⟨⟨b1, b2⟩, b3⟩, b4⟩, b5⟩, b6⟩, b7⟩, b8⟩, b9⟩, aa⟩, ab⟩ := hB
  refine wpIn_mono (Q := λe q w' => e=.normal/\∃E, Q .normal E/\D9 T E q w') ?_ λe q w' ⟨k1, U⟩ => by subst k1;exact⟨by simp, U⟩
  refine OP (λac => by obtain⟨_, _, h1, _⟩ := ac;cases h1) hm a0 ?_
  have hQ:VO (λ(e:Exit) (q:Act) (w':World) => e=.normal/\∃E, Q .normal E/\D9 T E q w') := λc a w h => by cases h.1
  generalize hz:({ y with w := { y.w with drawn := y.w.drawn+1 } } : Cx)=z at r1 M
  have ad:z.w = { y.w with drawn := y.w.drawn+1 } := by rw[<- hz]
  have F:z.H=hget s.h := by rw[<- hz];exact hH
  have I:z.n=s.n := by rw[<- hz];exact hn
  rw[<- ad]
  have ae:l.toArray.size=(l.toArray.size - n)+B.length+A.length+C.length := by omega
  have goal := ZO (P := P) (md := .any) (f := (l.toArray.size - n)+B.length+A.length) b1 hQ C V (Array.replicate l.toArray.size false) a z.w e1 b5
    (h z a M F I hsz (he.mono r1) _ λs1 a1 k1 U k3 k4 k5 k6 k7 => by
      rw[show l.toArray.size - n+B.length+A.length=(B.length+A.length)+(l.toArray.size - n) by omega]
      refine eK (S := DZ z) (L := λm q w' => m=Dt (Dt (Dt (Array.replicate l.toArray.size false) C) A) B/\wpList P l.toArray (λe q w' => e=.normal/\∃E, Q .normal E/\D9 T E q w') lt q w') (λm q w' ⟨q1, q2⟩ => ?_) _ _ _ _ ?_
      · subst q1;subst e4
        have O:(l.drop n).length=l.toArray.size - n := by simp
        have := wpAny_of_seq (md := .any) (l.drop n) n _ q w' (λj => by simp[xr]) (by rw[O];exact b8) q2
        rwa [O] at this
      · refine YG (n := n) (l0 := Dt (Array.replicate l.toArray.size false) C) b1 hQ b3 b4 b2 (λm q w' ⟨q1, _⟩ j hj => by subst q1;exact seqB_ready b8 j hj) (gq z) A X _ a1 e2 b6
          (λi hi => by simpa using(xf.1 aa i hi)) ⟨by rw[gT];simp, λj oj _ hl => .inl hl, λt ht af => ?_, λ_ h => h⟩ ?_
        · have := xf.1 ab t (yA.2 af)
          simp only[xl, xG, yc] at this
          rcases this with h | h
          · omega
          · exact h
        · refine k1 z a1 M (by rw[U];exact F) (by rw[k3];exact I) (by rw[k4, k5]) k7 _ λs2 a2 m1 m2 m3 m4 m5 m6 m7 => ?_
          refine YI (n := n) (l0 := Dt (Array.replicate l.toArray.size false) C) B Z _ a2 z.w e3 b7 ?_
          refine m1 z z a2 M (.refl z) (gq z) M (by rw[m2, U];exact F) (by rw[m3, k3];exact I) (by rw[m4, m5]) m7 _ _ λs3 a3 y3 t1 t2 t3 t4 t5 t6 t7 t8 t9 => ⟨rfl, ?_⟩
          exact t1 T a3 y3.w ⟨_, t8.trans (m6.trans (k6.trans J)), by rw[t7, t6], y3, rfl, (a7.trans r1).trans t2, t3, t4, t5, t9⟩ _ λag ah ai j1 j2 => ⟨rfl, ag, j1, j2⟩)
  have e:l.toArray.size - n+B.length+A.length+C.length=l.toArray.size := by omega
  rw[e] at goal
  exact goal
end
section
variable{P:Program}{o:Oper}{R:Aa}{h:AL}{n:Nat}
theorem qS{t e}{sz a0 len}{parts:Array (Nat × Operand)}(id:Nat){l:List (List RV)}(ho:o.op=.buildSlice t len parts)(ht:Ba P t e sz a0)
 (hp:JT true R 0 parts.toList l) (A:l.length=len) (B:∀row ∈ l, row.length=sz) (C:Nat.ble (len * sz) 16777216=true) :
    Rr P o R h n (.own id n) ((id, some (.arr n e sz l))::h) (n+1) := by
  intro z w a1 hH hn he K Q hK
  have hc:true=true := rfl
  obtain⟨I, ii, zv, hi, E, _, hz, a7, _, h0⟩ := ht
  have a8:len * sz<=16777216 := xu C
  have aa:len<=len * sz := Nat.le_mul_of_pos_right _ h0
  obtain⟨J, M⟩ := hp.get
  have F:∃init:Array Value, init.size=len * sz/\∀W, (Instr.buildSlice t len (parts.map λ(i, x) => (i, w.eval x))).run P W =
      match Instr.fill (λi => some (i * sz, sz)) init (parts.toList.map λ(i, x) => (i, w.eval x)) with
      | some cells => .ok (.slice (some ⟨W.heap.size, 0, none⟩) len len) (W.alloc (.cells cells e))
      | none => .halt (.stuck "buildSlice: a part of the wrong size") W := by
    refine⟨(Array.range (len * sz)).map (λi => (if len * sz=0 then #[] else zv.cells)[i % (if len * sz=0 then #[] else zv.cells).size]!), by simp, λW => ?_⟩
    have O:¬ 2 ^ 24<len * sz := by omega
    by_cases T:len * sz=0
    · simp only[Instr.buildSlice, Sem.run_bind, run_underlying I, Result.andThen_ok, DY hi, E, T]
      simp
      split<;>simp_all [newRow, Instr.fill]
    · simp only[Instr.buildSlice, Sem.run_bind, run_underlying I, Result.andThen_ok, DY hi, E]
      simp only[O, T, zeroValue, typeInfo, WAF, Sem.run_bind, run_program, Result.andThen_ok, hi, hz, Sem.run_pure, WAG]
      generalize Instr.fill _ _ _=r
      cases r<;>simp[newRow]
  obtain⟨init, m, U⟩ := F
  obtain⟨a2, f1, f2, _, f4⟩ := Ra sz (parts.toList.map λ(i, x) => (i, w.eval x)) 0 init (λj p hj => by
    simp only[xJ, xK] at hj
    obtain⟨q, hq, rfl⟩ := hj
    obtain⟨V, row, a, Z, h3, h4⟩ := M j q hq
    refine⟨by simpa using V, ?_⟩
    rw[(MM h4 (h3.rep he hc)).1]
    exact B row (xa Z)) (by rw[m];simp only[xk, J, A, xd];exact wy _)
  obtain⟨y, k1, k2, k3, k4, k5, k6⟩ := WV a1 id e sz l a2 h0 B (by rw[f2, m, A]) (by unfold maxLen;omega) (λi row k d V Z => by
    have X:i<parts.toList.length := by rw[J];exact(wx.1 V).1
    obtain⟨_, a6, a, h3, h4, h5⟩ := M i _ (wz X)
    rw[V] at h3;cases h3
    obtain⟨u, h6, h7⟩ := (MM h5 (h4.rep he hc)).2 k d Z
    refine⟨u, ?_, h7⟩
    have hk:k<sz := by rw[<- B row (xa V)];exact(wx.1 Z).1
    have := f4 i (parts.toList[i].1, w.eval parts.toList[i].2) k (by simp[xJ, wz X]) hk
    rw[xd] at this
    rw[this];exact h6)
  unfold Oper.wp execOp
  simp only[ho, Sem.run_bind, U, f1, Result.andThen_ok, Sem.run_pure]
  have := hK _ y k1 k2 (by rw[k4, hH, hn, Ck]) (by rw[k5, hn]) (by rw[<- hn];exact k6) (λb hb => by rw[k3];exact heap_alloc_old _ _ hb)
  rw[k3, A] at this
  exact this
theorem dI{α:Type}{f}{t e}{sz w len}{parts:Array (Nat × Operand)}(id:Nat){l:List α}(A:o.op=.buildSlice t len parts)(B:Ba P t e sz w)
 (hp:JT true R 0 parts.toList (l.map f)) (m:l.length=len) (q:∀a, (f a).length=sz) (j:Nat.ble (len * sz) 16777216=true) :
    Rr P o R h n (.own id n) ((id, some (.arr n e sz (l.map f)))::h) (n+1) :=
  qS id A B hp (by rw[xk];exact m) (λrow C => by obtain⟨a, _, rfl⟩ := yT.1 C;exact q a) j
end
end Go.Proofs.YtcgleifameckmaaGreatDoor.Al
namespace Go.Proofs.YtcgleifameckmaaGreatDoor.Al
def pick(l:List Oper):List Nat->List Oper
 | []=>[]
 | i::j=>match l[i]? with
  | some o=>o::pick l j
  | none=>pick l j
theorem VQ{l:List Oper}{j:List Nat}(h:(j.all λi=>Nat.blt i l.length)=true):j.map (λi=>l.toArray[i]?)=(pick l j).map some:=by
 induction j with
 | nil=>rfl
 | cons i j q=>
  simp only[WAX,xE] at h
  have m:=B8 h.1
  rw[xj,q h.2,pick,wz m]
  simp[m]
theorem Xa{P:Program}{s}{id}{l:List Oper}{Q} j m q n{A B C lt}(E:P.follows .mixedOrders=true)(hB:Vs l.toArray j m q n=true)
 (w:((j++m++q).all λi => Nat.blt i l.length)=true) (e1:pick l j=A) (e2:pick l m=B) (F:pick l q=C) (I:l.drop n=lt)
 (h:Fj P l.toArray A s λJ => AF P l.toArray B J λM => AA P l.toArray C M λO => AN P l.toArray lt O (Q .normal)):AW P (.region id l.toArray true) Q s := by
  subst e1;subst e2;subst F
  simp only[List.all_append, xE] at w
  exact v8 j m q n E hB (VQ w.1.1) (VQ w.1.2) (VQ w.2) I h
theorem wJ{P:Program}{ops:Array Oper}{rest:List Oper}{s:St}{K:St->Prop}{o:Oper}{d:Nat}{c:Bool}{f:FuncId}{fo:Operand}{xs:Array Operand}{B:Array TypeId}{caps bs:List AV}(hG:Cg s.e ops o c)(C:c=true)(L:List Nat){hc:AL}{F:(Nat->Nat)->AV}{G:(Nat->Nat)->AL}(hd:o.dst=some d)(hN:Nat.blt d s.N=true)
  (ho:o.op=.call { callee:=.value fo,args:=xs,argTypes:=B }) (E:Ev true s.e fo (.fn f (EK L caps))) (I:FM L.length caps=true) (hx:Ko s.e L xs.toList bs) (J:Fe s.h L hc) (M:L.Nodup)
  (l:BI P f L.length (bs++caps) hc (λr h'=>∃i,r=F i/\h'=G i))
  (hr:∀i n',AN P ops rest { e:=(d,ren L (F i))::s.e,h:=E4 L (G i) 1000 L++s.h,n:=n',N:=s.N } K):AN P ops (o::rest) s K:=by
 intro c0 a w ⟨_,m,hsz,y,O,T,U,hH,hn,V⟩ Q hQ
 subst O
 refine wpList_step λK' X=>?_
 rw[hG.wanted V,ww C]
 refine Yn ho E I hx J M l U hH V K' Q λu z r h' q A Z a0 j=>?_
 obtain⟨i,rfl,rfl⟩:=j
 refine X _ _ ?_
 have a1:d<a.tmps.size:=by rw[hsz];exact B8 hN
 rw[hd]
 exact hr i z.n c0 (a.put (some d) u) z.w ⟨_,m,by simpa[Act.put] using hsz,z,rfl,T.trans q,A,Z,rfl,(V.mono q).put a1 a0⟩ Q hQ
end Go.Proofs.YtcgleifameckmaaGreatDoor.Al
namespace Go.Proofs.YtcgleifameckmaaGreatDoor.Al
section
variable{P:Program}{o:Oper}{R:Aa}{h:AL}{n:Nat}
theorem pW{t}{x}{a} id{cs:List AV}(B:o.op=.box t x)(C:Ev true R x a)(j:BQ a=cs)(E:cs.all AV.one=true):Rr P o R h n (.ptr id n 0 0) ((id,some (.box n t cs))::h) (n+1):=by
 subst j
 intro z w l F m I K Q J
 obtain⟨y,M,O,A,T,U,V⟩:=Uh l id t a (C.rep I rfl) (λb q=>xf.1 E b q)
 unfold Oper.wp execOp
 rw[B]
 simp only[Instr.box,Sem.run_bind,WG,Result.andThen_ok,Sem.run_pure]
 have:=J (.pointer (some ⟨z.w.heap.size,0,none⟩)) y M O (by rw[T,F,m,Ck]) (by rw[U,m]) (by rw[<- m];exact V) (λb q=>by rw[A];exact heap_alloc_old _ _ q)
 rw[A] at this
 exact this
end
structure PO where
 d:Option Nat
 v:(Nat->Nat)->AV
 hp:Option (Nat × ((Nat->Nat)->Option AU))
 dep:List Nat
def PO.wE(p:PO):Option (Nat × ((Nat->Nat)->AV)):=match p.d with | some d=>some (d,p.v) | none=>none
def PO.wH(p:PO):Option (Nat × ((Nat->Nat)->Option AU)):=p.hp
section
variable{α:Type}(wr:PO->Option (Nat × ((Nat->Nat)->α)))(D:Nat->Bool)(G:Nat->Nat)
def ER:List (Nat × α)->List PO->Nat->List (Nat × α)
 | e,[],_=>e
 | e,p::L,k=>match D k with
  | true=>match wr p with
   | some (d,v)=>ER ((d,v G)::e) L (k+1)
   | none=>ER e L (k+1)
  | false=>ER e L (k+1)
def GD(t:Nat)(L:List PO)(k:Nat):Prop:=∀(j:Nat) (p:PO) v,L[j]?=some p->D (k+j)=true->wr p≠some (t,v)
end
theorem GD.tail{α:Type}{wr:PO->Option (Nat × ((Nat->Nat)->α))}{D:Nat->Bool}{t:Nat}{p:PO}{L:List PO}{k:Nat}(h:GD wr D t (p::L) k):GD wr D t L (k+1):=
 λj q v l m=>h (j+1) q v (by simpa using l) (by rwa [show k+(j+1)=k+1+j by omega])
section
variable{α:Type}{wr:PO->Option (Nat × ((Nat->Nat)->α))}{D:Nat->Bool}{G:Nat->Nat}{lk:List (Nat × α)->Nat->α}(hlk:∀d v R t,lk ((d,v)::R) t=if d=t then v else lk R t)
include hlk
theorem GU{t:Nat} : ∀(L:List PO) (e:List (Nat × α)) (k:Nat),GD wr D t L k->lk (ER wr D G e L k) t=lk e t
 | [],_,_,_=>rfl
 | p::L,e,k,h=>by
  unfold ER
  cases l:D k with
  | false=>exact GU L e (k+1) h.tail
  | true=>
   cases m:wr p with
   | none=>exact GU L e (k+1) h.tail
   | some q=>
    obtain⟨d,v⟩:=q
    have j:d≠t:=λe=>h 0 p v rfl l (by rw[m,e])
    exact(GU L _ (k+1) h.tail).trans (by rw[hlk,wv j])
theorem I7{t}{p}{v}(hw:wr p=some (t,v)):∀(L:List PO) (e:List (Nat × α)) (k j:Nat),L[j]?=some p->D (k+j)=true->GD wr D t (L.drop (j+1)) (k+j+1)->lk (ER wr D G e L k) t=v G
 | [],_,_,_,h,_,_=>by simp at h
 | q::L,e,k,0,A,C,B=>by
  cases A
  unfold ER
  rw[show D k=true from C,hw]
  exact(GU hlk L _ (k+1) (by simpa using B)).trans (by rw[hlk,ww rfl])
 | q::L,e,k,j+1,A,C,B=>by
  have l:L[j]?=some p:=by simpa using A
  have m:D (k+1+j)=true:=by rwa [show k+1+j=k+(j+1) by omega]
  have w:GD wr D t (L.drop (j+1)) (k+1+j+1):=by rw[show k+1+j+1=k+(j+1)+1 by omega];simpa using B
  unfold ER
  cases D k with
  | false=>exact I7 hw L e (k+1) j l m w
  | true=>
   cases wr q with
   | none=>exact I7 hw L e (k+1) j l m w
   | some r=>exact I7 hw L _ (k+1) j l m w
theorem He{t}{D'}{w} : ∀(L:List PO) (e e':List (Nat × α)) (k:Nat),lk e' t=lk e t ->
  (∀(j:Nat) (p:PO) v,L[j]?=some p->wr p=some (t,v)->D' (k+j)=D (k+j)/\(D (k+j)=true->v w=v G))->lk (ER wr D' w e' L k) t=lk (ER wr D G e L k) t
 | [],_,_,_,h,_=>h
 | p::L,e,e',k,h,C=>by
  have l:∀(j:Nat) (q:PO) v,L[j]?=some q->wr q=some (t,v)->D' (k+1+j)=D (k+1+j)/\(D (k+1+j)=true->v w=v G):=λj q v A B=>by
   have:=C (j+1) q v (by simpa using A) B
   rwa [show k+(j+1)=k+1+j by omega] at this
  unfold ER
  cases hp:wr p with
  | none=>
   have F:=He L e e' (k+1) h l
   cases D' k<;>cases D k<;>exact F
  | some q=>
   obtain⟨d,v⟩:=q
   by_cases m:d=t
   .subst m
    obtain⟨A,B⟩:=C 0 p v rfl hp
    rw[yG] at A B
    rw[A]
    cases I:D k with
    | false=>exact He L e e' (k+1) h l
    | true=>exact He L _ _ (k+1) (by rw[hlk,hlk,ww rfl,ww rfl,B I]) l
   .have E:lk ((d,v w)::e') t=lk e' t:=by rw[hlk,wv m]
    have e2:lk ((d,v G)::e) t=lk e t:=by rw[hlk,wv m]
    cases D' k<;>cases D k
    .exact He L _ _ (k+1) h l
    .exact He L _ _ (k+1) (by rw[e2];exact h) l
    .exact He L _ _ (k+1) (by rw[E];exact h) l
    .exact He L _ _ (k+1) (by rw[E,e2];exact h) l
end
abbrev CI(D:Nat->Bool)(G:Nat->Nat)(e:Aa)(L:List PO):Aa:=ER PO.wE D G e L 0
abbrev D0(D:Nat->Bool)(G:Nat->Nat)(h:AL)(L:List PO):AL:=ER PO.wH D G h L 0
def DL(G:Nat->Nat)(i n:Nat):Nat->Nat:=λk=>if k=i then n else G k
section
variable{P:Program}{ops:Array Oper}
def wt(ops:Array Oper):Nat->Nat->Nat->Bool
 | 0,_,_=>false
 | f+1,j,i=>Region.waitsFor .any ops j i||(List.range j).any λm=>Region.waitsFor .any ops j m&&wt ops f m i
def Cl(ops:Array Oper)(D:Nat->Bool):Prop:=∀j k,D j=true->Region.waitsFor .any ops j k=true->D k=true
theorem Cl.wt{D}(h:Cl ops D):∀(f j i:Nat),Al.wt ops f j i=true->D j=true->D i=true
 | 0,_,_,l,_=>by cases l
 | f+1,j,i,l,w=>by
  unfold Al.wt at l
  rw[xl] at l
  rcases l with l | l
  .exact h j i w l
  .obtain⟨m,_,q⟩:=y8.1 l
   rw[xE] at q
   exact h.wt f m i q.2 (h j m w q.1)
structure Bq(ops:Array Oper)(D:Nat->Bool)(i:Nat):Prop where
 cl:Cl ops D
 hw:∀k,Region.waitsFor .any ops i k=true->D k=true
 un:D i=false
theorem Bq.yes{D}{i}(h:Bq ops D i){k}(j:Al.wt ops 40 i k=true):D k=true:=by
 unfold Al.wt at j
 rw[xl] at j
 rcases j with j | j
 .exact h.hw k j
 .obtain⟨m,_,l⟩:=y8.1 j
  rw[xE] at l
  exact h.cl.wt 39 m k l.2 (h.hw m l.1)
theorem Bq.no{D}{i}(h:Bq ops D i){k}(j:Al.wt ops 40 k i=true):D k=false:=by
 cases l:D k with
 | false=>rfl
 | true=>have:=h.cl.wt 40 k i j l;rw[h.un] at this;cases this
def Gi(c0:Cx)(s:St)(L:List PO)(listed:Array Bool)(a:Act)(w:World):Prop:=
 ∃j,a.defers=j/\a.tmps.size=s.N/\∃(y:Cx) (G:Nat->Nat),y.w=w/\c0.leM j y/\y.ok/\(∀id,y.H id=hget (D0 (λk=>listed.getD k false) G s.h L) id) /\
  (∀t,AP y (get (CI (λk=>listed.getD k false) G s.e L) t) (a.tmps.getD t undef))
def GG(P:Program)(o:Oper)(R:Aa)(h:AL)(n:Nat)(v:AV)(h':AL):Prop:=
 ∀(x:Cx) (a:Act),x.ok->x.H=hget h->x.n=n->Bv x R a->∀(K:Act->World->Prop) (Q:Exit->Act->World->Prop),
  (∀(u:Value) (y:Cx),x.le y->y.ok->y.H=hget h'->AP y v u->K (a.put o.dst u) y.w)->o.wp P a x.w K Q
theorem Az.toN{o}{R}{h}{n}{v}{h'}{n'}(j:Az P true o R h n v h' n'):GG P o R h n v h':=
 λx a l m q w K Q A=>j rfl x a l m q w K Q λu y B C E _ F=>A u y B C E F
def Ob(P:Program)(ops:Array Oper)(s:St)(L:List PO)(i:Nat)(p:PO)(o:Oper):Prop:=
 o.dst=p.d/\(∀d,p.d=some d->Nat.blt d s.N=true)/\∀(D:Nat->Bool) (G:Nat->Nat) (e:Aa) (h:AL) (n:Nat),Bq ops D i ->
  (∀t,get e t=get (CI D G s.e L) t)->(∀id,hget h id=hget (D0 D G s.h L) id) ->
  (o.guard=none/\∃l,GG P o e h n (p.v (DL G i n)) l/\(∀id,hget l id=match p.hp with | some (j,q)=>if j=id then q (DL G i n) else hget h id | none=>hget h id)) \/
  (p.hp=none/\∃c v0,p.v (DL G i n)=.whn c v0/\Cg e ops o c/\(c=true->∃m,GG P o e h n v0 m/\∀id,hget m id=hget h id))
def JX(L:List PO)(t:Nat):Bool:=L.all λp=>match p.d with | some d=>!Nat.beq d t | none=>true
def Wg(L:List PO)(t:Nat):Bool:=L.all λp=>match p.hp with | some (d,_)=>!Nat.beq d t | none=>true
def Gm:List PO->Bool
 | []=>true
 | p::L=>(match p.d with | some d=>JX L d | none=>true)&&Gm L
def Ql(ops:Array Oper)(L:List PO):Bool:=(List.range L.length).all λj=>(List.range j).all λi=>match L[i]?.bind (·.hp),L[j]?.bind (·.hp) with
 | some (a,_),some (b,_)=>!Nat.beq a b||wt ops 40 j i
 | _,_=>true
theorem qU{L:List PO}{t:Nat}(h:JX L t=true){j:Nat}{p:PO}(l:L[j]?=some p):p.d≠some t:=λhd=>by
 have:=xf.1 h p (xa l)
 rw[hd] at this
 simp at this
theorem tq{L:List PO}{t:Nat}(h:Wg L t=true){j:Nat}{p:PO}(l:L[j]?=some p):∀ob,p.hp≠some (t,ob):=λob hd=>by
 have:=xf.1 h p (xa l)
 rw[hd] at this
 simp at this
theorem Nu{p:PO}{t}{v}(h:p.wE=some (t,v)):p.d=some t/\v=p.v:=by
 unfold PO.wE at h
 split at h
 .rename_i d hd;simp only[xF,xM] at h;rw[hd,h.1];exact⟨rfl,h.2.symm⟩
 .cases h
theorem Rs{p:PO}{t}(h:p.d=some t):p.wE=some (t,p.v):=by unfold PO.wE;rw[h]
theorem SV{p:PO}{t}{v}(h:p.wH=some (t,v)):∃ob,p.hp=some (t,ob)/\v=ob:=⟨v,h,rfl⟩
theorem Xt{p:PO}{t}{ob}(h:p.hp=some (t,ob)):p.wH=some (t,ob):=h
theorem W9:∀ {L:List PO},Gm L=true->∀ {j:Nat} {p:PO} {t:Nat},L[j]?=some p->p.d=some t->JX (L.drop (j+1)) t=true
 | [],_,_,_,_,h,_=>by simp at h
 | q::L,h,0,p,t,l,m=>by
  cases l
  simp only[Gm,xE,m] at h
  simpa using h.1
 | q::L,h,j+1,p,t,l,m=>by
  simp only[Gm,xE] at h
  simpa using W9 h.2 (j:=j) (by simpa using l) m
theorem P4{L}{t}(h:JX L t=true){D}{k} : GD PO.wE D t L k:=λ_ _ _ j _ l=>qU h j (Nu l).1
theorem il{L}{t}(h:Wg L t=true){D}{k} : GD PO.wH D t L k:=λ_ _ _ j _ l=>by obtain⟨m,q,_⟩:=SV l;exact tq h j m q
theorem uC{L:List PO}(hB:Ql ops L=true){D}(l:Cl ops D){i}{p:PO}{t}{ob}(hp:L[i]?=some p)(C:p.hp=some (t,ob))(m:D i=false):GD PO.wH D t (L.drop (i+1)) (i+1):=by
 intro j q v w E F
 obtain⟨jz,I,_⟩:=SV F
 rw[xr] at w
 have A:i+1+j<L.length:=(wx.1 w).1
 have:=xf.1 (xf.1 hB (i+1+j) (yA.2 A)) i (yA.2 (by omega))
 simp only[hp,w,yJ,C,I,xl,yc] at this
 rcases this with B | B
 .simp at B
 .have:=l.wt 40 _ _ B E
  rw[m] at this;cases this
def PS(ops:Array Oper)(L:List PO):Bool:=(List.range L.length).all λj=>match L[j]? with
 | some p=>p.dep.all λk=>Nat.beq k j||wt ops 40 j k
 | none=>true
def Ig:List PO->Prop
 | []=>True
 | p::L=>(∀G j:Nat->Nat,(∀k,p.dep.contains k=true->G k=j k)->p.v j=p.v G/\∀id l,p.hp=some (id,l)->l j=l G)/\Ig L
theorem Ig.at:∀ {L:List PO},Ig L->∀ {j:Nat} {p:PO},L[j]?=some p->∀G l:Nat->Nat,(∀k,p.dep.contains k=true->G k=l k)->p.v l=p.v G/\∀id ob,p.hp=some (id,ob)->ob l=ob G
 | _::_,h,0,_,m=>by cases m;exact h.1
 | _::_,h,j+1,_,m=>Ig.at h.2 (j:=j) (by simpa using m)
theorem jY{L:List PO}(hB:PS ops L=true){D}(m:Cl ops D){j}{p:PO}(hp:L[j]?=some p)(w:D j=true){k}(B:p.dep.contains k=true):D k=true:=by
 have q:j<L.length:=(wx.1 hp).1
 have A:=xf.1 hB j (yA.2 q)
 simp only[hp] at A
 have l:=xf.1 A k (by simpa using B)
 simp only[xl] at l
 rcases l with l | l
 .rw[xR l];exact w
 .exact m.wt 40 _ _ l w
theorem Gi.put{c0:Cx}{s:St}{L}{listed:Array Bool}{a:Act}{i}{p:PO}{y z:Cx}{G}{u}(hp:L[i]?=some p)(hN:∀d, p.d=some d->Nat.blt d s.N=true)(hE:Gm L=true)(hH:Ql ops L=true)
 (hD:PS ops L=true) (U:Ig L) (hi:i<listed.size) (hr:Bq ops (λk => listed.getD k false) i) {ds} (V:a.defers=ds) (hsz:a.tmps.size=s.N) (a2:c0.leM ds y)
 (he:∀t, AP y (get (CI (λk => listed.getD k false) G s.e L) t) (a.tmps.getD t undef)) (X:y.le z) (Z:z.ok)
 (a6:∀id, z.H id=match p.hp with | some (j, B) => if j=id then B (DL G i y.n) else hget (D0 (λk => listed.getD k false) G s.h L) id | none => hget (D0 (λk => listed.getD k false) G s.h L) id)
 (hv:AP z (p.v (DL G i y.n)) u):Gi c0 s L (listed.setIfInBounds i true) (a.put p.d u) z.w := by
  have a0:∀k, (listed.setIfInBounds i true).getD k false=(listed.getD k false||(k=i)) := λk => by
    by_cases J:i=k
    · subst J;simp[hi]
    · rw[getD_set_ne false J];simp[zu J]
  have l:∀k, k≠i->(listed.setIfInBounds i true).getD k false=listed.getD k false := λk J => by rw[a0];simp[J]
  have I:∀(j:Nat) (q:PO), L[j]?=some q->listed.getD j false=true->q.v (DL G i y.n)=q.v G/\∀id B, q.hp=some (id, B)->B (DL G i y.n)=B G := λj q T hl => by
    refine U.at T G _ λk J => ?_
    have hlk := jY hD hr.cl T hl J
    have:k≠i := λe => by subst e;rw[hr.un] at hlk;cases hlk
    simp[DL, this]
  have a1:(λk => (listed.setIfInBounds i true).getD k false) (0+i)=true := by show(listed.setIfInBounds i true).getD (0+i) false=true;rw[xd, a0];simp
  refine⟨ds, by cases w:p.d<;>simpa[Act.put, w] using V, ?_, z, DL G i y.n, rfl, a2.trans X, Z, λid => ?_, λt => ?_⟩
  · cases w:p.d<;>simpa[Act.put, w] using hsz
  · rw[a6]
    have rest:(∀B, p.hp≠some (id, B))->hget (D0 (λk => listed.getD k false) G s.h L) id=hget (D0 (λk => (listed.setIfInBounds i true).getD k false) (DL G i y.n) s.h L) id := λa7 => by
      refine(He BG L _ _ 0 rfl λj q v C h2 => ?_).symm
      obtain⟨B, h4, h5⟩ := SV h2
      have M:j≠i := λe => by subst e;rw[hp] at C;cases C;exact a7 B h4
      rw[xd]
      exact⟨l j M, λhl => by rw[h5];exact(I j q C hl).2 id B h4⟩
    cases E:p.hp with
    | none => exact rest λB => by rw[E];simp
    | some r =>
      obtain⟨j, B⟩ := r
      by_cases T:j=id
      · subst T
        simp only[zm]
        have F := uC hH hr.cl hp E hr.un
        refine(I7 BG (Xt E) L _ 0 i hp a1 ?_).symm
        rw[xd]
        intro m q v C h2 h3
        exact F m q v C ((l _ (by omega)).symm.trans h2) h3
      · simp only[wv T]
        exact rest λaa => by rw[E];intro e;cases e;exact T rfl
  · by_cases A:p.d=some t
    · have e1:get (CI (λk => (listed.setIfInBounds i true).getD k false) (DL G i y.n) s.e L) t=p.v (DL G i y.n) :=
        I7 CE (Rs A) L _ 0 i hp a1 (P4 (W9 hE hp A))
      have O:t<a.tmps.size := by rw[hsz];exact B8 (hN t A)
      rw[e1, A]
      simp only[Act.put, M2 O, zm]
      exact hv
    · have e1:get (CI (λk => (listed.setIfInBounds i true).getD k false) (DL G i y.n) s.e L) t=get (CI (λk => listed.getD k false) G s.e L) t := by
        refine He CE L _ _ 0 rfl λj q v C h2 => ?_
        obtain⟨h4, h5⟩ := Nu h2
        have M:j≠i := λe => by subst e;rw[hp] at C;cases C;exact A h4
        rw[xd]
        exact⟨l j M, λhl => by rw[h5];exact(I j q C hl).1⟩
      rw[e1]
      have h0 := (he t).mono X
      cases w:p.d with
      | none => exact h0
      | some d =>
        have a8:d≠t := λe => A (by rw[w, e])
        have O:d<a.tmps.size := by rw[hsz];exact B8 (hN d w)
        simp only[Act.put, M2 O, wv a8]
        exact h0
theorem Gi.step{c0}{s}{L}{listed:Array Bool}{a:Act}{w}{i}{p}{o}{Q}(hp:L[i]?=some p)(ho:ops[i]?=some o)(U:Ob P ops s L i p o)(V:Gm L=true)(X:Ql ops L=true)
 (Z:PS ops L=true) (l:Ig L) (hi:i<listed.size) (T:Bq ops (λk => listed.getD k false) i) (J:Gi c0 s L listed a w) :
    wpOp P ops Q i (Gi c0 s L (listed.setIfInBounds i true)) a w := by
  obtain⟨_, m, hsz, y, G, a0, A, B, C, I⟩ := J
  subst a0
  obtain⟨hd, hN, a1⟩ := U
  unfold wpOp
  simp only[ho]
  rcases a1 (λk => listed.getD k false) G _ _ y.n T (λt => rfl) (λid => rfl) with ⟨hg, h', j, a2⟩ | ⟨M, c, v0, O, hG, j⟩
  · rw[ww (by simp[Region.wanted, hg])]
    refine .inl (j y a B (funext λid => C id) rfl (λt => I t) _ Q λu z E q F hv => ?_)
    rw[hd]
    exact Gi.put hp hN V X Z l hi T m hsz A I E q (λid => by rw[F];exact a2 id) hv
  · have hw:Region.wanted o (yielded ops a.tmps)=c := Cg.wanted (s := ⟨_, [], 0, 0⟩) hG (λt => I t)
    rw[hw]
    cases c with
    | true =>
      obtain⟨h2, a6, a7⟩ := j rfl
      rw[ww rfl]
      refine .inl (a6 y a B (funext λid => C id) rfl (λt => I t) _ Q λu z E q F hv => ?_)
      rw[hd]
      refine Gi.put hp hN V X Z l hi T m hsz A I E q (λid => by rw[F, M];exact a7 id) ?_
      rw[O];exact .whn (λ_ => hv) (λh => by cases h)
    | false =>
      rw[wv (by decide), hd]
      refine Gi.put hp hN V X Z l hi T m hsz A I (.refl y) B (λid => by rw[M];exact C id) ?_
      rw[O];exact .whn (λh => by cases h) (λ_ => rfl)
def Hp(e:Aa):Aa->Prop
 | []=>True
 | (t,a)::r=>get e t=a/\Hp e r
def H7(e:AL):AL->Prop
 | []=>True
 | (t,a)::r=>hget e t=a/\H7 e r
theorem Uk{e0 e}(j:∀t,get e t=get e0 t):∀(r:Aa),Hp e0 r->∀t,get (r++e) t=get e0 t
 | [],_,t=>j t
 | (t0,a)::r,⟨l,m⟩,t=>by
  rw[yV,CE]
  split
  .rename_i q;subst q;exact l.symm
  .exact Uk j r m t
theorem T9{e0 e}(j:∀t,hget e t=hget e0 t):∀(r:AL),H7 e0 r->∀t,hget (r++e) t=hget e0 t
 | [],_,t=>j t
 | (t0,a)::r,⟨l,m⟩,t=>by
  rw[yV,BG]
  split
  .rename_i q;subst q;exact l.symm
  .exact T9 j r m t
theorem GG.same{o}{R l}{h h'}{n}{v}{m}(q:GG P o R h n v m)(w:∀t,get l t=get R t)(A:∀id,hget h' id=hget h id):GG P o l h' n v m:=by
 intro x a j B C E K Q F
 exact q x a j (by rw[B];exact funext A) C (λt=>by rw[<- w];exact E t) K Q F
theorem wU{s:St}{L}{i}{p:PO}{o:Oper}(hg:o.guard=none)(hd:o.dst=p.d)(C:∀d, p.d=some d->Nat.blt d s.N=true)(hp:p.hp=none)(w:(Nat->Nat)->Aa)(m:(Nat->Nat)->AL)
 (E:∀D G, Bq ops D i->Hp (CI D G s.e L) (w G)) (F:∀D G, Bq ops D i->H7 (D0 D G s.h L) (m G))
 (I:∀G n, p.v (DL G i n)=p.v G) (h:∀G e j n, ∃l, GG P o (w G++e) (m G++j) n (p.v G) l/\∀id, hget l id=hget (m G++j) id):Ob P ops s L i p o := by
  refine⟨hd, C, λD G e j n A B q => .inl ⟨hg, ?_⟩⟩
  have J := Uk B _ (E D G A)
  have g2 := T9 q _ (F D G A)
  obtain⟨l, M, O⟩ := h G e j n
  refine⟨l, ?_, λid => by rw[hp, O, g2, q]⟩
  rw[I]
  exact M.same (λt => by rw[J, B]) (λid => by rw[g2, q])
theorem Xe{s:St}{L:List PO}{i:Nat}{p:PO}{o:Oper}{n1:Nat->Nat}(hg:o.guard=none)(hd:o.dst=p.d)(q:∀d,p.d=some d->Nat.blt d s.N=true)(hp:p.hp=none)(m:(Nat->Nat)->Aa)(j:(Nat->Nat)->AL)
  (w:∀D G,Bq ops D i->Hp (CI D G s.e L) (m G)) (A:∀D G,Bq ops D i->H7 (D0 D G s.h L) (j G))
  (B:∀G n,p.v (DL G i n)=p.v G) (h:∀G e l n,Az P true o (m G++e) (j G++l) n (p.v G) (j G++l) (n1 n)):Ob P ops s L i p o:=
 wU hg hd q hp m j w A B λG e l n=>⟨_,(h G e l n).toN,λ_=>rfl⟩
theorem hX{s:St}{L}{i}{p:PO}{o:Oper}{id}{ob}(hg:o.guard=none)(hd:o.dst=p.d)(C:∀d, p.d=some d->Nat.blt d s.N=true)(hp:p.hp=some (id, ob))(w:(Nat->Nat)->Aa)(m:(Nat->Nat)->AL)
 (E:∀D G, Bq ops D i->Hp (CI D G s.e L) (w G)) (F:∀D G, Bq ops D i->H7 (D0 D G s.h L) (m G))
 (h:∀(G:Nat->Nat) e l n, GG P o (w G++e) (m G++l) n (p.v (DL G i n)) ((id, ob (DL G i n))::(m G++l))):Ob P ops s L i p o := by
  refine⟨hd, C, λD G e l n A B q => .inl ⟨hg, ?_⟩⟩
  have I := Uk B _ (E D G A)
  have g2 := T9 q _ (F D G A)
  refine⟨_, (h G e l n).same (λt => by rw[I, B]) (λj => by rw[g2, q]), λj => ?_⟩
  rw[hp, BG]
  simp only
  split
  · rfl
  · rw[g2, q]
theorem wY{s:St}{L:List PO}{i:Nat}{p:PO}{o:Oper}{id:Nat}{ob:(Nat->Nat)->Option AU}{n1:Nat->Nat}(hg:o.guard=none)(hd:o.dst=p.d)(q:∀d,p.d=some d->Nat.blt d s.N=true)(hp:p.hp=some (id,ob))(m:(Nat->Nat)->Aa)(j:(Nat->Nat)->AL)
  (w:∀D G,Bq ops D i->Hp (CI D G s.e L) (m G)) (A:∀D G,Bq ops D i->H7 (D0 D G s.h L) (j G))
  (h:∀(G:Nat->Nat) e l n,Az P true o (m G++e) (j G++l) n (p.v (DL G i n)) ((id,ob (DL G i n))::(j G++l)) (n1 n)):Ob P ops s L i p o:=
 hX hg hd q hp m j w A λG e l n=>(h G e l n).toN
theorem GG.frz{o}{R}{h}{n id g}{e:TypeId}{sz}{xs}(X:GG P o R h n (.own id g) ((id,some (.arr g e sz xs))::h)):GG P o R h n (.r (.sl xs)) ((id,none)::h):=by
 intro x a J Z hn he K Q hK
 refine X x a J Z hn he K Q λu y k1 w V k4=>?_
 have q:y.H id=some (.arr g e sz xs):=by rw[V,BG,ww rfl]
 let B:Cx:={ y with S:=λb=>y.S b\/∃k,y.β id=some (b,k),H:=hget ((id,none)::h) }
 have j:∀i o,B.H i=some o->i≠id/\y.H i=some o:=by
  intro i o l
  simp only[B,BG] at l
  split at l
  .cases l
  .rename_i C
   refine⟨λe=>C e.symm,?_⟩
   rw[V,BG,wv C];exact l
 have A:y.le B:=⟨wy _,rfl,rfl,rfl,λ_ _=>rfl,λ_ h=>.inl h,rfl,wy _,λi o l _=>⟨o,(j i o l).2,rfl,rfl,rfl⟩,λi o l hf _ _=>⟨o,(j i o l).2,hf,rfl,rfl,rfl,rfl⟩⟩
 have E:B.ok:=by
  refine⟨λb m=>?_,w.F_lt,λb m=>?_,λi o l=>?_,λi o b k l m=>?_,λi i' o o' b k F l M=>w.inj i i' o o' b k F (j _ _ l).2 (j _ _ M).2,w.extOf (λi o l=>⟨o,(j i o l).2⟩) rfl rfl (wy _) (λi o b k l I hS=>hS.elim (w.own' i o b k (j i o l).2 I).2.1 λ⟨F,m⟩=>(j i o l).1 (w.inj' (j i o l).2 q I (.inl m))) (λi o b k l I=>(w.own' i o b k (j i o l).2 I).2.2),w.tabs.le A⟩
  .rcases m with m | ⟨k,m⟩
   .exact w.S_lt b m
   .exact(w.own id _ b k q m).1
  .rcases m with m | ⟨k,m⟩
   .exact w.SF b m
   .exact(w.own id _ b k q m).2.2
  .obtain⟨O,T⟩:=w.obj i o (j _ _ l).2
   exact⟨O,T.mono A (λ_ _ _=>rfl) λ_ _ _ _=>rfl⟩
  .obtain⟨O,T,j3⟩:=w.own i o b k (j _ _ l).2 m
   refine⟨O,?_,j3⟩
   rintro(U | ⟨F,U⟩)
   .exact T U
   .exact(j _ _ l).1 (w.inj i id o _ b k F (j _ _ l).2 q m U)
 exact hK u B (k1.trans A) E rfl (.r (Po w q k4 (λ_ h=>.inl h) (λb k m=>.inr ⟨k,m⟩)))
end
section
variable{ops:Array Oper}{D:Nat->Bool}{G:Nat->Nat}{e:Aa}{h:AL}{L:List PO}{t:Nat}
theorem TB(hB:JX L t=true){a}(j:get e t=a):get (CI D G e L) t=a:=(GU CE L e 0 (P4 hB)).trans j
theorem Y6{i}(l:Bq ops D i) j{p:PO}{a}(m:L[j]?=some p)(hd:p.d=some t)(hw:wt ops 40 i j=true)(hB:JX (L.drop (j+1)) t=true)(q:p.v G=a):get (CI D G e L) t=a:=
 (I7 CE (Rs hd) L e 0 j m (by rw[xd];exact l.yes hw) (P4 hB)).trans q
theorem RY(hB:Wg L t=true){a}(j:hget h t=a):hget (D0 D G h L) t=a:=(GU BG L h 0 (il hB)).trans j
def M4(ops:Array Oper)(i t:Nat):List PO->Nat->Bool
 | [],_=>true
 | p::L,k=>(match p.hp with | some (d,_)=>!Nat.beq d t||Nat.beq k i||wt ops 40 k i | none=>true)&&M4 ops i t L (k+1)
theorem WO{i}(w:Bq ops D i):∀ {L:List PO} {k:Nat},M4 ops i t L k=true->GD PO.wH D t L k
 | [],_,_=>λj _ _ h=>by simp at h
 | q::L,k,hB=>by
  simp only[M4,xE] at hB
  intro j p v A m B
  match j with
  | 0=>
   cases A
   obtain⟨E,C,_⟩:=SV B
   rw[C] at hB
   simp only[xl,yc] at hB
   rcases hB.1 with (l | l) | l
   .simp at l
   .rw[yG,xR l,w.un] at m;cases m
   .rw[yG,w.no l] at m;cases m
  | j+1=>exact WO w hB.2 j p v (by simpa using A) (by rwa [show k+1+j=k+(j+1) by omega]) B
theorem Qy{i}(j:Bq ops D i)(hB:M4 ops i t L 0=true){a}(l:hget h t=a):hget (D0 D G h L) t=a:=(GU BG L h 0 (WO j hB)).trans l
theorem o9{i}(l:Bq ops D i) j{p:PO}{ob}{a}(m:L[j]?=some p)(hd:p.hp=some (t,ob))(hw:wt ops 40 i j=true)(hB:M4 ops i t (L.drop (j+1)) (j+1)=true)(q:ob G=a):hget (D0 D G h L) t=a:=
 (I7 BG (Xt hd) L h 0 j m (by rw[xd];exact l.yes hw) (by rw[xd];exact WO l hB)).trans q
end
section
variable{P:Program}{ops:Array Oper}
def Wc(ops:Array Oper)(n:Nat):Bool:=(List.range n).all λi=>match ops[i]? with | some o=>o.after.all λe=>!Region.binds .any e||(e.on<i) | none=>false
def KY(P:Program)(ops:Array Oper)(s:St)(j:List PO):Nat->List PO->List Oper->Prop
 | _,[],_=>True
 | _,_::_,[]=>False
 | i,p::L,o::l=>Ob P ops s j i p o/\KY P ops s j (i+1) L l
theorem KY.at{s}{A} : ∀ {L:List PO} {l:List Oper} {m:Nat},KY P ops s A m L l->∀ {j:Nat} {p:PO} {o:Oper},L[j]?=some p->l[j]?=some o->Ob P ops s A (m+j) p o
 | _::_,_::_,m,h,0,_,_,q,w=>by cases q;cases w;exact h.1
 | _::L,_::l,m,h,j+1,p,o,q,w=>by
  have:=KY.at (j:=j) h.2 (p:=p) (o:=o) (by simpa using q) (by simpa using w)
  rwa [show m+(j+1)=m+1+j by omega]
 | _::_,[],_,h,_,_,_,_,_=>h.elim
 | [],_,_,_,_,_,_,q,_=>by simp at q
def D6(listed:Array Bool):Nat->Nat
 | 0=>0
 | n+1=>D6 listed n+(if listed.getD n false then 0 else 1)
theorem Ut{listed:Array Bool}{i}(m:i<listed.size)(j:listed.getD i false=false):∀n,D6 (listed.setIfInBounds i true) n+(if i<n then 1 else 0)=D6 listed n
 | 0=>by simp[D6]
 | n+1=>by
  have q:=Ut m j n
  unfold D6
  by_cases l:i=n
  .subst l
   rw[j]
   have:(listed.setIfInBounds i true).getD i false=true:=by simp[m]
   rw[this]
   simp at q ⊢
   exact q
  .rw[getD_set_ne false l]
   have:(i<n+1)↔(i<n):=by omega
   simp only[this]
   omega
theorem Uz{listed:Array Bool} : ∀ {n:Nat}, 0<D6 listed n->∃i, i<n/\listed.getD i false=false/\∀j, j<i->listed.getD j false=true
  | 0, h => by simp[D6] at h
  | n+1, h => by
    by_cases A:0<D6 listed n
    · obtain⟨i, F, B, C⟩ := Uz A
      exact⟨i, by omega, B, C⟩
    · have l:∀m, m<=n->D6 listed m=0 := by
        intro m I
        have:D6 listed m<=D6 listed n := by
          clear h A
          induction n with
          | zero => have:m=0 := by omega
                    subst this;exact wy _
          | succ n E =>
            by_cases q:m=n+1
            · subst q;exact wy _
            · exact xW (E (by omega)) (WAH ..)
        omega
      unfold D6 at h
      refine⟨n, by omega, ?_, λj J => ?_⟩
      · cases w:listed.getD n false with
        | false => rfl
        | true => rw[w] at h;simp at h;omega
      · have := l (j+1) (by omega)
        unfold D6 at this
        cases w:listed.getD j false with
        | true => rfl
        | false => rw[w] at this;simp at this
theorem W1{listed:Array Bool} : ∀ {n:Nat},D6 listed n=0->∀j,j<n->listed.getD j false=true
 | 0,_,j,m=>by omega
 | n+1,h,j,m=>by
  unfold D6 at h
  by_cases l:j=n
  .subst l
   cases q:listed.getD j false with
   | true=>rfl
   | false=>rw[q] at h;simp at h
  .exact W1 (n:=n) (by omega) j (by omega)
theorem Vr{listed:Array Bool}(h:∀j,listed.getD j false=false):∀n,D6 listed n=n
 | 0=>rfl
 | n+1=>by unfold D6;rw[Vr h n,h n];simp
theorem mt{c0}{s}{L:List PO}{n g}{l:List Oper}{Q}(hl:l.toArray=ops)(T:n=ops.size\/(n<ops.size/\Region.sinkB .any ops n=true/\Region.chainB .any ops n=true))(ag:L.length=n)(J:Wc ops n=true)
 (hD:PS ops L=true) (hE:Gm L=true) (hH:Ql ops L=true) (U:Ig L) (a7:KY P ops s L 0 L l)
 (V:∀listed a w, HeadInv .any ops n listed->(∀j, j<n->listed.getD j false=true)->Gi c0 s L listed a w->wpAny P .any ops Q g listed a w) :
    ∀(f:Nat) (listed:Array Bool) (a:Act) (w:World), D6 listed n=f->HeadInv .any ops n listed->Gi c0 s L listed a w->wpAny P .any ops Q (f+g) listed a w := by
  have hn:n<=ops.size := by rcases T with h | h<;>omega
  intro f
  induction f with
  | zero =>
    intro listed a w C q A
    rw[xd]
    exact V listed a w q (W1 C) A
  | succ f ih =>
    intro listed a w C q A
    rw[show f+1+g=(f+g)+1 by omega]
    obtain⟨M, X, E, B⟩ := Uz (listed := listed) (n := n) (by omega)
    have Z:M<listed.size := by rw[q.size];omega
    have m:M ∈ Region.ready .any ops listed := by
      refine mem_ready.2 ⟨getD_in Z E, ?_⟩
      have a8:∃o, ops[M]?=some o := ⟨ops[M]'(by omega), by simp[xe (show M<ops.size by omega)]⟩
      obtain⟨o, F⟩ := a8
      refine⟨o, F, λe he hb => ?_⟩
      have h1 := xf.1 J M (yA.2 X)
      simp only[F] at h1
      have h2 := (WAI.1 h1) e he
      simp only[hb, WAA, yW, xG] at h2
      exact B _ h2
    refine⟨λh => (by rw[h] at m;cases m), λi hi => ?_⟩
    have a0:i<n := by
      rcases zV i n with h | h
      · exact h
      · rcases T with e | ⟨aa, hs, hc⟩
        · obtain⟨_, o, F, _⟩ := mem_ready.1 hi
          have := (xt.1 F).1
          omega
        · exact absurd hi (tail_waits hs hc aa q _ M rfl X (getD_in Z E) i h)
    obtain⟨ab, o, F, a1⟩ := mem_ready.1 hi
    have I := getD_both ab
    have a2:i<listed.size := by rw[q.size];omega
    obtain⟨p, hp⟩:∃p, L[i]?=some p := ⟨L[i]'(by omega), by simp[wz (show i<L.length by omega)]⟩
    have ac:l[i]?=some o := by rw[<- F, <- hl];simp
    have a6 := a7.at hp ac
    rw[xd] at a6
    have ad:Bq ops (λk => listed.getD k false) i := by
      refine⟨λj k hj hk => ?_, λk hk => ?_, I⟩
      · obtain⟨oj, ae, e, he, hb, O⟩ := Region.waitsFor_spec hk
        rw[<- O];exact q.closed j oj ae hj e he hb
      · obtain⟨oi, af, e, he, hb, O⟩ := Region.waitsFor_spec hk
        have:oi=o := xh (af.symm.trans F)
        subst this
        rw[<- O];exact a1 e he hb
    have step := Gi.step (Q := Q) hp F a6 hE hH hD U a2 ad A
    refine wpOp_mono (λa' w' h' => ih _ a' w' ?_ (q.set hi a0) h') step
    have := Ut a2 I n
    rw[ww a0] at this
    omega
def WY(ops:Array Oper)(n:Nat)(L:List PO):Bool:=
 (Nat.beq n ops.size||((n<ops.size)&&Region.sinkB .any ops n&&Region.chainB .any ops n))&&(L.length=n)&&Wc ops n&&PS ops L&&Gm L&&Ql ops L
  && Region.seqB .any ops (ops.size-n) n (Dt (Array.replicate ops.size false) (List.range n))
theorem gW:∀(q:List Nat) (l:Array Bool) (j:Nat),(∀i∈q,i<l.size)->(Dt l q).getD j false=(l.getD j false||q.contains j)
 | [],l,j,_=>by simp[Dt]
 | i::q,l,j,h=>by
  show(Dt (l.setIfInBounds i true) q).getD j false=_
  rw[gW q _ j (λk w=>by simp;exact h k (xZ _ w))]
  by_cases m:i=j
  .subst m
   have:=h i (xY ..)
   simp[this]
  .rw[getD_set_ne false m]
   simp[zu m]
theorem Ty{α:Type}{wr}{D D'}{G} : ∀(L:List PO) (e:List (Nat × α)) (k:Nat),(∀j,k<=j->j<k+L.length->D j=D' j)->ER wr D G e L k=ER wr D' G e L k
 | [],_,_,_=>rfl
 | p::L,e,k,h=>by
  have l:=h k (wy _) (by simp)
  have m:=λe=>Ty (wr:=wr) (G:=G) L e (k+1) (λj q w=>h j (by omega) (by simp;omega))
  unfold ER
  rw[l]
  simp only[m]
theorem GZ{id}{l:List Oper}{s:St}{Q}(n:Nat)(L:List PO){lt}(hm:P.follows .mixedOrders=true)(hB:WY l.toArray n L=true)(F:Ig L)(e4:l.drop n=lt)
 (V:KY P l.toArray s L 0 L l)
 (h:∀(G:Nat->Nat) (n':Nat), AN P l.toArray lt ⟨CI (λ_ => true) G s.e L, D0 (λ_ => true) G s.h L, n', s.N⟩ (Q .normal)):AW P (.region id l.toArray true) Q s := by
  intro z0 X c0 a w ⟨_, I, hsz, y, Z, a0, a1, hH, hn, he⟩
  subst Z
  obtain⟨r1, r2⟩ := Qr a1
  simp only[WY, xE, xG] at hB
  obtain⟨⟨⟨⟨⟨⟨b0, b2⟩, b3⟩, b6⟩, b7⟩, b8⟩, b9⟩ := hB
  have b1:n=l.toArray.size\/(n<l.toArray.size/\Region.sinkB .any l.toArray n=true/\Region.chainB .any l.toArray n=true) := by
    rw[xl] at b0
    rcases b0 with h | h
    · exact .inl (xR h)
    · simp only[xE, xG] at h
      exact .inr ⟨h.1.1, h.1.2, h.2⟩
  have aa:n<=l.toArray.size := by rcases b1 with h | h<;>omega
  refine OP KQ hm X ?_
  generalize hz:({ y with w := { y.w with drawn := y.w.drawn+1 } } : Cx)=z at r1 r2
  have a2:z.w = { y.w with drawn := y.w.drawn+1 } := by rw[<- hz]
  have a6:z.H=hget s.h := by rw[<- hz];exact hH
  rw[<- a2]
  have q:∀j, (Array.replicate l.toArray.size false).getD j false=false := getD_replicate_false _
  have key := mt (P := P) (c0 := c0) (s := s) (L := L) (n := n) (g := l.toArray.size - n) (l := l) (Q := Dm c0 Q) rfl b1 b2 b3 b6 b7 b8 F V
    (λm a' w' E C J => by
      have A:m=Dt (Array.replicate l.toArray.size false) (List.range n) := by
        have M:m.size=(Dt (Array.replicate l.toArray.size false) (List.range n)).size := by rw[E.size, gT];simp
        refine Array.ext M λj B h2 => ?_
        have h3 := gW (List.range n) (Array.replicate l.toArray.size false) j (λi hi => by have := yA.1 hi;rw[Array.size_replicate];omega)
        rw[q] at h3
        have e1:m[j]=m.getD j false := by unfold Array.getD;rw[zU B];rfl
        have e2:(Dt (Array.replicate l.toArray.size false) (List.range n))[j]=(Dt (Array.replicate l.toArray.size false) (List.range n)).getD j false := by unfold Array.getD;rw[zU h2];rfl
        rw[e1, e2, h3]
        by_cases U:j<n
        · rw[C j U];simp[U]
        · have a7:j<l.toArray.size := by rw[E.size] at B;exact B
          rw[getD_both (E.tail j (by omega) a7)];simp[U]
      obtain⟨_, i1, i2, O, G, i3, i4, i5, i6, i7⟩ := J
      subst i3
      have T:(l.drop n).length=l.toArray.size - n := by simp
      have hD:∀j, 0<=j->j<0+L.length->(λ_ => true) j=(λk => m.getD k false) j := λj _ U => (C j (by omega)).symm
      have := wpAny_of_seq (P := P) (md := .any) (ops := l.toArray) (Q' := Dm c0 Q) (l.drop n) n m a' O.w (λj => by simp[xr]) (by rw[T, A];exact b9) ?_
      · rwa [T] at this
      · rw[e4]
        refine h G O.n c0 a' O.w ⟨_, i1, i2, O, rfl, i4, i5, funext λid => ?_, rfl, λt => ?_⟩ _ λa8 ab ac j1 j2 => ⟨by simp, a8, j1, j2⟩
        · rw[i6];show _=hget (ER _ _ _ _ _ _) _;rw[Ty L _ 0 hD]
        · show AP O (get (ER _ _ _ _ _ _) t) _
          rw[Ty L _ 0 hD];exact i7 t)
    n (Array.replicate l.toArray.size false) a z.w (Vr q n)
    ⟨by simp, λj oj _ hl => (by rw[q] at hl;cases hl), λt _ ht => getD_in (by simpa using ht) (q _)⟩
    ⟨_, I, hsz, z, λ_ => 0, rfl, a0.trans r1, r2, λid => by rw[a6];exact(GU BG L _ 0 λj p _ _ B => by rw[q] at B;cases B).symm, λt => by
      have e1:get (CI (λk => (Array.replicate l.toArray.size false).getD k false) (λ_ => 0) s.e L) t=get s.e t := GU CE L _ 0 λj p _ _ B => by rw[q] at B;cases B
      rw[e1]
      exact(he t).mono r1⟩
  have e:n+(l.toArray.size - n)=l.toArray.size := by omega
  rw[e] at key
  exact key
end
section
variable{P:Program}{c:Bool}{o:Oper}{R:Aa}{h:AL}
end
section
variable{P:Program}{c:Bool}{o:Oper}{R:Aa}{h:AL}{n:Nat}
def Ka(cs:List RV)(k:Nat)(vs:List RV):List RV:=cs.take k++vs++cs.drop (k+vs.length)
theorem aJ{t}{x y}{id g i k m:Nat}{e}{sz}{xs:List (List RV)}{row ds:List RV}{a}(ho:o.op=.store t x y)(ht:∃i, P.info? t=some i/\i.size=m)
 (hx:Ev c R x (.ptr id g i k)) (hh:hget h id=some (.arr g e sz xs)) (M:xs[i]?=some row) (hy:Ev c R y a) (hd:GR a=some ds) (hm:ds.length=m) (hk:k+ds.length<=row.length) :
    Az P c o R h n .any ((id, some (.arr g e sz (xs.set i (Ka row k ds))))::h) n := by
  intro hc z w O hH hn he K Q hK
  obtain⟨ii, hi, ag⟩ := ht
  have A:z.H id=some (.arr g e sz xs) := by rw[hH];exact hh
  have aa:i<xs.length := (wx.1 M).1
  obtain⟨b, cap, us, hβ, ax, ah, E, Z⟩ := SD O A aa (hx.rep he hc)
  have ay := (O.obj _ _ A).1
  obtain⟨ba, ab⟩ := ah
  rcases ab with ⟨hv, _⟩ | ⟨b', b7, F, hv, _, a0, ai, az, aj, ac⟩
  · cases hv
  simp only[Value.slice.injEq, xF, Addr.mk.injEq, true_and, zt] at hv
  obtain⟨rfl, rfl⟩ := hv
  have hsz:0<sz := (O.obj _ _ A).2.1
  have ak := E row (xa M)
  obtain⟨I, al⟩ := Sw hd
  have ad:∀b ∈ BQ a, b.one=true := λb hb => by
    obtain⟨j, hj, rfl⟩ := yH.1 hb
    obtain⟨a', h1, h2⟩ := al j (ds[j]'(by omega)) (by simp[wz (show j<ds.length by omega)])
    rw[wz hj] at h1
    cases h1
    exact Rp h2
  have b0 := hy.rep he hc
  obtain⟨T, b1, b2⟩ := Kj b0 ad
  replace I:ds.length=(BQ a).length := I
  have an:(w.eval y).cells.toList.length=ds.length := by rw[xq (xs := (w.eval y).cells), T, I]
  have b3:i * sz+sz<=xs.length * sz := by
    have:(i+1) * sz<=xs.length * sz := xi _ aa
    rwa [yU, yn] at this
  have b8:xs.length * sz<=F.size := by rw[aj];exact xi _ ai
  have a1 := O1 (P := P) (k := i * sz+k) hi a0 (v := w.eval y) (by rw[T, ag, <- I, hm]) b2 (by rw[T, <- I];omega)
  rw[show(w.eval y).cells.size=ds.length by rw[T, I]] at a1
  have a2 := λj => Jq F.toList (w.eval y).cells.toList (i * sz+k) j (by have := xq (xs := F);rw[an];omega)
  rw[an] at a2
  let l:Array Value := (F.toList.take (i * sz+k)++(w.eval y).cells.toList++F.toList.drop (i * sz+k+ds.length)).toArray
  have J:l.size=F.size := by
    have ao:(w.eval y).cells.size=ds.length := by rw[T, I]
    simp[l, ao];omega
  have a6:(Ka row k ds).length=row.length := by simp[Ka];omega
  have a7:∀j, (Ka row k ds)[j]?=if k<=j/\j<k+ds.length then ds[j - k]? else row[j]? := λj => Jq row ds k j hk
  have aq := ES O id (.arr g e sz (xs.set i (Ka row k ds))) (z.w.setRow b l) (some (b, cap)) z.n (by simp[World.setRow]) rfl rfl rfl
    (λb' _ b4 => setRow_other _ _ _ _ (λe => b4 _ cap A (by rw[e];exact hβ))) (λb' k' hb => by
      cases hb
      exact⟨by simpa[World.setRow] using(O.own id _ b cap A hβ).1, .inr ⟨_, _, A, hβ⟩⟩) (wy _) ay
    (λ_ => ⟨_, A, rfl, by simp[AU.shape], hβ.symm⟩)
    (λb5 => by
      have ar:∀b', z.S b'->(z.w.setRow b l).heap[b']?=z.w.heap[b']? := λb' hb => b5.blk b' (.inl hb)
      refine⟨hsz, λr hr => ?_, .slice (some ⟨b, 0, none⟩) xs.length cap, l.toList.take (xs.length * sz), by simp[Bh], ⟨by simp[J];omega, .inr ⟨b, cap, l, by simp, yL _, setRow_heap _ _ _ _ _ _ a0, by simpa using ai, az, by rw[J, aj], by simp⟩⟩, λB a8 C d' U k2 => ?_⟩
      · rcases yp hr with hr | rfl
        · exact E r hr
        · rw[a6];exact ak
      · have au:B<xs.length := by simpa using(wx.1 U).1
        have b9:C<sz := by
          have := (wx.1 k2).1
          rw[yC] at U
          split at U
          · cases U;rw[a6, ak] at this;exact this
          · rw[<- E a8 (xa U)];exact this
        have av:B * sz+C<xs.length * sz := by
          calc B * sz+C<B * sz+sz := by omega
            _=(B+1) * sz := by rw[yU, yn]
            _<=xs.length * sz := xi _ au
        have hget:(l.toList.take (xs.length * sz))[B * sz+C]?=if i * sz+k<=B * sz+C/\B * sz+C<i * sz+k+ds.length then(w.eval y).cells.toList[B * sz+C - (i * sz+k)]? else F.toList[B * sz+C]? := by
          rw[xn, ww av]
          simp only[l]
          exact a2 _
        have ae:i * sz+k<=B * sz+C->B * sz+C<i * sz+k+ds.length->i=B := by
          intro h1 h2
          have e2:(B * sz+C) / sz=B := by rw[zJ, zp hsz, zi (by omega), yG]
          obtain⟨q, hq⟩:∃q, B * sz+C=i * sz+q := ⟨B * sz+C - i * sz, by omega⟩
          have b6:q<sz := by omega
          have e1:(i * sz+q) / sz=i := by rw[zJ, zp hsz, zi b6, yG]
          rw[<- e1, <- hq, e2]
        by_cases V:i * sz+k<=B * sz+C/\B * sz+C<i * sz+k+ds.length
        · have af := ae V.1 V.2
          subst af
          rw[yC, ww rfl, ww aa] at U
          cases U
          rw[a7, ww (by omega)] at k2
          obtain⟨a', h1, h2⟩ := al _ _ k2
          obtain⟨u, h3, _, h5⟩ := b1 _ _ h1
          refine⟨u, ?_, (RT h2 h5).mono ar (λ_ h => h)⟩
          rw[hget, ww V, show i * sz+C - (i * sz+k)=C - k by omega, xo]
          exact h3
        · have aw:∃X, xs[B]?=some X/\X[C]?=some d' := by
            rw[yC] at U
            split at U
            · rename_i af;subst af
              cases U
              rw[a7] at k2
              split at k2
              · exact absurd (by omega) V
              · exact⟨row, M, k2⟩
            · exact⟨a8, U, k2⟩
          obtain⟨X, k3, k4⟩ := aw
          obtain⟨u, k5, k6⟩ := Z _ _ _ _ k3 k4
          refine⟨u, ?_, k6.mono ar (λ_ h => h)⟩
          rw[hget, wv V]
          rw[<- k5, <- ac, xn, ww av])
  unfold Oper.wp execOp
  rw[ho]
  simp only[ax, Sem.run_bind, a1, Result.andThen_ok, Sem.run_pure]
  exact hK undef _ aq.1 aq.2 (by simp only[hH];exact Ck _ _ _) hn (.any _)
theorem Ud{α:Type}{f}{t}{x y}{id g k m}{e}{sz}{l:List α}{z:Int}{a v}{b}{ds:List RV}(j:o.op=.store t x y)(q:∃i, P.info? t=some i/\i.size=m)
 (w:Ev true R x (.ptr id g z.toNat k)) (A:hget h id=some (.arr g e sz (l.map f))) (B:AO l z=some a) (C:Ev true R y b) (hd:GR b=some ds) (E:ds.length=m) (F:Nat.ble (k+ds.length) (f a).length=true) (I:Ka (f a) k ds=f v) :
    Az P true o R h n .any ((id, some (.arr g e sz ((l.set z.toNat v).map f)))::h) n := by
  have := aJ (n := n) j q w A (row := f a) (by rw[xJ, (EZ B).2.1];rfl) C hd E (xu F)
  rwa [I, <- WAS] at this
end
def T2(c:Bool):Aa->Aa->Prop
 | [],_=>True
 | (t,v)::r,e=>(get e t=v\/get e t=.whn c v\/(∃b v0,get e t=.whn (c&&b) v0/\v=.whn b v0)\/∃j l v0,get e t=.whn ((c&&j)&&l) v0/\v=.whn (j&&l) v0)/\T2 c r e
theorem T2.get{c}{e' e}(h:T2 c e' e)(t:Nat):Al.get e' t=.any\/Al.get e t=Al.get e' t\/Al.get e t=.whn c (Al.get e' t) \/
  (∃b v0,Al.get e t=.whn (c&&b) v0/\Al.get e' t=.whn b v0)\/∃j l v0,Al.get e t=.whn ((c&&j)&&l) v0/\Al.get e' t=.whn (j&&l) v0:=by
 induction e' with
 | nil=>exact .inl rfl
 | cons p r m=>
  obtain⟨d,v⟩:=p
  rw[CE]
  split
  .rename_i hd;subst hd;exact .inr h.1
  .exact m h.2
theorem Xf{c}{e' e}{h}{n N}(hc:c=true)(I:T2 c e' e):AZ ⟨e,h,n,N⟩ ⟨e',h,n,N⟩:=by
 intro U a w ⟨_,m,hsz,y,A,B,C,J,E,q⟩
 refine⟨_,m,hsz,y,A,B,C,J,E,λt=>?_⟩
 subst hc
 have j:=q t
 rcases I.get t with l | l | l | ⟨b,v0,l,F⟩ | ⟨M,O,v0,l,F⟩
 .rw[l];exact .any _
 .rwa [show Al.get (St.mk e h n N).e t=Al.get e' t from l] at j
 .rw[show Al.get (St.mk e h n N).e t=.whn true (Al.get e' t) from l] at j
  cases j with
  | whn T _=>exact T rfl
 .rw[show Al.get (St.mk e h n N).e t=.whn (true&&b) v0 from l] at j
  rw[yO] at j
  rw[F];exact j
 .rw[show Al.get (St.mk e h n N).e t=.whn ((true&&M)&&O) v0 from l] at j
  rw[yO] at j
  rw[F];exact j
theorem YH{a b}(h:a=false):(a&&b)=false:=by rw[h];rfl
section
variable{P:Program}{c:Bool}{o:Oper}{R:Aa}{h:AL}{n:Nat}
variable{α:Type}{f:α->List RV}
end
section
variable{P:Program}{c:Bool}{o:Oper}{R:Aa}{h:AL}{n:Nat}
theorem GV{t j}{x y}{k}{m n}(l:o.op=.binOp .and t x y j)(q:Ev c R x (.r (.int k m)))(A:Ev c R y (.r (.int k n))):AS P c o R h (.r (.int k (CR k m n))):=
 Eo l q A (λw=>by simp[binOp,Op.intBits,CR]) (λ_ _=>.int _ _)
theorem KI{t j}{x y}{k}{m n}(l:o.op=.binOp .or t x y j)(q:Ev c R x (.r (.int k m)))(A:Ev c R y (.r (.int k n))):AS P c o R h (.r (.int k (EJ k m n))):=
 Eo l q A (λw=>by simp[binOp,Op.intBits,EJ]) (λ_ _=>.int _ _)
theorem lw{t j}{x y}{k}{m n}(l:o.op=.binOp .xor t x y j)(q:Ev c R x (.r (.int k m)))(A:Ev c R y (.r (.int k n))):AS P c o R h (.r (.int k (XH k m n))):=
 Eo l q A (λw=>by simp[binOp,Op.intBits,XH]) (λ_ _=>.int _ _)
theorem gM{t j}{x y}{k}{m n}(l:o.op=.binOp .andNot t x y j)(q:Ev c R x (.r (.int k m)))(A:Ev c R y (.r (.int k n))):AS P c o R h (.r (.int k (Pa k m n))):=
 Eo l q A (λw=>by simp[binOp,Op.intBits,Pa]) (λ_ _=>.int _ _)
theorem KM{t q:TypeId}{x y:Operand}{k w:IntKind}{m:Int}{b:Nat}(A:o.op=.binOp .shl t x y q)(B:Ev c R x (.r (.int k m)))(C:Ev c R y (.r (.int w b))):AS P c o R h (.r (.int k (Di k m b))):=by
 intro j z a _ _ l
 refine⟨.int k (Di k m b),λF E=>?_,.r (.int _ _)⟩
 unfold execOp
 rw[A]
 simp[Ci (B.rep l j),Ci (C.rep l j),eqGuard,binOp,Op.shift,Di]
 intro I;omega
theorem SQ{t q:TypeId}{x y:Operand}{k w:IntKind}{m:Int}{b:Nat}(A:o.op=.binOp .shr t x y q)(B:Ev c R x (.r (.int k m)))(C:Ev c R y (.r (.int w b))):AS P c o R h (.r (.int k (Fh k m b))):=by
 intro j z a _ _ l
 refine⟨.int k (Fh k m b),λF E=>?_,.r (.int _ _)⟩
 unfold execOp
 rw[A]
 simp[Ci (B.rep l j),Ci (C.rep l j),eqGuard,binOp,Op.shift,Fh]
 intro I;omega
def T7(P:Program)(t:TypeId)(n:Nat)(e:TypeId)(sz:Nat):Prop:=P.underlying t=some (.array n e)/\∃i,P.info? e=some i/\i.size=sz
theorem RR{α:Type}{f}{sz}(m:∀a,(f a).length=sz):∀(l:List α) (i j:Nat) (a:α) (d:RV),l[i]?=some a->(f a)[j]?=some d->(l.flatMap f)[i * sz+j]?=some d
 | [],i,_,_,_,h,_=>by simp at h
 | x::l,0,j,a,d,h,hd=>by
  have q:x=a:=by simpa using h
  subst q
  have w:j<(f x).length:=(wx.1 hd).1
  rw[yf,zM,xd,xT w]
  exact hd
 | x::l,i+1,j,a,d,h,hd=>by
  have A:=RR m l i j a d (by simpa using h) hd
  rw[yf,xP (by rw[m,yU];omega),m]
  rw[show(i+1) * sz+j-sz=i * sz+j by rw[yU];omega]
  exact A
theorem eY{α:Type}{f}{t e}{sz F g}{y}{l:List α}{k}{z:Int}{a}(ho:o.op=.indexAddr t (.global g) y)(ht:T7 P t F e sz)(hT:HP g=some (l.flatMap f))(hn:l.length=F)
 (hy:Ev c R y (.r (.int k z))) (m:∀a, (f a).length=sz) (h0:0<sz) (hi:c=true->AO l z=some a):AS P c o R h (.rop (f a) 0) := by
  intro hc x w I hH he
  obtain⟨J, ii, M, O⟩ := ht
  obtain⟨z0, T, U⟩ := EZ (hi hc)
  have q := I.tabs.tab g _ hT
  generalize hv:(Value.pointer (some ⟨g, 0, none⟩))=v at q
  cases q with
  | @rop _ _ b off u hS A V =>
    simp only[Value.pointer.injEq, xF, Addr.mk.injEq, zt, yG] at hv
    obtain⟨rfl, B⟩ := hv
    subst B
    have X:(l.flatMap f)≠[] := by
      intro e0
      have C:0<(f a).length := by rw[m];exact h0
      have := RR m l z.toNat 0 a _ T (wz C)
      rw[e0] at this;simp at this
    refine⟨.pointer (some ⟨g, z.toNat * sz+0, none⟩), λw2 a0 => ?_, .rop (λj => u (z.toNat * sz+j)) (λ_ => hS X) (λj d C => ?_) (λj d C => ?_)⟩
    · unfold execOp
      rw[ho]
      have E:z<(F:Int) := by rw[<- hn];exact U
      have hg:w.eval (.global g)=.pointer (some ⟨g, 0, none⟩) := rfl
      simp[hg, Ci (hy.rep he hc), Instr.indexAt, Instr.sureAddr, asIntOf, run_underlying J, z0, E, DY M, O, Addr.add_lit]
    · have Z := RR m l z.toNat j a d T C
      have := A _ _ Z
      simpa using this
    · have Z := RR m l z.toNat j a d T C
      exact V _ _ Z
end
section
variable{P:Program}{c:Bool}{o:Oper}{R:Aa}{h:AL}{n:Nat}
theorem pM(s:List UInt8) l m:(⟨s.toArray⟩:ByteArray).extract l m=⟨((s.drop l).take (m-l)).toArray⟩:=by
 apply ByteArray.ext
 rw[ByteArray.data_extract]
 simp[List.extract_toArray]
theorem fp{t}{x}{A F:Option Operand}{s r:List UInt8}{l m:Int}(U:o.op=.slice t x A F none)(V:P.underlying t=some .string)(X:Ev c R x (.r (.str s)))
 (j:Hx c R 0 A l) (q:Hx c R s.length F m) (Z:c=true->Dl s l m=some r):AS P c o R h (.r (.str r)) := by
  intro B z w _ _ I
  obtain⟨T, h2, h3, rfl⟩ := Tn (Z B)
  have hsz:(⟨s.toArray⟩:ByteArray).size=s.length := rfl
  refine⟨.string ⟨((s.drop l.toNat).take (m.toNat - l.toNat)).toArray⟩, λw2 a0 => ?_, by have := A4.str (w := z.w) (S := z.S) ⟨((s.drop l.toNat).take (m.toNat - l.toNat)).toArray⟩;exact .r this⟩
  have C:∀W, (Instr.sliceBounds false s.length s.length (A.map w.eval) (F.map w.eval) none).run P W=.ok (l.toNat, m.toNat, s.length) W := by
    intro W
    cases F with
    | none =>
      simp only[Hx] at q
      subst q
      cases A with
      | none => simp only[Hx] at j;subst j;simp[Instr.sliceBounds]
      | some v =>
        obtain⟨k, J⟩ := j
        have M:∀W, (Instr.sliceBound (w.eval v) s.length .sliceB).run P W=.ok l.toNat W := λW => by rw[Ci (J.rep I B), M6 T (by omega)]
        simp[Instr.sliceBounds, M]
    | some v2 =>
      obtain⟨k2, O⟩ := q
      have E:∀W, (Instr.sliceBound (w.eval v2) s.length .sliceAlen).run P W=.ok m.toNat W := λW => by rw[Ci (O.rep I B), M6 (by omega) (by omega)]
      cases A with
      | none => simp only[Hx] at j;subst j;simp[Instr.sliceBounds, E]
      | some v =>
        obtain⟨k, J⟩ := j
        have M:∀W, (Instr.sliceBound (w.eval v) m.toNat .sliceB).run P W=.ok l.toNat W := λW => by rw[Ci (J.rep I B), M6 T (by omega)]
        simp[Instr.sliceBounds, M, E]
  unfold execOp
  rw[U]
  simp[IM (X.rep I B), Instr.sliceAt, Instr.slice, run_underlying V, hsz, C, pM]
theorem bF:∀(j:List Int) (b:List UInt8),j.foldl (λr n=>r.push (UInt8.ofNat n.toNat)) (⟨b.toArray⟩:ByteArray)=⟨(b++FZ j).toArray⟩
 | [],b=>by simp[FZ]
 | x::j,b=>by
  rw[yK]
  have:(⟨b.toArray⟩:ByteArray).push (UInt8.ofNat x.toNat)=⟨(b++[UInt8.ofNat x.toNat]).toArray⟩:=by
   apply ByteArray.ext
   simp[ByteArray.data_push]
  rw[this,bF j]
  simp[FZ]
theorem kX{J t}{e e2}{x}{ys:List Int}(ho:o.op=.convert J t x)(q:P.underlying J=some (.slice e))(A:P.underlying e=some (.int .u8))(U:P.underlying t=some .string)
 (hx:Pq R h x e2 1 (Ai .u8) ys):Az P true o R h n (.r (.str (FZ ys))) h n := by
  intro hc z w B V hn he K Q hK
  obtain⟨C, X⟩ := hx.src.src (by decide) rfl B V he
  have E:∃u, (convert J t (w.eval x)).run P z.w=.ok u z.w/\AP z (.r (.str (FZ ys))) u := by
    have F:AP z (.r (.str (FZ ys))) (.string ⟨(FZ ys).toArray⟩) := .r (by have := A4.str (w := z.w) (S := z.S) ⟨(FZ ys).toArray⟩;exact this)
    rcases C with ⟨hy, c0, M⟩ | ⟨a, cap, I, M, hl, j, Z, O⟩
    · have:ys=[] := List.map_eq_nil_iff.1 hy
      subst this
      refine⟨.string ⟨(FZ []).toArray⟩, ?_, F⟩
      rw[M]
      simp[convert, run_underlying q, run_underlying U, run_underlying A, Conv.bytesToString, FZ]
      rfl
    · have l:I=ys.map (Value.int .u8) := by
        simp only[xk, Nat.mul_one] at hl
        apply yg
        intro i
        by_cases hi:i<ys.length
        · have T := O i (Ai .u8 ys[i]) 0 (.int .u8 ys[i]) (by simp[wz hi]) rfl
          obtain⟨u, h3, h4⟩ := T
          rw[Nat.mul_one, yG] at h3
          cases h4
          rw[h3];simp[wz hi]
        · rw[yN (by omega), yN (by simp;omega)]
      subst l
      have m:(loadCells a (ys.map (Ai .u8)).length).run P z.w=.ok (ys.map (Value.int .u8)).toArray z.w := by
        rw[xk]
        have := run_loadCells_list (P := P) (w := z.w) a (ys.map (Value.int .u8)) j
        rwa [xk] at this
      have hb := run_bytesToString (P := P) z.w a (ys.map (Ai .u8)).length cap ys m
      have hp:ys.foldl (λr n => r.push (UInt8.ofNat n.toNat)) ByteArray.empty=⟨(FZ ys).toArray⟩ := by
        have := bF ys []
        rw[yR] at this
        exact this
      rw[hp] at hb
      refine⟨.string ⟨(FZ ys).toArray⟩, ?_, F⟩
      rw[M]
      simp[convert, run_underlying q, run_underlying U, run_underlying A]
      simpa using hb
  obtain⟨u, Z, T⟩ := E
  unfold Oper.wp execOp
  rw[ho]
  simp only[Sem.run_bind, Z, Result.andThen_ok, Sem.run_pure]
  exact hK u z (.refl z) B V hn T
end
section
variable{P:Program}{c:Bool}{o:Oper}{R:Aa}{h:AL}
theorem eV{t}{x}{id g k}{e}{sz}{cs ds:List AV}(U:o.op=.load t x)(V:BW P t sz)(X:Ev c R x (.ptr id g 0 k))(Z:c=true->hget h id=some (.box g e cs))
 (hd:(cs.drop k).take sz=ds) (M:ds.length=sz):AS P c o R h (.agg ds) := by
  intro O z w C hH he
  have m:z.H id=some (.box g e cs) := by rw[hH];exact Z O
  obtain⟨b, l, h1, h2, h3, h4, T⟩ := IQ C m (X.rep he O)
  have B:∀j a, ds[j]?=some a->cs[k+j]?=some a := by
    intro j a q
    have E:j<sz := by rw[<- M];exact(wx.1 q).1
    rw[<- hd, xn, ww E, xr] at q
    exact q
  have A:∀j, j<sz->z.w.cell? ⟨b, k+j, none⟩=some ((λj => l.getD (k+j) undef) j) := by
    intro j q
    obtain⟨u, F, _, _⟩ := T _ _ (B j _ (wz (by omega:j<ds.length)))
    have I:k+j<l.size := (xt.1 F).1
    rw[cell_of_row _ b (k+j) l e _ h3]
    simp[I]
  refine⟨.agg ((List.range sz).map λj => l.getD (k+j) undef).toArray, λw2 J => ?_, JD M _ λj a q => ?_⟩
  · unfold execOp
    rw[U]
    simp[h2, J0 V _ (λj q => (J.cellO m h1).trans (A j q))]
  · obtain⟨u, F, _, h7⟩ := T _ _ (B j a q)
    simpa[F] using h7
theorem LN{t}{x}{id g k}{e}{sz}{cs ds:List AV}(j:o.op=.load t x)(l:BW P t sz)(m:Ev c R x (.ptr id g 0 k))(q:hget h id=some (.box g e cs))
 (hd:(cs.drop k).take sz=ds) (w:ds.length=sz):AS P c o R h (.agg ds) :=
  eV j l m (λ_ => q) hd w
end
theorem AZ.ren{s:St} t i j{g}{e}{sz}{xs}(a0:(i==j)=false)(ht:get s.e t=.own i g)(hh:hget s.h i=some (.arr g e sz xs)) :
  AZ s ⟨(t,.own j s.n)::s.e,(j,some (.arr s.n e sz xs))::(i,none)::s.h,s.n+1,s.N⟩:=by
 have a7:i≠j:=by simpa using a0
 intro c0 a w ⟨_,X,hsz,y,a1,a2,B,hH,O,U⟩
 have F:y.H i=some (.arr g e sz xs):=by rw[hH];exact hh
 let z:Cx:={ y with H:=λd=>if j=d then some (.arr s.n e sz xs) else if i=d then none else y.H d,β:=λd=>if j=d then y.β i else y.β d,K:=λd=>if j=d then λ_=>none else y.K d,n:=y.n+1 }
 have J:y.le z:=by
  refine⟨wy _,rfl,rfl,rfl,λ_ _=>rfl,λ_ h=>h,rfl,zH _,λd V l hg=>?_,λd V l hf hg hv=>?_⟩
  .dsimp only [z] at l ⊢
   split at l
   .cases l
    exact absurd hg (by simp[AU.gen,AU.isCal,O])
   .rename_i I
    split at l
    .cases l
    .exact⟨V,l,rfl,rfl,by rw[wv I]⟩
  .dsimp only [z] at l ⊢
   split at l
   .cases l;cases hf
   .rename_i I
    split at l
    .cases l
    .exact⟨V,l,hf,rfl,rfl,rfl,by rw[wv I]⟩
 have Z:z.ok:=by
  refine⟨B.S_lt,B.F_lt,B.SF,λd o A=>?_,λd o b k A C=>?_,λd T o V b k k' A l C m=>?_,λd o q b c A C=>?_,B.tabs.le J⟩
  .dsimp only [z] at A ⊢
   split at A
   .rename_i I
    cases A
    rw[ww I,ww I]
    refine⟨by simp[AU.gen,O],?_⟩
    have E:=(B.obj i _ F).2
    exact(show CL y (y.β i) (λ_=>none) (.arr s.n e sz xs) from E).mono J (λb k _=>rfl) λ_ _ _ _=>rfl
   .rename_i I
    split at A
    .cases A
    .rw[wv I,wv I]
     obtain⟨M,E⟩:=B.obj d o A
     exact⟨WAZ M,E.mono J (λb k _=>rfl) λ_ _ _ _=>rfl⟩
  .dsimp only [z] at A C ⊢
   split at C
   .exact B.own i _ b k F C
   .rename_i I
    rw[wv I] at A
    split at A
    .cases A
    .exact B.own d o b k A C
  .dsimp only [z] at A l C m
   by_cases M:j=d<;>by_cases E:j=T
   .rw[<- M,<- E]
   .rw[ww M] at C
    rw[wv E] at l m
    split at l
    .cases l
    .rename_i h3
     exact absurd (B.inj i T _ _ b k k' F l C m) h3
   .rw[wv M] at A C
    rw[ww E] at m
    split at A
    .cases A
    .rename_i h3
     exact absurd (B.inj d i _ _ b k k' A F C m).symm h3
   .rw[wv M] at A C
    rw[wv E] at l m
    split at A
    .cases A
    .split at l
     .cases l
     .exact B.inj d T _ _ b k k' A l C m
  .dsimp only [z] at A C ⊢
   split at C
   .cases C
   .rename_i I
    rw[wv I] at A
    split at A
    .cases A
    .obtain⟨e1,e2,e3,e4,e5⟩:=B.ext d o q b c A C
     refine⟨e1,e2,e3,λT V k l m=>?_,λT V q' c' l m=>?_⟩
     .by_cases E:j=T
      .rw[ww E] at m
       exact e4 i _ k F m
      .rw[wv E] at l m
       split at l
       .cases l
       .exact e4 T V k l m
     .by_cases E:j=T
      .rw[ww E] at m
       cases m
      .rw[wv E] at l m
       split at l
       .cases l
       .exact e5 T V q' c' l m
 refine⟨_,X,hsz,z,a1,a2.trans J,Z,?_,by simp[z,O],λt'=>?_⟩
 .funext d
  show(if j=d then _ else if i=d then _ else y.H d)=_
  rw[BG,BG,hH]
 .rw[CE]
  split
  .rename_i a6
   have M:=U t
   rw[ht,a6] at M
   generalize a.tmps.getD t' undef=u at M ⊢
   cases M with
   | own M E h3=>
    refine .own (by simp[z,O]) E λo A _=>?_
    dsimp only [z] at A ⊢
    rw[ww rfl] at A ⊢
    cases A
    have h5:=h3 _ F rfl
    exact h5
  .exact(U t').mono J
open Go.ChangeMaps (setBlock)
open Go.MapKept Go.RowKit
def Ax{α:Type}(l:List (Int × α))(k:Int):Nat:=(Ao l k).getD l.length
theorem W7{α β:Type}(rd:α->β)(m:List (Int × α))(j:Nat):(Ap rd m)[j]?=(m[j]?).map λp=>(p.1,rd p.2):=by simp[Ap]
theorem TN{α β:Type}(rd:α->β)(m:List (Int × α)):(Ap rd m).length=m.length:=by simp[Ap]
theorem MR{α β:Type}(rd:α->β) m k:Ao (Ap rd m) k=Ao m k:=VY (λp=>(p.1,rd p.2)) (λ_=>rfl) m k
theorem SC{α β:Type}(rd:α->β) m k:Ax (Ap rd m) k=Ax m k:=by unfold Ax;rw[MR,TN]
theorem Lw{α:Type}{m:List (Int × α)}{k:Int}{v:α}(h:AR m k=some v):Ao m k=some (Ax m k)/\m[Ax m k]?=some (k,v):=by
 cases l:Ao m k with
 | none=>rw[(E2 l).1] at h;cases h
 | some j=>
  obtain⟨w,A,q,_⟩:=DT l
  rw[h] at q;cases q
  unfold Ax
  rw[l]
  exact⟨rfl,A⟩
theorem dl{α:Type}{m:List (Int × α)}{k:Int}{v w:α}(h:AR m k=some v)(q:Int):Ao (Am m k w) q=Ao m q:=by
 induction m with
 | nil=>cases h
 | cons p r l=>
  unfold AR at h
  unfold Am
  split at h
  .rename_i j
   rw[ww j]
   subst j
   rfl
  .rename_i j
   rw[wv j]
   show(if q=p.1 then some 0 else(Ao (Am r k w) q).map (· + 1))=(if q=p.1 then some 0 else(Ao r q).map (· + 1))
   rw[l h]
theorem Yf{α:Type}{m:List (Int × α)}{k:Int}{v w:α}(h:AR m k=some v):(Am m k w).length=m.length:=by
 obtain⟨j,_⟩:=Lw h
 obtain⟨_,_,_,l⟩:=DT j
 rw[l,yh]
theorem HY{α:Type}{m:List (Int × α)}{k:Int}{v w:α}(h:AR m k=some v)(q:Int):Ax (Am m k w) q=Ax m q:=by
 unfold Ax;rw[dl h,Yf h]
section
variable{P:Program}{c:Bool}{o:Oper}{R:Aa}{h:AL}{n:Nat}
theorem fJ{x:Cx}(C:x.ok){id g J}{e}{l:List (Int × List RV)}{v}(M:x.H id=some (.mb g J e l))(E:AP x (.mref id g) v) :
  ∃(b:Nat) (w:List MapEntry),x.β id=some (b,1)/\v=.map (some b)/\GB l w/\x.w.heap[b]?=some (.map w.toArray l.length)/\J<x.n/\∀(j:Nat) (k:Int) (cs:List RV) (m:MapEntry),l[j]?=some (k,cs)->w[j]?=some m ->
   ∃A q,x.K id j=some (A,1)/\m.val=.pointer (some ⟨A,0,none⟩)/\x.w.heap[A]?=some (.cells q e (0,0))/\q.size=cs.length/\∀(i:Nat) (c:RV),cs[i]?=some c->∃u:Value,q[i]?=some u/\u.oneCell'=true/\A4 x.w x.S c u:=by
 obtain⟨_,U,b,w,O,V,X,T⟩:=C.obj _ _ M
 cases E with
 | mref _ _ E=>
  obtain⟨b',cap,F,Z⟩:=E _ M rfl
  rw[O] at F
  simp only[xF,xM] at F
  obtain⟨rfl,rfl⟩:=F
  exact⟨b,w,O,Z,⟨X,λj k d I=>by obtain⟨m,_,_,B,e2,e3,_⟩:=T j k d I;exact⟨m,B,e2,e3⟩⟩,V,U,λj k d m I hm=>by
   obtain⟨m',A,q,B,_,_,e4⟩:=T j k d I
   rw[hm] at B;cases B;exact⟨A,q,e4⟩⟩
theorem lT{t} id e(B:o.op=.makeMap t none):Az P c o R h n (.mref id n) ((id,some (.mb n n e []))::h) (n+1):=by
 intro M z w q C A O K Q E
 have l:=HB q id (.mb z.n z.n e []) (z.w.alloc (.map #[] 0)) (some (z.w.heap.size,1)) (λ_=>none) (z.n+1) (by simp) rfl rfl rfl
  (λb m _=>heap_alloc_old _ _ m) (λb k m=>by cases m;simp) (λj b k m=>by cases m) (by omega) (by simp[AU.gen]) (λhg=>absurd hg (by simp[AU.gen,AU.isCal])) (λ_ hg=>absurd hg (by simp[AU.gen]))
  (λF=>⟨ye _,z.w.heap.size,[],rfl,heap_alloc_new _ _,rfl,λj k d I=>by simp at I⟩)
 unfold Oper.wp execOp
 rw[B]
 simp only[zY,Sem.run_bind,run_makeMap,Result.andThen_ok,Sem.run_pure]
 refine E (.map (some z.w.heap.size)) _ l.1 l.2 (by simp only[C,A];exact Ck _ _ _) (by simp[A]) (.mref (by simp[A]) rfl λT J _=>?_)
 exact⟨z.w.heap.size,1,by simp,rfl⟩
theorem XO{x:Cx}(w:x.ok){id g A j}{e}{l}{v:Value}(C:x.H id=some (.mb g A e l))(B:A<x.n)(I:v.oneCell'=true)
 (h:∀q J b c, l[j]?=some (q, J)->x.K id j=some (b, c)->v=.pointer (some ⟨b, 0, none⟩)):AP x (.pk id g A j 0) v := by
  refine .pk (w.obj _ _ C).1 B I λo b c q m E _ hg M F O => ?_
  rw[C] at E;cases E
  simp only[AU.kshape, xJ, xK, xM] at F
  obtain⟨p, T, rfl, _⟩ := F
  exact h _ _ b c T O
theorem rF{α:Type}{row:α->List RV}{t kt et:TypeId}{x i:Operand}{id g J:Nat}{e:TypeId}{m:List (Int × α)}{k:Int}(ok:Bool)(ho:o.op=.lookup t x i ok)(ht:P.underlying t=some (.map kt et))
  (hk:P.underlying kt=some (.int .i64)) (hz:∀w,(zeroValue et).run P w=.ok (.pointer none) w) (hx:Ev c R x (.mref id g)) (hi:Ev c R i (.r (.int .i64 k))) (hh:hget h id=some (.mb g J e (Ap row m))) :
  AS P c o R h (match ok with | true=>.tup [.pk id g J (Ax m k) 0,.r (.bool (AR m k).isSome)] | false=>.pk id g J (Ax m k) 0):=by
 intro hc y w I hH he
 have l:y.H id=some (.mb g J e (Ap row m)):=by rw[hH];exact hh
 obtain⟨b,es,h1,h2,h3,h4,h0,h5⟩:=fJ I l (hx.rep he hc)
 have E:=hi.rep he hc
 generalize M:w.eval i=iv at E
 cases E with
 | r E=>
  cases E with
  | int=>
   have O:∀F:World,DZ y F->F.heap[b]?=some (.map es.toArray (Ap row m).length):=λF B=>by rw[B b (.inr ⟨id,_,1,l,.inl h1⟩)];exact h4
   cases V:Ao (Ap row m) k with
   | none=>
    have C:Ao m k=none:=by rw[<- MR row];exact V
    rw[(E2 C).1]
    have T:AP y (.pk id g J (Ax m k) 0) (.pointer none):=XO I l h0 rfl λq cs b c X _=>by
     unfold Ax at X
     rw[C] at X
     have:=(wx.1 X).1
     simp[TN] at this
    refine⟨match ok with | true=>.tuple #[.pointer none,.bool false] | false=>.pointer none,λF B=>?_,?_⟩
    .simp only[execOp,ho,h2,M,Sem.run_bind,MK h3 ht hk (O F B) k _ (hz F) ok,V,Result.andThen_ok,Sem.run_pure]
     cases ok<;>simp
    .cases ok
     .exact T
     .refine .tup rfl λq a' u' A e2=>?_
      rcases q with _ | _ | q
      .simp at A e2;subst A;subst e2;exact T
      .simp at A e2;subst A;subst e2;exact .r (.bool _)
      .simp at A
   | some j=>
    have C:Ao m k=some j:=by rw[<- MR row];exact V
    obtain⟨v,A,e2,_⟩:=DT C
    have U:(Ap row m)[j]?=some (k,row v):=by rw[W7,A];rfl
    obtain⟨Z,e3,_⟩:=h3.2 j k _ U
    obtain⟨bb,a0,f1,f2,_⟩:=h5 j k _ Z U e3
    have hD:Ax m k=j:=by unfold Ax;rw[C];rfl
    rw[e2,hD]
    have T:AP y (.pk id g J j 0) Z.val:=XO I l h0 (by rw[f2];rfl) λq cs b c X hK=>by
     rw[f1] at hK;cases hK;exact f2
    refine⟨match ok with | true=>.tuple #[Z.val,.bool true] | false=>Z.val,λF B=>?_,?_⟩
    .simp only[execOp,ho,h2,M,Sem.run_bind,MK h3 ht hk (O F B) k _ (hz F) ok,V,e3,Result.andThen_ok,Sem.run_pure]
     cases ok<;>simp
    .cases ok
     .exact T
     .refine .tup rfl λq a' u' A e2=>?_
      rcases q with _ | _ | q
      .simp at A e2;subst A;subst e2;exact T
      .simp at A e2;subst A;subst e2;exact .r (.bool _)
      .simp at A
theorem OC{x:Cx}(B:x.ok){id g C j k}{e}{l}{q}{cs:List RV}{v}(E:x.H id=some (.mb g C e l))(J:AP x (.pk id g C j k) v)(F:l[j]?=some (q,cs)) :
  ∃A w,x.K id j=some (A,1)/\v=.pointer (some ⟨A,k,none⟩)/\x.w.heap[A]?=some (.cells w e (0,0))/\w.size=cs.length/\∀(i:Nat) (c:RV),cs[i]?=some c->∃u:Value,w[i]?=some u/\u.oneCell'=true/\A4 x.w x.S c u:=by
 obtain⟨_,V,b,X,Z,h2,h3,M⟩:=B.obj _ _ E
 obtain⟨m,A,w,e1,e2,e3,I,e5,O,T,U⟩:=M j q cs F
 cases J with
 | pk _ _ _ hp=>
  exact⟨A,w,I,hp _ A 1 q cs.length E rfl rfl rfl (by simp[AU.kshape,F]) I,O,T,U⟩
theorem ou{t}{x}{f off}{id g B j k}{e}{l}(I:o.op=.fieldAddr t x f)(T:An P t f off)(U:Ev c R x (.pk id g B j k))(V:hget h id=some (.mb g B e l))(X:c=true->(l[j]?).isSome=true) :
  AS P c o R h (.pk id g B j (k+off)):=by
 intro J z w C Z he
 obtain⟨fs,fl,ii,h1,h2,h3,h4,h5⟩:=T
 have A:z.H id=some (.mb g B e l):=by rw[Z];exact V
 obtain⟨⟨q,cs⟩,E⟩:=Option.isSome_iff_exists.1 (X J)
 have M:=U.rep he J
 obtain⟨bb,a0,k1,k2,k3,_⟩:=OC C A M E
 have F:B<z.n:=by cases M;assumption
 refine⟨.pointer (some ⟨bb,k+off,none⟩),λw2 a1=>?_,.pk (C.obj _ _ A).1 F rfl λo b c q m I _ hg a2 hs O=>?_⟩
 .unfold execOp
  rw[I]
  simp[k2,Instr.fieldAt,run_underlying h1,h2,Instr.sureAddr,fieldPlace,DY h4,h5,h3,Addr.add_lit]
 .rw[k1] at O;cases O;rfl
theorem gL{x:Cx}{q:World}(w:DZ x q){id j m}{o}(A:x.H id=some o)(B:x.K id j=some (m,1)){l}{e}(C:x.w.heap[m]?=some (.cells l e (0,0)))(k:Nat):q.cell? ⟨m,k,none⟩=l[k]?:=by
 have:q.heap[m]?=some (.cells l e (0,0)):=by rw[w m (.inr ⟨id,_,1,A,.inr ⟨j,B⟩⟩)];exact C
 exact cell_of_row _ m k l e _ this
theorem sJ{t}{x}{id g A j k}{e}{l}{q}{cs}{d}(F:o.op=.load t x)(I:BH P t)(J:Ev c R x (.pk id g A j k))(M:hget h id=some (.mb g A e l))
 (O:c=true->l[j]?=some (q, cs)) (hd:cs[k]?=some d):AS P c o R h (.r d) := by
  intro E z w B T U
  have m:z.H id=some (.mb g A e l) := by rw[T];exact M
  obtain⟨bb, V, X, Z, k3, k4, k5⟩ := OC B m (J.rep U E) (O E)
  obtain⟨u, e1, e2, e3⟩ := k5 k d hd
  refine⟨u, λw2 C => ?_, .r e3⟩
  unfold execOp
  rw[F]
  simp[Z, Mj I ((gL C m X k3 k).trans e1)]
theorem vg{t}{x}{id g C j sz}{e}{l}{q}{cs:List RV}(J:o.op=.load t x)(M:BW P t sz)(O:Ev c R x (.pk id g C j 0))(T:hget h id=some (.mb g C e l))
 (B:c=true->l[j]?=some (q, cs)) (U:cs.length=sz):AS P c o R h (.agg (cs.map .r)) := by
  intro I z w E V X
  have m:z.H id=some (.mb g C e l) := by rw[V];exact T
  obtain⟨bb, A, Z, k2, k3, k4, k5⟩ := OC E m (O.rep X I) (B I)
  refine⟨.agg ((List.range sz).map λj => A.getD j undef).toArray, λw2 F => ?_, JD (by simpa using U) _ λj a B => ?_⟩
  · unfold execOp
    rw[J]
    simp[k2, J0 M (λj => A.getD j undef) (λj B => by
      rw[xd, gL F m Z k3 j]
      have:j<A.size := by omega
      simp[this])]
  · rw[xJ, xK] at B
    obtain⟨d, hd, rfl⟩ := B
    obtain⟨u, e1, _, e3⟩ := k5 j d hd
    simpa[e1] using(AP.r e3:AP z (.r d) u)
theorem iu{t}{x y}{id g ve j k}{e:TypeId}{l:List (Int × List RV)}{q}{cs:List RV}{d}(ho:o.op=.store t x y)(ht:∃i, P.info? t=some i/\i.size=1)(hx:Ev c R x (.pk id g ve j k))(hh:hget h id=some (.mb g ve e l))
 (hj:l[j]?=some (q, cs)) (hk:Nat.blt k cs.length=true) (hy:Ev c R y (.r d)):Az P c o R h n .any ((id, some (.mb g ve e (l.set j (q, cs.set k d))))::h) n := by
  intro hc z w B hH hn he K Q hK
  obtain⟨ii, X, ab⟩ := ht
  have A:z.H id=some (.mb g ve e l) := by rw[hH];exact hh
  have ag := hx.rep he hc
  obtain⟨V, O, k1, k2, k3, k4, k5⟩ := OC B A ag hj
  have ah := B8 hk
  have ac := hy.rep he hc
  generalize ai:w.eval y=v at ac
  cases ac with
  | r ad =>
  have T := ad.one
  have E:v.cells = #[v] := by cases v<;>first | rfl | (simp[Value.oneCell'] at T)
  have a0 := O1 (P := P) (k := k) X k3 (v := v) (by rw[E];exact ab.symm) (by rw[E];intro u hu;simp at hu;subst hu;exact T) (by rw[E];show k+1<=_;omega)
  obtain⟨aj, ak, b, es, h1, h2, h3, h4⟩ := B.obj _ _ A
  have an:V<z.w.heap.size := (B.ext id _ j V 1 A k1).1
  have ae:j<l.length := (wx.1 hj).1
  generalize a1:(O.toList.take k++v.cells.toList++O.toList.drop (k+v.cells.size)).toArray=C at a0
  have a7:∀i, C[i]?=if k=i then some v else O[i]? := by
    intro i
    rw[<- a1, List.getElem?_toArray]
    have a2 := Jq O.toList v.cells.toList k i (by rw[E];simp;omega)
    rw[xq] at a2
    rw[a2, E]
    by_cases F:k=i
    · subst F;simp
    · rw[wv (by simp;omega), wv F];simp
  have Z:C.size=O.size := by rw[<- a1, E];simp;omega
  have af := HB B id (.mb g ve e (l.set j (q, cs.set k d))) (z.w.setRow V C) (some (b, 1)) (z.K id) z.n (by simp[World.setRow]) rfl rfl rfl
    (λb' _ U => setRow_other _ _ _ _ (λe => U _ A (.inr ⟨j, 1, by rw[e];exact k1⟩)))
    (λb' k' M => by cases M;exact⟨by simpa[World.setRow] using(B.own id _ b 1 A h1).1, .inr ⟨_, A, .inl ⟨1, h1⟩⟩⟩)
    (λj' b' k' M => ⟨⟨by simpa[World.setRow] using(B.ext id _ j' b' k' A M).1, .inr ⟨_, A, .inr ⟨j', k', M⟩⟩⟩, λk2 a8 => by cases a8;exact(B.ext id _ j' b k' A M).2.2.2.1 id _ 1 A h1, λj2 k2 a8 => ((B.ext id _ j' b' k' A M).2.2.2.2 id _ j2 k2 A a8).2⟩)
    (wy _) aj (λ_ => ⟨_, A, rfl, rfl, h1.symm⟩)
    (λ_ _ _ => ⟨_, A, rfl, rfl, rfl, by
      simp only[AU.kshape]
      rw[WAS]
      refine(yg λi => ?_)
      by_cases X:j=i
      · subst X;rw[yw (by simpa using ae)];simp[hj]
      · rw[yr X], rfl⟩)
    (λI => ⟨ak, b, es, rfl, by
      have U:V≠b := λe => (B.ext id _ j V 1 A k1).2.2.2.1 id _ 1 A (by rw[e];exact h1)
      exact(show(z.w.setRow V C).heap[b]?=z.w.heap[b]? from setRow_other _ _ _ _ (λe => U e.symm)).trans (by rw[h2, yh]), by rw[h3, yh], λi k' al X => by
      by_cases aa:j=i
      · subst aa
        rw[yw ae] at X
        cases X
        obtain⟨m, b2, a6, e1, e2, e3, e4, e5, e6, e7, e8⟩ := h4 j q cs hj
        rw[k1] at e4;cases e4
        refine⟨m, V, C, e1, e2, e3, k1, e5, setRow_heap _ _ _ _ _ _ k3, by rw[Z, k4, yh], λi c J => ?_⟩
        rw[a7]
        by_cases F:k=i
        · subst F
          rw[yw ah] at J
          cases J
          exact⟨v, ww rfl, T, ad.mono (λb M => I.blk b (.inl M)) I.S⟩
        · rw[yr F] at J
          obtain⟨u, f1, f2, f3⟩ := k5 i c J
          exact⟨u, by rw[wv F];exact f1, f2, f3.mono (λb M => I.blk b (.inl M)) I.S⟩
      · rw[yr aa] at X
        obtain⟨m, b2, a6, e1, e2, e3, e4, e5, e6, e7, e8⟩ := h4 i k' al X
        refine⟨m, b2, a6, e1, e2, e3, e4, e5, ?_, e7, λi' c J => by
          obtain⟨u, f1, f2, f3⟩ := e8 i' c J
          exact⟨u, f1, f2, f3.mono (λb M => I.blk b (.inl M)) I.S⟩⟩
        have U:V≠b2 := λe => aa (((B.ext id _ j V 1 A k1).2.2.2.2 id _ i 1 A (by rw[e];exact e4)).2).symm
        exact(show(z.w.setRow V C).heap[b2]?=z.w.heap[b2]? from setRow_other _ _ _ _ (λe => U e.symm)).trans e6⟩)
  unfold Oper.wp execOp
  rw[ho]
  simp only[k2, ai, Sem.run_bind, a0, Result.andThen_ok, Sem.run_pure]
  exact hK undef _ af.1 af.2 (by simp only[hH];exact Ck _ _ _) hn (.any _)
theorem jP{α:Type}{row:α->List RV}{t kt et:TypeId}{x i y:Operand}{id g ve id' g':Nat}{e:TypeId}{m:List (Int × α)}{k:Int}{a:α}(ho:o.op=.mapUpdate t x i y\/o.op=.insert t x i y)(ht:P.underlying t=some (.map kt et))(hk:P.underlying kt=some (.int .i64))
  (hx:Ev c R x (.mref id g)) (hi:Ev c R i (.r (.int .i64 k))) (hy:Ev c R y (.ptr id' g' 0 0)) (hh:hget h id=some (.mb g ve e (Ap row m))) (hb:hget h id'=some (.box g' e ((row a).map .r))) :
  Az P c o R h n .any ((id,some (.mb g n e (Ap row (Am m k a))))::(id',none)::h) (n+1):=by
 intro hc z w A hH hn he K Q hK
 have l:z.H id=some (.mb g ve e (Ap row m)):=by rw[hH];exact hh
 have q:z.H id'=some (.box g' e ((row a).map .r)):=by rw[hH];exact hb
 have ac:id≠id':=λe=>by rw[e] at l;rw[l] at q;cases q
 obtain⟨b,es,h1,h2,h3,h4,h0,h5⟩:=fJ A l (hx.rep he hc)
 obtain⟨bb,ad,p1,p2,p3,p4,p5⟩:=IQ A q (hy.rep he hc)
 have I:=hi.rep he hc
 generalize ae:w.eval i=iv at I
 cases I with
 | r I=>
  cases I with
  | int=>
   have O:=(A.own id _ b 1 l h1).1
   have a0:=(A.own id' _ bb 1 q p1).1
   have T:b≠bb:=λe=>ac (A.inj id id' _ _ b 1 1 l q h1 (by rw[e];exact p1))
   obtain⟨q1,q2,q3⟩:=gj h3 k (w.eval y) (row a)
   rw[SX] at q1 q2 q3
   rw[MR] at q1 q2 q3
   generalize af:Eu es k (Ao m k) (w.eval y)=F at q1 q2 q3
   have U:∀j J c,z.K id j=some (J,c)->J≠bb:=λj J c ag e=>(A.ext id _ j J c l ag).2.2.2.1 id' _ 1 q (by rw[e];exact p1)
   have a7:=wN A id id' (.mb g z.n e (Ap row (Am m k a))) { z.w with heap:=z.w.heap.setIfInBounds b (.map F.toArray F.length) } (some (b,1)) (λj=>if j=Ax m k then some (bb,1) else z.K id j) (z.n+1) (by simp) rfl rfl rfl
    (λJ _ ah=>by
     have:b≠J:=λe=>ah id _ (.inl rfl) l (.inl ⟨1,by rw[<- e];exact h1⟩)
     simp[this])
    (λJ V E=>by cases E;exact⟨by simpa using O,.inr ⟨id,_,.inl rfl,l,.inl ⟨1,h1⟩⟩⟩)
    (λj J V E=>by
     split at E
     .rename_i hj
      cases E
      refine⟨⟨by simpa using a0,.inr ⟨id',_,.inr rfl,q,.inl ⟨1,p1⟩⟩⟩,λk2 B=>by cases B;exact T rfl,λj2 k2 B=>?_⟩
      split at B
      .rename_i ai;rw[ai,hj]
      .exact absurd rfl (U j2 _ k2 B)
     .rename_i hj
      have a1:=A.ext id _ j J V l E
      refine⟨⟨by simpa using a1.1,.inr ⟨id,_,.inl rfl,l,.inr ⟨j,V,E⟩⟩⟩,λk2 B=>by cases B;exact a1.2.2.2.1 id _ 1 l h1,λj2 k2 B=>?_⟩
      split at B
      .cases B;exact absurd rfl (U j _ V E)
      .exact(a1.2.2.2.2 id _ j2 k2 l B).2)
    (zH _) (WAZ (A.obj _ _ l).1) (λ_=>⟨_,l,rfl,rfl,h1.symm⟩) (λ_ _ hv=>absurd hv (by simp[AU.ver]))
    (λM=>⟨ye _,b,F,rfl,by simp[Cx.tk,O,q2],q2,λj V a8 hj=>by
     obtain⟨mm,e1,e2,e3,e4⟩:=q3 j V a8 hj
     have aa:∀X,X≠b->(z.tk id id' (.mb g z.n e (Ap row (Am m k a))) { z.w with heap:=z.w.heap.setIfInBounds b (.map F.toArray F.length) } (some (b,1)) (λj=>if j=Ax m k then some (bb,1) else z.K id j) (z.n+1)).w.heap[X]?=z.w.heap[X]?:=λX aj=>by simp[Cx.tk,(zu aj)]
     rcases e4 with ⟨C,rfl,rfl,e⟩ | ⟨C,ak,f1,f2⟩
     .have a2:j=Ax m V:=by
       unfold Ax
       rcases C with C | ⟨C,rfl⟩
       .rw[C];rfl
       .rw[C];simp[TN]
      refine⟨mm,bb,ad,e1,e2,e3,ww a2,by rw[e];exact p2,(aa bb (zu T)).trans p3,by rw[p4];simp,λi c a6=>?_⟩
      obtain⟨u,g1,g2,g3⟩:=p5 i (.r c) (by rw[xJ,a6];rfl)
      cases g3 with
      | r g3=>exact⟨u,g1,g2,g3.mono (λb hb=>M.blk b (.inl hb)) M.S⟩
     .obtain⟨X,ab,g1,g2,g3,g4,g5⟩:=h5 j V a8 mm f1 f2
      have a2:j≠Ax m k:=λe=>by
       unfold Ax at e
       cases hq:Ao m k with
       | none=>rw[hq] at e;simp at e;rw[TN] at ak;omega
       | some j0=>rw[hq] at e C;simp at e;exact C (by rw[e])
      refine⟨mm,X,ab,e1,e2,e3,(wv a2).trans g1,g2,(aa X λe=>(A.ext id _ j X 1 l g1).2.2.2.1 id _ 1 l (by rw[e];exact h1)).trans g3,g4,λi c a6=>?_⟩
      obtain⟨u,k1,k2,k3⟩:=g5 i c a6
      exact⟨u,k1,k2,k3.mono (λb hb=>M.blk b (.inl hb)) M.S⟩⟩)
   have Z:=RO h3 ht hk h4 k (w.eval y)
   rw[MR,af] at Z
   unfold Oper.wp execOp
   rcases ho with ho | ho<;>
   .rw[ho]
    simp only[h2,ae,Sem.run_bind,Z,Result.andThen_ok,Sem.run_pure]
    exact hK undef _ a7.1 a7.2 (by rw[<- jS,<- hH,<- hn];rfl) (by show z.n+1=n+1;rw[hn]) (.any _)
end
end Go.Proofs.YtcgleifameckmaaGreatDoor.Al

namespace Go.Proofs.YtcgleifameckmaaGreatDoor.Al
open Go.ChangeMaps (setBlock)
open Go.MapKept Go.RowKit
theorem Q6{α:Type} m k(v:α):Ao (Am m k v) k=some (Ax m k):=by
 unfold Ax
 cases h:Ao m k with
 | none=>
  rw[(E2 h).2]
  have:∀(l:List (Int × α)),Ao l k=none->Ao (l++[(k,v)]) k=some l.length:=by
   intro l
   induction l with
   | nil=>intro _;simp[Ao]
   | cons p r A=>
    intro h
    unfold Ao at h
    split at h
    .cases h
    .rename_i B
     have q:Ao r k=none:=by cases C:Ao r k with | none=>rfl | some j=>rw[C] at h;cases h
     show(if k=p.1 then some 0 else(Ao (r++[(k,v)]) k).map (· + 1))=_
     rw[wv B,A q];simp
  rw[this m h];rfl
 | some j=>
  obtain⟨w,E,q,F⟩:=DT h
  have:=dl (w:=v) q k
  rw[this,h];rfl
theorem Gy{α:Type} m k(v:α):AR (Am m k v) k=some v:=by
 induction m with
 | nil=>simp[Am,AR]
 | cons p r j=>
  unfold Am
  split
  .simp[AR]
  .rename_i l
   show(if k=p.1 then some p.2 else AR (Am r k v) k)=_
   rw[wv l,j]
theorem sd{α:Type}{l:List (Int × α)}{k}{j}(h:Ao l k=some j):Ao (l.take j) k=none:=by
 induction l generalizing j with
 | nil=>cases h
 | cons p r m=>
  unfold Ao at h
  split at h
  .cases h;rfl
  .rename_i q
   rw[xK] at h
   obtain⟨A,w,rfl⟩:=h
   rw[WAU]
   unfold Ao
   rw[wv q,m w];rfl
section
variable{P:Program}{c:Bool}{o:Oper}{R:Aa}{h:AL}{n:Nat}
def fE(hole:Option (Nat × Bool))(a b:Nat):Prop:=match hole with
 | some (j,true)=>a=b+1/\j=b
 | _=>a=b
def KJ(x:Cx)(id j:Nat)(e:TypeId)(sz:Nat)(xs:List (List RV))(l cap:Nat)(us:List Value):Prop:=
 (∀row∈xs,row.length=sz)/\x.K id j=some (l,cap)/\x.w.ownsRow 0 e sz (.slice (some ⟨l,0,none⟩) xs.length cap) xs.length us/\∀i row c d,xs[i]?=some row->row[c]?=some d->∃u,us[i * sz+c]?=some u/\A4 x.w x.S d u
theorem Jy{x:Cx}(A:x.ok){id g B}{e}{sz}{hole}{l:List (Int × List (List RV))}(C:x.H id=some (.mr g B e sz hole l)) :
  0<sz/\B<x.n/\∃(b:Nat) (q:List MapEntry),x.β id=some (b,1)/\x.w.heap[b]?=some (.map q.toArray q.length)/\fE hole l.length q.length /\
   ∀(j:Nat) (k:Int) (xs:List (List RV)),l[j]?=some (k,xs)->∃w cap us,KJ x id j e sz xs w cap us/\(hole=some (j,true)\/∃m,q[j]?=some m/\m.key=.int .i64 k/\m.born=j/\(hole=some (j,false)\/m.val=.slice (some ⟨w,0,none⟩) xs.length cap)):=by
 obtain⟨_,E,F,b,q,I,J,M,O⟩:=A.obj _ _ C
 exact⟨E,F,b,q,I,J,M,λj k xs T=>by
  obtain⟨U,w,cap,us,e2,V,X,Z⟩:=O j k xs T
  exact⟨w,cap,us,⟨U,e2,V,X⟩,Z⟩⟩
theorem dP{x:Cx}{id g q b}{e}{sz}{hole}{l}{v}(w:x.H id=some (.mr g q e sz hole l))(j:AP x (.mref id g) v)(A:x.β id=some (b,1)):v=.map (some b):=by
 cases j with
 | mref _ _ j=>
  obtain⟨C,cap,m,B⟩:=j _ w rfl
  rw[A] at m
  simp only[xF,xM] at m
  obtain⟨rfl,rfl⟩:=m
  exact B
theorem fP{g v}{e}{sz}{hole}{l} k:Ao (AU.mr g v e sz hole l).kshape k=Ao l k:=VY (λp:Int × List (List RV)=>(p.1,some p.2.length)) (λ_=>rfl) l k
theorem Ul{x:Cx}(w:x.ok){id g B}{e}{sz}{hole}{l}{k}{v:Value}(A:x.H id=some (.mr g B e sz hole l))(J:v.oneCell'=true)
 (M:Ao l k=none->v=.slice none 0 0) (O:∀j xs b c, Ao l k=some j->l[j]?=some (k, xs)->x.K id j=some (b, c)->v=.slice (some ⟨b, 0, none⟩) xs.length c):AP x (.fo id g B k) v := by
  obtain⟨X, T, _⟩ := Jy w A
  refine .fo (w.obj _ _ A).1 T J λo C _ hg U => ?_
  rw[A] at C;cases C
  rw[fP]
  refine⟨M, λj q m b c E F V => ?_⟩
  obtain⟨xs, I, _⟩ := DT E
  simp only[AU.kshape, xJ, I, yF, xF, xM] at F
  rw[<- F.2]
  exact O j xs b c E I V
theorem N9{x:Cx}(w:x.ok){id g B}{e}{sz}{hole}{l}{k}{v}(C:x.H id=some (.mr g B e sz hole l))(I:AP x (.fo id g B k) v) :
  (Ao l k=none/\v=.slice none 0 0/\AR l k=none)\/∃j xs m cap us,Ao l k=some j/\AR l k=some xs/\l[j]?=some (k,xs)/\KJ x id j e sz xs m cap us/\v=.slice (some ⟨m,0,none⟩) xs.length cap:=by
 obtain⟨O,_,b,T,U,V,X,J⟩:=Jy w C
 cases I with
 | fo _ _ _ hp=>
  obtain⟨E,e2⟩:=hp _ C rfl rfl rfl
  rw[fP] at E e2
  cases q:Ao l k with
  | none=>exact .inl ⟨rfl,E q,(E2 q).1⟩
  | some j=>
   obtain⟨xs,A,M,_⟩:=DT q
   obtain⟨m,cap,us,F,_⟩:=J j k xs A
   exact .inr ⟨j,xs,m,cap,us,rfl,M,A,F,e2 j k xs.length m cap q (by simp[AU.kshape,A]) F.2.1⟩
theorem oJ{t} id e sz(B:o.op=.makeMap t none)(hsz:Nat.blt 0 sz=true):Az P c o R h n (.mref id n) ((id,some (.mr n n e sz none []))::h) (n+1):=by
 intro M z w q C A O K Q E
 have l:=HB q id (.mr z.n z.n e sz none []) (z.w.alloc (.map #[] 0)) (some (z.w.heap.size,1)) (λ_=>none) (z.n+1) (by simp) rfl rfl rfl
  (λb m _=>heap_alloc_old _ _ m) (λb k m=>by cases m;simp) (λj b k m=>by cases m) (by omega) (by simp[AU.gen]) (λhg=>absurd hg (by simp[AU.gen,AU.isCal])) (λ_ hg=>absurd hg (by simp[AU.gen]))
  (λF=>⟨B8 hsz,ye _,z.w.heap.size,[],rfl,heap_alloc_new _ _,rfl,λj k d I=>by simp at I⟩)
 unfold Oper.wp execOp
 rw[B]
 simp only[zY,Sem.run_bind,run_makeMap,Result.andThen_ok,Sem.run_pure]
 refine E (.map (some z.w.heap.size)) _ l.1 l.2 (by simp only[C,A];exact Ck _ _ _) (by simp[A]) (.mref (by simp[A]) rfl λT J _=>?_)
 exact⟨z.w.heap.size,1,by simp,rfl⟩
theorem wK{x}{id}{e}{sz}{l:List (Int × List (List RV))}{q:List MapEntry}(A:l.length=q.length)
 (B:∀(j:Nat) (k:Int) (xs:List (List RV)), l[j]?=some (k, xs)->∃w cap C, KJ x id j e sz xs w cap C/\(none=some (j, true)\/∃m, q[j]?=some m/\m.key=.int .i64 k/\m.born=j/\(none=some (j, false)\/m.val=.slice (some ⟨w, 0, none⟩) xs.length cap))):GB l q :=
  ⟨A.symm, λj k xs E => by
    obtain⟨_, _, _, _, e | ⟨m, F, e2, I, _⟩⟩ := B j k xs E
    · cases e
    · exact⟨m, F, e2, I⟩⟩
theorem pJ{t kt et}{x i}{id g ve}{e}{sz}{l}{k}(ho:o.op=.lookup t x i false)(ht:P.underlying t=some (.map kt et))
 (hk:P.underlying kt=some (.int .i64)) (hz:∀w, (zeroValue et).run P w=.ok (.slice none 0 0) w) (hx:Ev c R x (.mref id g)) (hi:Ev c R i (.r (.int .i64 k))) (hh:hget h id=some (.mr g ve e sz none l)) :
    AS P c o R h (.fo id g ve k) := by
  intro hc y w F hH he
  have q:y.H id=some (.mr g ve e sz none l) := by rw[hH];exact hh
  obtain⟨h0, hv, b, es, h1, h2, h3, h4⟩ := Jy F q
  have J := dP q (hx.rep he hc) h1
  have M := wK h3 h4
  have C := hi.rep he hc
  generalize O:w.eval i=iv at C
  cases C with
  | r C =>
    cases C with
    | int =>
      have T:∀E:World, DZ y E->E.heap[b]?=some (.map es.toArray es.length) := λE A => by rw[A b (.inr ⟨id, _, 1, q, .inl h1⟩)];exact h2
      cases I:Ao l k with
      | none =>
        refine⟨.slice none 0 0, λE A => ?_, Ul F q rfl (λ_ => rfl) λj xs b c B => by rw[I] at B;cases B⟩
        simp only[execOp, ho, J, O, Sem.run_bind, MK M ht hk (T E A) k _ (hz E) false, I, Result.andThen_ok, Sem.run_pure]
        simp
      | some j =>
        obtain⟨xs, e1, _⟩ := DT I
        obtain⟨bb, cap, us, k1, U⟩ := h4 j k xs e1
        rcases U with U | ⟨m, U, k3, k4, Z | Z⟩
        · cases U
        · cases Z
        · refine⟨m.val, λE A => ?_, Ul F q (by rw[Z];rfl) (λhn => by rw[I] at hn;cases hn) λj2 a0 b2 c2 B V X => ?_⟩
          · simp only[execOp, ho, J, O, Sem.run_bind, MK M ht hk (T E A) k _ (hz E) false, I, U, Result.andThen_ok, Sem.run_pure]
            simp
          · rw[I] at B;cases B
            rw[e1] at V;cases V
            rw[k1.2.1] at X;cases X
            exact Z
theorem nA{t}{e e'}{sz m}{x}{id g C}{hole}{l}{k}(F:o.op=.call { callee := .builtin .len, args := #[x], argTypes := #[t] })(E:DU P t e sz)
 (I:Ev c R x (.fo id g C k)) (J:hget h id=some (.mr g C e' m hole l)):AS P c o R h (.r (.int .i64 ((AR l k).getD []).length)) := by
  intro M z w q O T
  refine⟨.int .i64 ((AR l k).getD []).length, λV U => ?_, .r (.int _ _)⟩
  unfold execOp
  rw[F]
  rcases N9 q (by rw[O];exact J) (I.rep T M) with ⟨_, A, B⟩ | ⟨j, xs, X, cap, Z, _, B, _, _, A⟩
  · rw[B];simp[resolve, invoke, builtin, A, Builtin.len_, run_underlying E.1, goInt]
  · rw[B];simp[resolve, invoke, builtin, A, Builtin.len_, run_underlying E.1, goInt]
theorem vT{t e e'}{sz}{x y}{id g B}{hole}{l}{k}{kd}{z:Int}{row}(ho:o.op=.indexAddr t x y)(ht:DU P t e sz)(hx:Ev c R x (.fo id g B k))
 (hh:hget h id=some (.mr g B e' sz hole l)) (hy:Ev c R y (.r (.int kd z))) (hi:c=true->AO ((AR l k).getD []) z=some row):AS P c o R h (.pk id g B (Ax l k) (z.toNat * sz)) := by
  intro I q w J hH he
  obtain⟨M, ii, O, T⟩ := ht
  have C:q.H id=some (.mr g B e' sz hole l) := by rw[hH];exact hh
  have A := EZ (hi I)
  have hv := hx.rep he I
  have E:g<q.n/\B<q.n := by cases hv with | fo U V _ _ => exact⟨U, V⟩
  rcases N9 J C hv with ⟨_, _, X⟩ | ⟨j, xs, bb, cap, us, U, X, h4, h5, V⟩
  · rw[X] at A;simp at A
  · rw[X] at A
    have hD:Ax l k=j := by unfold Ax;rw[U];rfl
    have Z := A.1
    have F:z<xs.length := A.2.2
    refine⟨.pointer (some ⟨bb, z.toNat * sz, none⟩), λw2 a0 => ?_, .pk E.1 E.2 rfl λo' b c q' m a1 _ _ _ hs hK => ?_⟩
    · unfold execOp
      rw[ho]
      simp[V, Ci (hy.rep he I), Instr.indexAt, asIntOf, run_underlying M, Z, F, DY O, T, Addr.add_lit]
    · rw[hD, h5.2.1] at hK;cases hK;rfl
theorem qn{x:Cx}{q:World}(m:DZ x q){id j l cap}{o}(B:x.H id=some o){e}{sz}{xs}{us:List Value}(w:KJ x id j e sz xs l cap us){i}(A:i<us.length):q.cell? ⟨l,i,none⟩=us[i]?:=by
 have C:x.w.cell? ⟨l,i,none⟩=us[i]?:=by
  have:=w.2.2.1.cells (by rfl) i us[i] (wz A)
  rw[Addr.add_lit,xd] at this
  rw[this,wz A]
 rw[<- C]
 exact World.cell?_of_block (m l (.inr ⟨id,_,cap,B,.inr ⟨j,w.2.1⟩⟩))
theorem vp{t}{x}{id g J}{e}{sz}{hole}{l}{k z:Int}{row:List RV}(ho:o.op=.load t x)(ht:BW P t sz)(hx:Ev c R x (.pk id g J (Ax l k) (z.toNat * sz)))(hh:hget h id=some (.mr g J e sz hole l))
 (hi:c=true->AO ((AR l k).getD []) z=some row):AS P c o R h (.agg (row.map .r)) := by
  intro Z q w M hH he
  have m:q.H id=some (.mr g J e sz hole l) := by rw[hH];exact hh
  have B := EZ (hi Z)
  have hv := hx.rep he Z
  have hg:∃xs, AR l k=some xs := by
    cases hg:AR l k with
    | none => rw[hg] at B;simp at B
    | some xs => exact⟨xs, rfl⟩
  obtain⟨xs, hg⟩ := hg
  rw[hg] at B
  obtain⟨I, C⟩ := Lw hg
  obtain⟨h0, _, b, es, h1, h2, h3, h4⟩ := Jy M m
  obtain⟨bb, cap, E, F, _⟩ := h4 _ k xs C
  have A:xs[z.toNat]?=some row := B.2.1
  have O:row.length=sz := F.1 row (xa A)
  have T:w.eval x=.pointer (some ⟨bb, z.toNat * sz, none⟩) := by
    generalize w.eval x=v at hv
    cases hv with
    | pk _ _ _ hp => exact hp _ bb cap k xs.length m rfl rfl rfl (by simp[AU.kshape, C]) F.2.1
  have U:E.length=xs.length * sz := F.2.2.1.1
  have V:z.toNat<xs.length := (wx.1 A).1
  have a0:z.toNat * sz+sz<=E.length := by
    rw[U]
    have := xi sz (show z.toNat+1<=xs.length from V)
    rwa [yU, yn] at this
  refine⟨.agg ((List.range sz).map λj => E.getD (z.toNat * sz+j) undef).toArray, λw2 X => ?_, JD (by simpa using O) _ λj a I => ?_⟩
  · unfold execOp
    rw[ho]
    simp[T, J0 ht (λj => E.getD (z.toNat * sz+j) undef) (λj I => by
      have:z.toNat * sz+j<E.length := by omega
      rw[qn X m F this]
      simp[this])]
  · rw[xJ, xK] at I
    obtain⟨d, hd, rfl⟩ := I
    obtain⟨u, e1, e2⟩ := F.2.2.2 _ row j d A hd
    simpa[e1] using(AP.r e2:AP q (.r d) u)
end
end Go.Proofs.YtcgleifameckmaaGreatDoor.Al

namespace Go.Proofs.YtcgleifameckmaaGreatDoor.Al
open Go.ChangeMaps (setBlock)
open Go.MapKept Go.RowKit
section
variable{P:Program}{c:Bool}{o:Oper}{R:Aa}{h:AL}{n:Nat}
theorem jG{x:Cx}{t e}{sz q}(X:Ba P t e sz q){xs ys:List (List RV)}{us}{v u:Value}(l:x.w.ownsRow 0 e sz v xs.length us)
 (B:QD x u sz ys) (Z:xs.length+ys.length<=maxLen) (hb:(xs.length+ys.length) * q<=140737488355328) (U:TypeId) :
    ∃(A:Value) (w':World) (j:List Value), (Builtin.append_ #[t, t] U #[v, u]).run P x.w=.ok A w'/\w'.ownsRow 0 e sz A (xs.length+ys.length) (us++j)/\x.w.grownBy w' v.ownBlock /\
      (A.ownBlock=v.ownBlock\/A.ownBlock=some x.w.heap.size)/\j.length=ys.length * sz/\∀i row k d, ys[i]?=some row->row[k]?=some d->∃u, j[i * sz+k]?=some u/\A4 x.w x.S d u := by
  obtain⟨w, ii, z, M, C, E, hz, O, _, h0⟩ := X
  rcases B with ⟨hy, cc, rfl⟩ | ⟨a, cap, j, rfl, V, m, F, I⟩
  · subst hy
    refine⟨v, x.w, [], ?_, by simpa using l, ⟨rfl, rfl, rfl, wy _, λ_ _ _ => rfl⟩, .inl rfl, by simp, by simp⟩
    rcases l.2 with ⟨rfl, h1⟩ | ⟨g, cap, a0, rfl, _, _, T, _⟩
    · simp[Builtin.append_, run_underlying w, sizeOf, typeInfo, M, Builtin.lenOf, Builtin.firstCells]
    · simp[Builtin.append_, run_underlying w, sizeOf, typeInfo, M, Builtin.lenOf, Builtin.firstCells, T, storeCells]
  · obtain⟨A, w', J, k1, k2, _, k4⟩ := run_append_own_at (P := P) x.w 0 t U e ii z sz q w M hz C E O h0 v xs.length us l a ys.length cap j V m F Z hb (yL _)
    exact⟨A, w', j, J, k1, k2, k4, V, I⟩
theorem lu{w w':World}{e}{sz q len cap m}{us}(h:w.ownsRow 0 e sz (.slice (some ⟨q,0,none⟩) len cap) m us)(C:w'.heap[q]?=w.heap[q]?):w'.ownsRow 0 e sz (.slice (some ⟨q,0,none⟩) len cap) m us:=by
 obtain⟨E,A⟩:=h
 refine⟨E,?_⟩
 rcases A with A | ⟨F,l,B,j,I,f2,J,M,O,T⟩
 .exact .inl A
 .refine .inr ⟨F,l,B,j,I,?_,J,M,O,T⟩
  rw[<- f2]
  simp only[Value.slice.injEq,xF,Addr.mk.injEq] at j
  rw[<- j.1.1]
  exact C
theorem KJ.keep{x y:Cx}(l:x.le y){id j}{e}{sz}{xs}{m cap}{us}(h:KJ x id j e sz xs m cap us)(w:y.K id j=x.K id j)(q:y.w.heap[m]?=x.w.heap[m]?):KJ y id j e sz xs m cap us:=
 ⟨h.1,w.trans h.2.1,lu h.2.2.1 q,λi row c d A B=>by
  obtain⟨u,C,e2⟩:=h.2.2.2 i row c d A B
  exact⟨u,C,e2.mono (λb q=>l.blk b (.inl q)) l.S⟩⟩
theorem CL.mr{y:Cx}{id g B}{κ}(C:∀j, y.K id j=κ j){e}{sz}{hole}{l:List (Int × List (List RV))}{b}{q:List MapEntry}(E:0<sz)(F:B<y.n)(I:y.w.heap[b]?=some (.map q.toArray q.length))(J:fE hole l.length q.length)
 (M:∀(j:Nat) (k:Int) (xs:List (List RV)), l[j]?=some (k, xs)->∃w cap A, KJ y id j e sz xs w cap A/\(hole=some (j, true)\/∃m, q[j]?=some m/\m.key=.int .i64 k/\m.born=j/\(hole=some (j, false)\/m.val=.slice (some ⟨w, 0, none⟩) xs.length cap))) :
    CL y (some (b, 1)) κ (.mr g B e sz hole l) :=
  ⟨E, F, b, q, rfl, I, J, λj k xs O => by
    obtain⟨w, cap, A, ⟨T, e2, U, V⟩, X⟩ := M j k xs O
    exact⟨T, w, cap, A, (C j).symm.trans e2, U, V, X⟩⟩
theorem tU{t e}{sz ak}{s x}{id g ve}{l:List (Int × List (List RV))}{k}{ys:List (List RV)}(ho:o.op=.call { callee := .builtin .append, args := #[s, x], argTypes := #[t, t] })(ht:Ba P t e sz ak)
 (hs:Ev c R s (.fo id g ve k)) (hh:hget h id=some (.mr g ve e sz none l)) (hx:KN c R h x sz ys) (aw:ys.isEmpty=false) (hm:(((AR l k).getD []).length+ys.length) * ak<=140737488355328) (ax:((AR l k).getD []).length+ys.length<=9223372036854775807) :
    Az P c o R h n (.fo id g n k) ((id, some (.mr g n e sz (some (Ax l k, (AR l k).isNone)) (Am l k ((AR l k).getD []++ys))))::h) (n+1) := by
  intro hc z w C hH hn he K Q hK
  have A:z.H id=some (.mr g ve e sz none l) := by rw[hH];exact hh
  have ay := hs.rep he hc
  obtain⟨h0, hv, b, es, h1, h2, h3, h4⟩ := Jy C A
  obtain⟨al, ac⟩ := hx.src h0 hc C hH he
  have az := (C.obj _ _ A).1
  obtain⟨xs, us, b0, ad, b1, a7, a8⟩:∃(xs:List (List RV)) (us:List Value), (AR l k).getD []=xs/\(∀row ∈ xs, row.length=sz)/\(∀i row c d, xs[i]?=some row->row[c]?=some d->∃u, us[i * sz+c]?=some u/\A4 z.w z.S d u) /\
      z.w.ownsRow 0 e sz (w.eval s) xs.length us/\∀bb, (w.eval s).ownBlock=some bb->∃cap, z.K id (Ax l k)=some (bb, cap) := by
    rcases N9 C A ay with ⟨k1, k2, Z⟩ | ⟨j, xs, bb, cap, us, k1, k2, Z, k4, k5⟩
    · refine⟨[], [], by rw[Z];rfl, by simp, by simp, by rw[k2];exact World.ownsRow_nil _ _ _ _, λbb hb => by rw[k2] at hb;cases hb⟩
    · refine⟨xs, us, by rw[k2];rfl, k4.1, k4.2.2.2, by rw[k5];exact k4.2.2.1, λM hb => ?_⟩
      rw[k5] at hb
      simp only[Value.ownBlock, xF] at hb
      subst hb
      exact⟨cap, by unfold Ax;rw[k1];exact k4.2.1⟩
  rw[b0] at hm ax hK
  obtain⟨v', w', an, ao, T, U, ae, be, af⟩ := jG (P := P) ht a7 al (by unfold maxLen;omega) hm o.type
  have bf:0<ys.length := by cases ys with | nil => cases aw | cons _ _ => simp
  obtain⟨E, X, ag⟩:∃E X, v'=.slice (some ⟨E, 0, none⟩) (xs.length+ys.length) X := by
    rcases T.2 with ⟨_, hr⟩ | ⟨gg, cap, bg, ag, _⟩
    · omega
    · exact⟨gg, cap, ag⟩
  subst ag
  have aq:E<w'.heap.size := (T.lt E rfl).2
  have O:z.w.heap.size<=E\/∃cap, z.K id (Ax l k)=some (E, cap) := by
    rcases ae with B | B
    · have b3:(w.eval s).ownBlock=some E := B.symm
      exact .inr (a8 E b3)
    · simp only[Value.ownBlock, xF] at B
      exact .inl (by omega)
  have V:∀M, M<z.w.heap.size->(∀cap, z.K id (Ax l k)≠some (M, cap))->w'.heap[M]?=z.w.heap[M]? := λM F b4 => U.block M F λB => by
    obtain⟨cap, e2⟩ := a8 M B.symm
    exact b4 cap e2
  have aa:∀cap, z.K id (Ax l k)≠some (b, cap) := λcap B => (C.ext id _ _ b cap A B).2.2.2.1 id _ 1 A h1
  have ab := (C.own id _ b 1 A h1).1
  have ah := HB C id (.mr g z.n e sz (some (Ax l k, (AR l k).isNone)) (Am l k (xs++ys))) w' (some (b, 1)) (λj => if j=Ax l k then some (E, X) else z.K id j) (z.n+1) U.size U.os U.tape U.output
    (λM F b5 => V M F λcap B => b5 _ A (.inr ⟨_, cap, B⟩))
    (λM k2 F => by cases F;exact⟨xD ab U.size, .inr ⟨_, A, .inl ⟨1, h1⟩⟩⟩)
    (λj M k2 F => by
      split at F
      · rename_i J
        cases F
        refine⟨⟨aq, O.imp _root_.id λ⟨cap, B⟩ => ⟨_, A, .inr ⟨_, cap, B⟩⟩⟩, λZ I => ?_, λj3 Z I => ?_⟩
        · cases I
          rcases O with B | ⟨cap, B⟩
          · omega
          · exact aa cap B
        · split at I
          · rename_i a6;rw[a6, J]
          · rename_i a6
            have b6 := C.ext id _ j3 _ Z A I
            rcases O with B | ⟨cap, B⟩
            · omega
            · exact absurd (b6.2.2.2.2 id _ _ cap A B).2.symm a6
      · rename_i J
        have a0 := C.ext id _ j M k2 A F
        refine⟨⟨xD a0.1 U.size, .inr ⟨_, A, .inr ⟨j, k2, F⟩⟩⟩, λZ I => by cases I;exact a0.2.2.2.1 id _ 1 A h1, λj3 Z I => ?_⟩
        split at I
        · rename_i a6
          cases I
          rcases O with B | ⟨cap, B⟩
          · have := a0.1;omega
          · exact absurd (a0.2.2.2.2 id _ _ cap A B).2.symm J
        · exact(a0.2.2.2.2 id _ j3 Z A I).2)
    (zH _) (WAZ az) (λ_ => ⟨_, A, rfl, rfl, h1.symm⟩) (λ_ _ hv => absurd hv (by simp[AU.ver]))
    (λa1 => by
      refine CL.mr (id := id) (λj => by simp) h0 (ye _) ((V b ab aa).trans h2) ?_ λj q rs J => ?_
      · cases hg:AR l k with
        | none =>
          have ar:Ao l k=none := by cases hq:Ao l k with | none => rfl | some j => obtain⟨_, _, e2, _⟩ := DT hq;rw[hg] at e2;cases e2
          rw[(E2 ar).2]
          refine⟨by rw[xy, y9, show l.length=es.length from h3], ?_⟩
          unfold Ax;rw[ar];exact h3
        | some r =>
          rw[Yf hg];exact h3
      ·
        have ai:(j=Ax l k/\q=k/\rs=xs++ys)\/(j≠Ax l k/\l[j]?=some (q, rs)) := by
          cases hq:Ao l k with
          | none =>
            rw[(E2 hq).2] at J
            have hD:Ax l k=l.length := by unfold Ax;rw[hq];rfl
            by_cases b7:j<l.length
            · rw[xT b7] at J
              exact .inr ⟨by omega, J⟩
            · have b8:j=l.length := by have := (wx.1 J).1;simp at this;omega
              rw[b8, xP (wy _)] at J
              simp at J
              exact .inl ⟨by omega, J.1.symm, J.2.symm⟩
          | some j0 =>
            obtain⟨v0, f1, f2, f3⟩ := DT hq
            have hD:Ax l k=j0 := by unfold Ax;rw[hq];rfl
            rw[f3] at J
            by_cases au:j0=j
            · rw[<- au, yw (dY hq)] at J
              cases J
              exact .inl ⟨by omega, rfl, rfl⟩
            · rw[yr au] at J
              exact .inr ⟨by omega, J⟩
        rcases ai with ⟨rfl, rfl, rfl⟩ | ⟨av, b9⟩
        · refine⟨E, X, us++an, ⟨λrow hr => (yY.1 hr).elim (ad row) (ac row), by simp, by rw[xy];exact T, λi row c d q1 q2 => ?_⟩, ?_⟩
          · have ba:us.length=xs.length * sz := a7.1
            by_cases bc:i<xs.length
            · rw[xT bc] at q1
              obtain⟨u, q3, q4⟩ := b1 i row c d q1 q2
              exact⟨u, by rw[xT ((wx.1 q3).1)];exact q3, q4.mono (λb hb => a1.blk b (.inl hb)) a1.S⟩
            · rw[xP (by omega)] at q1
              obtain⟨u, q3, q4⟩ := af _ row c d q1 q2
              refine⟨u, ?_, q4.mono (λb hb => a1.blk b (.inl hb)) a1.S⟩
              have B:i * sz+c=us.length+((i - xs.length) * sz+c) := by
                rw[ba, Nat.sub_mul]
                have:xs.length * sz<=i * sz := xi _ (by omega)
                omega
              rw[B, xP (by omega), zw]
              exact q3
          · cases hg:AR l q with
            | none => exact .inl rfl
            | some r =>
              right
              obtain⟨g1, g2⟩ := Lw hg
              obtain⟨_, _, _, _, k5⟩ := h4 _ q r g2
              rcases k5 with k5 | ⟨m, k6, k7, k8, _⟩
              · cases k5
              · exact⟨m, k6, k7, k8, .inl rfl⟩
        · obtain⟨M, a2, bd, Z, k5⟩ := h4 j q rs b9
          refine⟨M, a2, bd, Z.keep a1 (by simp[av]) (V M (C.ext id _ j M a2 A Z.2.1).1 λcap B => av ((C.ext id _ _ M cap A B).2.2.2.2 id _ j a2 A Z.2.1).2), ?_⟩
          rcases k5 with k5 | ⟨m, k6, k7, k8, k9 | k9⟩
          · cases k5
          · cases k9
          · exact .inr ⟨m, k6, k7, k8, .inr k9⟩)
  unfold Oper.wp execOp
  simp only[ho, resolve, invoke, builtin, Sem.run_bind, Sem.run_pure, Result.andThen_ok, WAE, xj, yd, ao]
  refine hK _ _ ah.1 ah.2 (by simp only[hH, hn];exact Ck _ _ _) (by simp[hn]) ?_
  rw[<- hn]
  refine Ul ah.2 (ww rfl) rfl (λhq => by rw[Q6] at hq;cases hq) λj rs M c2 J hl aj => ?_
  rw[Q6] at J
  cases J
  have := (Lw (Gy l k (xs++ys)))
  rw[Q6] at this
  rw[<- (xh this.1)] at this
  rw[this.2] at hl
  cases hl
  simp at aj
  rw[<- aj.1, <- aj.2, xy]
theorem oU{t kt et}{x i y}{id g ve}{e:TypeId}{sz}{l:List (Int × List (List RV))}{k}{j}{nw}(ho:o.op=.mapUpdate t x i y\/o.op=.insert t x i y)(ht:P.underlying t=some (.map kt et))(hk:P.underlying kt=some (.int .i64))
 (hx:Ev c R x (.mref id g)) (hi:Ev c R i (.r (.int .i64 k))) (hy:Ev c R y (.fo id g ve k)) (hh:hget h id=some (.mr g ve e sz (some (j, nw)) l)) (hj:Ao l k=some j) :
    Az P c o R h n .any ((id, some (.mr g ve e sz none l))::h) n := by
  intro hc z w C hH hn he K Q hK
  have A:z.H id=some (.mr g ve e sz (some (j, nw)) l) := by rw[hH];exact hh
  obtain⟨h0, hv, b, M, h1, h2, h3, h4⟩ := Jy C A
  have a8 := dP A (hx.rep he hc) h1
  have a0 := (C.own id _ b 1 A h1).1
  rcases N9 C A (hy.rep he hc) with ⟨k1, _⟩ | ⟨j', xs, bb, cap, us, k1, k2, k3, k4, k5⟩
  · rw[hj] at k1;cases k1
  rw[hj] at k1;cases k1
  have X := hi.rep he hc
  generalize aa:w.eval i=iv at X
  cases X with
  | r X =>
    cases X with
    | int =>
      obtain⟨I, B, a2, a6⟩:∃I:List MapEntry, (Instr.mapUpdate t (.map (some b)) (.int .i64 k) (w.eval y)).run P z.w=.ok () { z.w with heap := z.w.heap.setIfInBounds b (.map I.toArray I.length) } /\ l.length=I.length /\
          ∀(q:Nat) (E:Int) (rs:List (List RV)), l[q]?=some (E, rs)->∃m, I[q]?=some m/\m.key=.int .i64 E/\m.born=q/\(q=j/\m.val=w.eval y\/q≠j/\M[q]?=some m) := by
        cases nw with
        | true =>
          have T:l.length=M.length+1/\j=M.length := h3
          have Z:GB (l.take j) M := ⟨by rw[yZ];omega, λq E d F => by
            have ab:q<j := by have := (wx.1 F).1;rw[yZ] at this;omega
            rw[xn, ww ab] at F
            obtain⟨_, _, _, _, e | ⟨m, O, e2, V, _⟩⟩ := h4 q E d F
            · simp only[xF, xM] at e;omega
            · exact⟨m, O, e2, V⟩⟩
          have B := RO Z ht hk (b := b) (w := z.w) (by rw[h2, yZ, show min j l.length=M.length by omega]) k (w.eval y)
          rw[sd hj] at B
          refine⟨_, B, by simp[Eu];omega, λq E rs F => ?_⟩
          by_cases J:q=j
          · subst J
            rw[k3] at F;cases F
            exact⟨{ key := .int .i64 k, val := w.eval y, born := M.length }, by show(M++_)[q]?=_;rw[T.2, xP (wy _)];simp, rfl, T.2.symm, .inl ⟨rfl, rfl⟩⟩
          · have ag := (wx.1 F).1
            obtain⟨_, _, _, _, e | ⟨m, O, e2, V, _⟩⟩ := h4 q E rs F
            · simp only[xF, xM] at e;omega
            · exact⟨m, by show(M++_)[q]?=_;rw[xT (by omega)];exact O, e2, V, .inr ⟨J, O⟩⟩
        | false =>
          have T:l.length=M.length := h3
          have Z:GB l M := ⟨T.symm, λq E d F => by
            obtain⟨_, _, _, _, e | ⟨m, O, e2, V, _⟩⟩ := h4 q E d F
            · simp at e
            · exact⟨m, O, e2, V⟩⟩
          have B := RO Z ht hk (b := b) (w := z.w) (by rw[h2, T]) k (w.eval y)
          rw[hj] at B
          refine⟨_, B, by simp[Eu];omega, λq E rs F => ?_⟩
          obtain⟨m, O, e2, V⟩ := Z.2 q E rs F
          by_cases J:q=j
          · subst J
            rw[k3] at F;cases F
            exact⟨{ m with key := .int .i64 k, val := w.eval y }, by show(M.modify q _)[q]?=_;rw[List.getElem?_modify_eq, O];rfl, rfl, V, .inl ⟨rfl, rfl⟩⟩
          · exact⟨m, by show(M.modify j _)[q]?=_;rw[List.getElem?_modify_ne (h := λe => J e.symm)];exact O, e2, V, .inr ⟨J, O⟩⟩
      have a7 := HB C id (.mr g ve e sz none l) { z.w with heap := z.w.heap.setIfInBounds b (.map I.toArray I.length) } (some (b, 1)) (z.K id) z.n (by simp) rfl rfl rfl
        (λb' _ ac => by
          have:b≠b' := λe => ac _ A (.inl ⟨1, by rw[<- e];exact h1⟩)
          simp[this])
        (λb' E ad => by cases ad;exact⟨by simpa using a0, .inr ⟨_, A, .inl ⟨1, h1⟩⟩⟩)
        (λj' b' E hb => ⟨⟨by simpa using(C.ext id _ j' b' E A hb).1, .inr ⟨_, A, .inr ⟨j', E, hb⟩⟩⟩, λk2 U => by cases U;exact(C.ext id _ j' b E A hb).2.2.2.1 id _ 1 A h1, λj2 k2 U => ((C.ext id _ j' b' E A hb).2.2.2.2 id _ j2 k2 A U).2⟩)
        (wy _) (C.obj _ _ A).1 (λ_ => ⟨_, A, rfl, rfl, h1.symm⟩)
        (λ_ _ _ => ⟨_, A, rfl, rfl, rfl, rfl, rfl⟩)
        (λae => CL.mr (id := id) (λj => by simp) h0 hv (by simp[a0]) (show l.length=I.length from a2) λq E rs F => by
          obtain⟨b2, a1, af, q3, q5⟩ := h4 q E rs F
          obtain⟨m, O, e2, V, e4⟩ := a6 q E rs F
          have U:b2≠b := λe => (C.ext id _ q b2 a1 A q3.2.1).2.2.2.1 id _ 1 A (by rw[e];exact h1)
          refine⟨b2, a1, af, q3.keep ae (by simp) (by simp[zu U]), .inr ⟨m, O, e2, V, .inr ?_⟩⟩
          rcases e4 with ⟨rfl, e4⟩ | ⟨J, e4⟩
          · rw[e4, k5]
            rw[k3] at F;cases F
            have e5 := q3.2.1
            rw[k4.2.1] at e5
            cases e5;rfl
          · rcases q5 with q5 | ⟨m', e5, _, _, q6 | q6⟩
            · simp only[xF, xM] at q5;omega
            · simp only[xF, xM] at q6;omega
            · rw[e4] at e5;cases e5;exact q6)
      unfold Oper.wp execOp
      rcases ho with ho | ho<;>
      · rw[ho]
        simp only[a8, aa, Sem.run_bind, B, Result.andThen_ok, Sem.run_pure]
        exact hK undef _ a7.1 a7.2 (by simp only[hH];exact Ck _ _ _) hn (.any _)
end
end Go.Proofs.YtcgleifameckmaaGreatDoor.Al

namespace Go.Proofs.YtcgleifameckmaaGreatDoor.Al
open Go.ChangeMaps (setBlock)
open Go.MapKept Go.RowKit
def NU{σ:Type}(key:σ->List Int)(ks:List Int)(F:σ->Int->Option σ)(l:σ)(k:Int):Option σ:=(F l k).bind λj=>if key j=ks then some j else none
def FH{σ:Type}(G:σ->Int->Option σ):List Int->σ->Option σ
 | [],j=>some j
 | k::ks,j=>(G j k).bind (FH G ks)
theorem Zb{σ:Type}(G:σ->Int->Option σ) l m(j:σ):FH G (l++m) j=(FH G l j).bind (FH G m):=by
 induction l generalizing j with
 | nil=>simp[FH]
 | cons a l q=>
  simp only[yV,FH]
  cases G j a with
  | none=>rfl
  | some s=>simpa using q s
def Tq{σ ρ:Type}(key:σ->List Int)(F:σ->Int->Option σ)(st0:σ)(rest:σ->Option ρ)(r:ρ):Prop:=
 (key st0).Nodup/\∀l:List Int,l.Perm (key st0)->(FH (NU key (key st0) F) l st0).bind rest=some r
open Classical in
noncomputable def NH{σ ρ:Type}(key:σ->List Int)(F:σ->Int->Option σ)(st0:σ)(rest:σ->Option ρ):Option ρ:=if h:∃r,Tq key F st0 rest r then some h.choose else none
theorem se{σ ρ:Type}{key:σ->List Int}{F:σ->Int->Option σ}{st0:σ}{rest:σ->Option ρ}{r:ρ}(h:NH key F st0 rest=some r):Tq key F st0 rest r:=by
 unfold NH at h
 split at h
 .rename_i j
  cases h
  exact j.choose_spec
 .cases h
theorem l4{σ ρ:Type}{key:σ->List Int}{F:σ->Int->Option σ}{st0:σ}{rest:σ->Option ρ}{r:ρ}(h:Tq key F st0 rest r):NH key F st0 rest=some r:=by
 have j:∃r,Tq key F st0 rest r:=⟨r,h⟩
 unfold NH
 rw[zU j]
 have m:=j.choose_spec.2 (key st0) (List.Perm.refl _)
 have l:=h.2 (key st0) (List.Perm.refl _)
 rw[m] at l
 exact l
def AU.mkeys:AU->Option (List Int)
 | .md _ l=>some (l.map (·.1))
 | .mb _ _ _ l=>some (l.map (·.1))
 | .mr _ _ _ _ none l=>some (l.map (·.1))
 | _=>none
theorem vi{α β:Type}(rd:α->β)(m:List (Int × α)):(Ap rd m).map (·.1)=m.map (·.1):=by simp[Ap]
theorem U7{α:Type} g v e(row:α->List RV)(m:List (Int × α)):(AU.mb g v e (Ap row m)).mkeys=some (m.map (·.1)):=by simp[AU.mkeys,vi]
theorem WW{x:Cx}(B:x.ok){id}{ob:AU}{ks:List Int}{v}(U:x.H id=some ob)(E:ob.mkeys=some ks)(V:AP x (.mref id ob.gen) v) :
  ∃(b:Nat) (q:List MapEntry),x.β id=some (b,1)/\v=.map (some b)/\x.w.heap[b]?=some (.map q.toArray ks.length)/\q.length=ks.length/\∀(j:Nat) (k:Int),ks[j]?=some k->∃m,q[j]?=some m/\m.key=.int .i64 k/\m.born=j:=by
 have C:∀b,x.β id=some (b,1)->v=.map (some b):=by
  intro b w
  cases V with
  | mref _ _ V=>
   obtain⟨b',cap,X,Z⟩:=V _ U rfl
   rw[w] at X
   simp only[xF,xM] at X
   obtain⟨rfl,rfl⟩:=X
   exact Z
 cases ob with
 | md g l=>
  cases E
  obtain⟨_,b,q,w,F,I,J⟩:=B.obj _ _ U
  refine⟨b,q,w,C b w,by simpa using F,by simpa using I,λj k A=>?_⟩
  rw[xJ,xK] at A
  obtain⟨p,hp,rfl⟩:=A
  obtain⟨m,M,e2,O,_⟩:=J j p.1 p.2 hp
  exact⟨m,M,e2,O⟩
 | mb g ve e l=>
  cases E
  obtain⟨_,_,b,q,w,F,I,J⟩:=B.obj _ _ U
  refine⟨b,q,w,C b w,by simpa using F,by simpa using I,λj k A=>?_⟩
  rw[xJ,xK] at A
  obtain⟨p,hp,rfl⟩:=A
  obtain⟨m,_,_,M,e2,O,_⟩:=J j p.1 p.2 hp
  exact⟨m,M,e2,O⟩
 | mr g ve e sz hole l=>
  cases hole with
  | some _=>cases E
  | none=>
   cases E
   obtain⟨h0,a0,b,q,w,F,I,J⟩:=Jy B U
   have T:l.length=q.length:=I
   refine⟨b,q,w,C b w,by rw[F,xk,T],by simp[T],λj k A=>?_⟩
   rw[xJ,xK] at A
   obtain⟨p,hp,rfl⟩:=A
   obtain⟨_,_,_,_,e | ⟨m,M,e2,O,_⟩⟩:=J j p.1 p.2 hp
   .cases e
   .exact⟨m,M,e2,O⟩
 | _=>cases E
theorem eI{x:Cx}(j:x.ok){id g mid mg len}{seen:List Nat}{v}(w:x.H id=some (.mj g mid mg len seen))(l:AP x (.ptr id g 0 0) v) :
  ∃b m:Nat,x.β id=some (b,1)/\v=.pointer (some ⟨b,0,none⟩)/\x.w.heap[b]?=some (.mapIter (some m) len seen.toArray len)/\AP x (.mref mid mg) (.map (some m)):=by
 obtain⟨_,b,m,A,B,C⟩:=j.obj _ _ w
 cases l with
 | ptr _ _ l=>
  obtain⟨F,cap,q,E⟩:=l _ w rfl
  rw[A] at q
  simp only[xF,xM] at q
  obtain⟨rfl,rfl⟩:=q
  exact⟨b,m,A,by rw[E,zM],B,C⟩
section
variable{P:Program}{c:Bool}{o:Oper}{R:Aa}{h:AL}{n:Nat}
theorem lj{t I J}{x}{id}{ob:AU}{ks:List Int}(id':Nat)(M:o.op=.range t x)(O:P.underlying t=some (.map I J))(T:Ev c R x (.mref id ob.gen))(U:hget h id=some ob)(V:ob.mkeys=some ks)(BR:(id'==id)=false) :
  Az P c o R h n (.ptr id' n 0 0) ((id',some (.mj n id ob.gen ks.length []))::h) (n+1):=by
 intro X z w l E A Z K Q hK
 have j:=T.rep Z X
 obtain⟨b,es,h1,F,h3,h4,h5⟩:=WW l (by rw[E];exact U) V j
 have m:=ES l id' (.mj z.n id ob.gen ks.length []) (z.w.alloc (.mapIter (some b) ks.length #[] ks.length)) (some (z.w.heap.size,1)) (z.n+1) (by simp) rfl rfl rfl
  (λb B _=>heap_alloc_old _ _ B) (λb k B=>by cases B;simp) (by omega) (by simp[AU.gen]) (λhg=>absurd hg (by simp[AU.gen]))
  (λC=>⟨z.w.heap.size,b,rfl,heap_alloc_new _ _,by rw[F] at j;exact j.mono C⟩)
 unfold Oper.wp execOp
 rw[M]
 simp only[F,Sem.run_bind,run_range_map _ _ _ _ _ _ _ O h3,Result.andThen_ok,Sem.run_pure]
 refine hK (.pointer (some ⟨z.w.heap.size,0,none⟩)) _ m.1 m.2 (by simp only[E,A];exact Ck _ _ _) (by simp[A]) (.ptr (by simp[A]) rfl λo' q _=>?_)
 simp only[ww] at q
 cases q
 exact⟨z.w.heap.size,1,by simp,by simp⟩
end
end Go.Proofs.YtcgleifameckmaaGreatDoor.Al

namespace Go.Proofs.YtcgleifameckmaaGreatDoor.Al
open Go.ChangeMaps (setBlock)
open Go.MapKept Go.RowKit
theorem hO{e' e}{h' h}{n' n N}(J:∀t,get e' t=.any\/get e' t=get e t)(M:∀id,hget h' id=none\/hget h' id=hget h id)(O:n<=n'):AZ ⟨e,h,n,N⟩ ⟨e',h',n',N⟩:=by
 intro V a w ⟨_,l,hsz,y,A,B,C,T,E,m⟩
 have q:∀id o,hget h' id=some o->y.H id=some o:=by
  intro id o F
  rw[T]
  rcases M id with j | j
  .rw[j] at F;cases F
  .rw[<- j];exact F
 obtain⟨I,U⟩:=Qt C (hget h') q n' (by rw[E];exact O)
 refine⟨_,l,hsz,{ y with H:=hget h',n:=n' },A,B.trans I,U,rfl,rfl,λt=>?_⟩
 rcases J t with j | j
 .rw[j];exact .any _
 .rw[j];exact(m t).mono I
section
variable{P:Program}{ops:Array Oper}{rest:List Oper}{s:St}{K:St->Prop}{o:Oper}
theorem wA{d}{x}{id g mid len}{ob:AU}{ks:List Int}{seen:List Nat}(hg:o.guard=none)(hd:o.dst=some d)(hN:d<s.N)(ho:o.op=.next x false)(hx:Ev true s.e x (.ptr id g 0 0))
 (hh:hget s.h id=some (.mj g mid ob.gen len seen)) (hm:hget s.h mid=some ob) (hk:ob.mkeys=some ks) (hl:len=ks.length)
 (hf:(∀j, j<len->j ∈ seen)->AN P ops rest { e := (d, .tup [.r (.bool false)])::s.e, h := s.h, n := s.n, N := s.N } K)
 (ht:∀j, j<len->j ∉ seen->AN P ops rest { e := (d, .tup [.r (.bool true), .any, .any])::s.e, h := (id, some (.mj g mid ob.gen len (seen++[j])))::s.h, n := s.n, N := s.N } K):AN P ops (o::rest) s K := by
  subst hl
  intro c0 a w ⟨_, M, hsz, z, a8, F, A, hH, hn, he⟩ Q hQ
  subst a8
  refine wpList_plain hg λK' a0 => ?_
  have l:z.H id=some (.mj g mid ob.gen ks.length seen) := by rw[hH];exact hh
  obtain⟨b, m, h1, h2, h3, h4⟩ := eI A l (hx.rep he rfl)
  obtain⟨bm, O, k1, k2, k3, k4, k5⟩ := WW A (by rw[hH];exact hm) hk h4
  cases k2
  have hb := (A.own id _ b 1 l h1).1
  have B:∀e ∈ O, ∃j, j<ks.length/\O[j]?=some e/\e.born=j := by
    intro e he'
    obtain⟨j, hj⟩ := yM.1 he'
    have a1:j<ks.length := by have := (wx.1 hj).1;omega
    obtain⟨m', e1, e2, e3⟩ := k5 j ks[j] (wz a1)
    rw[hj] at e1;cases e1
    exact⟨j, a1, hj, e3⟩
  have a2:∀e ∈ O.toArray.toList, e.born<ks.length := λe he' => by
    obtain⟨j, h1, _, h3⟩ := B e (by simpa using he')
    omega
  have a6:d<a.tmps.size := by rw[hsz];exact hN
  unfold Oper.wp execOp
  rw[ho]
  rcases run_next_at (P := P) z.w o.type b m ks.length ks.length seen.toArray O.toArray ks.length h3 k3 a2 (wy _) with ⟨aa, C⟩ | ⟨e, he', X, I, C⟩
  · simp only[h2, Sem.run_bind, C, Result.andThen_ok, Sem.run_pure]
    refine a0 _ _ ?_
    rw[hd]
    refine hf (λj hj => ?_) c0 (a.put (some d) (.tuple #[.bool false])) z.w ⟨_, M, by simpa[Act.put] using hsz, z, rfl, F, A, hH, hn, he.put a6 (.tup rfl λi a u E hu => ?_)⟩ Q hQ
    · obtain⟨m', e1, _, e3⟩ := k5 j ks[j] (wz hj)
      have q:m' ∈ O.toArray := by simpa using xa e1
      have T:¬ m' ∈ leftOf O.toArray seen.toArray := λhx => by
        have := Array.size_pos_of_mem hx
        omega
      unfold leftOf at T
      rw[Array.mem_filter] at T
      have:seen.contains m'.born=true := by
        have Z := λh => T ⟨q, h⟩
        simpa using Z
      rw[e3] at this
      simpa using this
    · rcases i with _ | i
      · simp at E hu;subst E;subst hu;exact .r (.bool false)
      · simp at E
  · have q:e ∈ O/\seen.contains e.born=false := by
      have Z:e ∈ leftOf O.toArray seen.toArray := by simpa using he'
      unfold leftOf at Z
      rw[Array.mem_filter] at Z
      exact⟨by simpa using Z.1, by simpa using Z.2⟩
    obtain⟨j, ab, ai, a7⟩ := B e q.1
    have ac:j ∉ seen := by
      have := q.2
      rw[a7] at this
      simpa using this
    have J:X.heap=z.w.heap := by rcases I with rfl | rfl<;>rfl
    have ad:X.os=z.w.os := by rcases I with rfl | rfl<;>rfl
    have ae:X.tape=z.w.tape := by rcases I with rfl | rfl<;>rfl
    have af:X.output=z.w.output := by rcases I with rfl | rfl<;>rfl
    have U := ES A id (.mj g mid ob.gen ks.length (seen++[j])) (setBlock X b (.mapIter (some m) ks.length (seen++[j]).toArray ks.length)) (some (b, 1)) z.n (by simp[setBlock, J]) ad ae af
      (λb' _ ag => by
        have:b≠b' := λe => ag _ 1 l (by rw[<- e];exact h1)
        simp[setBlock, J, this])
      (λb' k' ah => by cases ah;exact⟨by simpa[setBlock, J] using hb, .inr ⟨_, _, l, h1⟩⟩) (wy _) (A.obj _ _ l).1 (λ_ => ⟨_, l, rfl, rfl, h1.symm⟩)
      (λF => ⟨b, m, rfl, by simp[setBlock, J, hb], h4.mono F⟩)
    have V:(Instr.next (.pointer (some ⟨b, 0, none⟩)) false o.type).run P z.w=.ok (.tuple #[.bool true, e.key, e.val]) (setBlock X b (.mapIter (some m) ks.length (seen++[j]).toArray ks.length)) := by
      rw[C, a7];simp
    simp only[h2, Sem.run_bind, V, Result.andThen_ok, Sem.run_pure]
    refine a0 _ _ ?_
    rw[hd]
    refine ht j ab ac c0 (a.put (some d) _) _ ⟨_, M, by simpa[Act.put] using hsz, _, rfl, F.trans U.1, U.2, by simp only[hH];exact Ck _ _ _, hn, (he.mono U.1).put a6 (.tup rfl λi a u E hu => ?_)⟩ Q hQ
    rcases i with _ | _ | _ | i
    · simp at E hu;subst E;subst hu;exact .r (.bool true)
    · simp at E;subst E;exact .any _
    · simp at E;subst E;exact .any _
    · simp at E
end
section
variable{P:Program}{c:Bool}{o:Oper}{R:Aa}{h:AL}{n:Nat}
theorem ki{y:Cx}{a:Act}(A:y.ok)(O:y.H=hget h){x}{id g mid len j}{ob:AU}{ks:List Int}{ys:List Nat}{k}(ho:o.op=.entry x)(hv:AP y (.ptr id g 0 0) (a.eval x))(hh:hget h id=some (.mj g mid ob.gen len (ys++[j])))(hm:hget h mid=some ob)
 (hk:ob.mkeys=some ks) (hl:len=ks.length) (hj:ks[j]?=some k):∃F m, y.β mid=some (F, 1)/\m.key=.int .i64 k/\m.born=j/\(∀w, DZ y w->(execOp a.eval o).run P w=.ok (.value (.tuple #[.int .i64 k, m.val])) w) /\
      ∃l:List MapEntry, l[j]?=some m/\y.w.heap[F]?=some (.map l.toArray ks.length) := by
  subst hl
  have q:y.H id=some (.mj g mid ob.gen ks.length (ys++[j])) := by rw[O];exact hh
  have B:y.H mid=some ob := by rw[O];exact hm
  obtain⟨b, m, h1, h2, h3, h4⟩ := eI A q hv
  obtain⟨F, l, T, k2, U, k4, V⟩ := WW A B hk h4
  cases k2
  obtain⟨e, X, e2, Z⟩ := V j k hj
  refine⟨m, e, T, e2, Z, λw C => ?_, l, X, U⟩
  have I:w.heap[b]?=some (.mapIter (some m) ks.length (ys.toArray.push e.born) ks.length) := by
    rw[C b (.inr ⟨id, _, 1, q, .inl h1⟩), h3, Z];simp
  have J:w.heap[m]?=some (.map l.toArray ks.length) := by rw[C m (.inr ⟨mid, _, 1, B, .inl T⟩)];exact U
  have M:(l.toArray.toList.map (·.born)).Nodup := by
    have:l.map (·.born)=List.range l.length := by
      refine yg λi => ?_
      rw[xJ]
      by_cases hi:i<l.length
      · obtain⟨m', f1, _, f3⟩ := V i (ks[i]'(by omega)) (wz (by omega))
        rw[f1, zn hi]
        simp[f3]
      · rw[yN (by omega), yN (by simpa using hi)];rfl
    rw[this];exact WAJ
  have E := run_entry_at (P := P) w b m ks.length ys.toArray l.toArray ks.length e I J (by simpa using xa X) M
  simp only[execOp, ho, h2, Sem.run_bind, E, Result.andThen_ok, Sem.run_pure, e2]
theorem rX{α:Type}{row}{x}{id g mid mg J len j}{e}{m:List (Int × α)}{ys}{k}{a}(ho:o.op=.entry x)(hx:Ev c R x (.ptr id g 0 0))(hh:hget h id=some (.mj g mid mg len (ys++[j])))(Z:hget h mid=some (.mb mg J e (Ap row m)))
 (hl:m.length=len) (M:m[j]?=some (k, a)) (T:(m.map (·.1)).Nodup):AS P c o R h (.tup [.r (.int .i64 k), .pk mid mg J (Ax m k) 0]) := by
  intro hc y w A hH he
  have B:y.H mid=some (.mb mg J e (Ap row m)) := by rw[hH];exact Z
  obtain⟨bm, en, k1, k2, k3, C, es, k4, k5⟩ := ki A hH (P := P) ho (hx.rep he hc) hh Z (U7 mg J e row m) (by simp[hl]) (k := k) (by rw[xJ, M];rfl)
  refine⟨_, C, .tup rfl λi a' u' E O => ?_⟩
  rcases i with _ | _ | i
  · simp at E O;subst E;subst O;exact .r (.int _ _)
  · simp at E O;subst E;subst O
    obtain⟨_, h0, b, U, F, I, h3, h4⟩ := A.obj _ _ B
    rw[k1] at F;cases F
    rw[k5] at I
    simp only[xF, Obj.map.injEq] at I
    have V:es=U := by simpa using xc Array.toList I.1
    obtain⟨m', bb, a0, f1, _, _, f4, f5, _⟩ := h4 j k (row a) (by rw[W7, M];rfl)
    rw[<- V, k4] at f1;cases f1
    have hD:Ax m k=j := by
      have hg:∃v, AR m k=some v := by
        cases X:Ao m k with
        | none =>
          exfalso
          have:∀(l:List (Int × α)) (j:Nat), l[j]?=some (k, a)->Ao l k≠none := by
            intro l
            induction l with
            | nil => intro j h;simp at h
            | cons p r ih =>
              intro j h
              unfold Ao
              split
              · simp
              · rename_i hk
                cases j with
                | zero => simp at h;exact absurd (by rw[h]) hk
                | succ j => simpa using ih j (by simpa using h)
          exact this m j M X
        | some j' => obtain⟨v, _, e2, _⟩ := DT X;exact⟨v, e2⟩
      obtain⟨v, hg⟩ := hg
      obtain⟨_, e2⟩ := Lw hg
      have F:(m.map (·.1))[Ax m k]?=some k := by rw[xJ, e2];rfl
      have I:(m.map (·.1))[j]?=some k := by rw[xJ, M];rfl
      exact(List.getElem?_inj (wx.1 F).1 T).1 (F.trans I.symm)
    rw[hD]
    exact XO A B h0 (by rw[f5];rfl) λq cs b c X hK => by rw[f4] at hK;cases hK;exact f5
  · simp at E
end
theorem uy{α:Type}{m:List (Int × α)}{j:Nat}{k:Int}(l:(m.map (·.1))[j]?=some k):∃a,m[j]?=some (k,a):=by
 rw[xJ,xK] at l
 obtain⟨p,q,rfl⟩:=l
 exact⟨p.2,q⟩
section
variable{P:Program}{c:Bool}{o:Oper}{R:Aa}{h:AL}{n:Nat}
theorem uo{α:Type}{row:α->List RV}{x:Operand}{id g mid mg q len j:Nat}{e:TypeId}{m:List (Int × α)}{ys:List Nat}{k:Int}(w:o.op=.entry x)(A:Ev c R x (.ptr id g 0 0))(B:hget h id=some (.mj g mid mg len (ys++[j])))(C:hget h mid=some (.mb mg q e (Ap row m)))
  (E:(m.map (·.1)).length=len) (F:(m.map (·.1))[j]?=some k) (l:(m.map (·.1)).Nodup):AS P c o R h (.tup [.r (.int .i64 k),.pk mid mg q (Ax m k) 0]):=by
 obtain⟨b,I⟩:=uy F
 exact rX w A B C (by simpa using E) I l
end
section
variable{P:Program}{s:St}
theorem UM{L}{ys:List Nat}(m:ys.Nodup)(q:∀j∈ys,j<L){j}(E:j<L)(w:j ∉ ys):(ys++[j]).Nodup/\(ys++[j]++(List.range L).filter λi=>!(ys++[j]).contains i).Perm (List.range L):=by
 have B:(ys++[j]).Nodup:=by
  rw[List.nodup_append]
  exact⟨m,by simp,λa A b l e=>by simp at l;subst l;subst e;exact w A⟩
 refine⟨B,(List.perm_ext_iff_of_nodup ?_ WAJ).2 λi=>?_⟩
 .rw[List.nodup_append]
  refine⟨B,(WAJ).filter _,λa A b l e=>?_⟩
  subst e
  rw[za] at l
  have:=l.2
  simp only[yc,List.contains_eq_mem,zx] at this
  exact this A
 .simp only[yY,za,yA,yc,List.contains_eq_mem,zx,zA]
  constructor
  .rintro((h | rfl) | h)
   .exact q i h
   .exact E
   .exact h.1
  .intro h
   by_cases C:i∈ys\/i=j
   .exact .inl C
   .exact .inr ⟨h,C⟩
theorem iJ{σ ρ:Type}{G:σ->Int->Option σ}{ks:List Int}{st0 w:σ}{rest:σ->Option ρ}{r:ρ}(I:∀l:List Int,l.Perm ks->(FH G l st0).bind rest=some r){ys:List Nat}(A:ys.Nodup)(B:∀j∈ys,j<ks.length)
  (C:FH G (ys.map λj=>ks.getD j 0) st0=some w) {j:Nat} (J:j<ks.length) (E:j ∉ ys):∃st',G w (ks.getD j 0)=some st':=by
 have m:=(UM A B J E).2
 have q:((List.range ks.length).map λj=>ks.getD j 0)=ks:=by
  refine yg λi=>?_
  rw[xJ]
  by_cases F:i<ks.length
  .rw[zn F];simp[F]
  .rw[yN (by simpa using F),yN (by omega)];rfl
 have h:=I _ (q ▸ m.map λj=>ks.getD j 0)
 rw[yq,yq,yQ,Zb,C] at h
 simp only[yJ,xj,yd,yV,yR,FH] at h
 cases M:G w (ks.getD j 0) with
 | none=>rw[M] at h;cases h
 | some st'=>exact⟨st',rfl⟩
theorem mE{σ ρ:Type}{G:σ->Int->Option σ}{ks:List Int}{st0 F:σ}{rest:σ->Option ρ}{r:ρ}(I:∀l:List Int,l.Perm ks->(FH G l st0).bind rest=some r){ys:List Nat}(A:ys.Nodup)(B:∀j∈ys,j<ks.length)
  (C:FH G (ys.map λj=>ks.getD j 0) st0=some F) (q:∀j,j<ks.length->j∈ys):rest F=some r:=by
 have m:ys.Perm (List.range ks.length):=(List.perm_ext_iff_of_nodup A WAJ).2 λi=>⟨λh=>by simpa using B i h,λh=>q i (by simpa using h)⟩
 have w:((List.range ks.length).map λj=>ks.getD j 0)=ks:=by
  refine yg λi=>?_
  rw[xJ]
  by_cases E:i<ks.length
  .rw[zn E];simp[E]
  .rw[yN (by simpa using E),yN (by omega)];rfl
 have h:=I _ (w ▸ m.map λj=>ks.getD j 0)
 rw[C] at h
 exact h
theorem wF{σ ρ:Type}{E Bz d1 d2:Nat}{o1 o2:Oper}{x:Operand}{body:Code}{Q:Exit->St->Prop}{key:σ->List Int}{F:σ->Int->Option σ}{st0:σ}{rest:σ->Option ρ}{r:ρ}
  (it:Nat) {g mid mg:Nat} (M:σ->(Nat->Nat)->Aa) (Hf:σ->(Nat->Nat)->AL) (nf:(Nat->Nat)->Nat) (hr:NH key F st0 rest=some r)
  (hw:∃i,AZ s ⟨M st0 i,(it,some (.mj g mid mg (key st0).length []))::Hf st0 i,nf i,s.N⟩)
  (af:o1.guard=none) (ag:o1.dst=some d1) (ah:Nat.blt d1 s.N=true) (ai:o1.op=.next x false) (a6:o2.guard=none) (a7:o2.dst=some d2) (a8:Nat.blt d2 s.N=true) (aa:o2.op=.extract (.tmp d1) 0)
  (hx:∀l i,Ev true (M l i) x (.ptr it g 0 0)) (ab:∀l i,get (M l i) d1=.any) (aj:∀l i,get (M l i) d2=.any) (hm:∀l i,∃ob,hget (Hf l i) mid=some ob/\ob.gen=mg/\ob.mkeys=some (key l)) (ak:(it==mid)=false) (ac:∀l i,hget (Hf l i) it=none)
  (X:∀l k j A w i,F l k=some w->(key l)[j]?=some k->(key l).Nodup->(key l).length=(key st0).length->AW P body (λe s'=>e=.normal/\∃i',AZ s' ⟨M w i',(it,some (.mj g mid mg (key st0).length (A++[j])))::Hf w i',nf i',s.N⟩)
   ⟨(d2,.r (.bool true))::M l i,(it,some (.mj g mid mg (key st0).length (A++[j])))::Hf l i,nf i,s.N⟩)
  (Z:∀a0 i,rest a0=some r->Q .normal ⟨M a0 i,Hf a0 i,nf i,s.N⟩) :
  AW P (.block E (.loop (.seq (.region Bz #[o1,o2] false) (.seq (.cond (.tmp d2) .skip (.exit E)) body)))) Q s:=by
 obtain⟨al,U⟩:=se hr
 have ad:it≠mid:=by simpa using ak
 refine AW.block ?_
 let L:=(key st0).length
 refine AW.loop (λm s'=>∃(A:List Nat) (l:σ) (i:Nat->Nat),A.Nodup/\(∀j∈A,j<L)/\m=L-A.length/\key l=key st0/\FH (NU key (key st0) F) (A.map λj=>(key st0).getD j 0) st0=some l/\s'=⟨M l i,(it,some (.mj g mid mg L A))::Hf l i,nf i,s.N⟩) L
  (by obtain⟨i,hw⟩:=hw;exact⟨_,hw,[],st0,i,by simp,by simp,by simp,rfl,rfl,rfl⟩) ?_
 rintro m s' ⟨A,l,i,O,I,rfl,T,B,rfl⟩
 obtain⟨ob,an,V,ae⟩:=hm l i
 refine AW.seq (AW.region (l:=[o1,o2]) ?_)
 refine wA (ob:=ob) (ks:=key l) (id:=it) (g:=g) (mid:=mid) (len:=L) (seen:=A) af ag (B8 ah) ai (hx l i) (by rw[BG,ww rfl,V]) (by rw[BG,wv ad];exact an) ae (by rw[T]) (λa1=>?_) (λj hj a2=>?_)
 ·
  refine AN.step a6 a7 a8 (AS.spec (Tg aa (vs:=[.r (.bool false)]) (by exact .inl (by rw[show ∀e,BE e (.tmp d1)=get e d1 from λ_=>rfl,CE,ww rfl])) rfl) _) (AN.nil ?_)
  refine AW.seq (AW.cond (b:=false) (by rw[show ∀e,BE e (.tmp d2)=get e d2 from λ_=>rfl,CE,ww rfl]) (λh=>by cases h) λ_=>Xd (AW.exit ⟨⟨M l i,Hf l i,nf i,s.N⟩,hO (λt=>?_) (λid=>?_) (wy _),?_⟩))
  .rw[CE,CE]
   by_cases J:d2=t
   .subst J;exact .inl (aj l i)
   .rw[wv J]
    by_cases q:d1=t
    .subst q;exact .inl (ab l i)
    .rw[wv q];exact .inr rfl
  .rw[BG]
   by_cases q:it=id
   .subst q;exact .inl (ac l i)
   .rw[wv q];exact .inr rfl
  .show Ma E Q (.exit E) _
   show(if E=E then Q .normal _ else _)
   rw[ww rfl]
   exact Z l i (mE U O I B a1)
 ·
  obtain⟨w,C⟩:=iJ U O I B hj a2
  have hk:(key l)[j]?=some ((key st0).getD j 0):=by rw[T];simp[List.getD,wz hj]
  have hF:F l ((key st0).getD j 0)=some w/\key w=key st0:=by
   unfold NU at C
   rw[Option.bind_eq_some_iff] at C
   obtain⟨ar,q,J⟩:=C
   split at J
   .rename_i h3;cases J;exact⟨q,h3⟩
   .cases J
  refine AN.step a6 a7 a8 (AS.spec (Tg aa (vs:=[.r (.bool true),.any,.any]) (by exact .inl (by rw[show ∀e,BE e (.tmp d1)=get e d1 from λ_=>rfl,CE,ww rfl])) rfl) _) (AN.nil ?_)
  refine AW.seq (AW.cond (b:=true) (by rw[show ∀e,BE e (.tmp d2)=get e d2 from λ_=>rfl,CE,ww rfl]) (λ_=>AW.skip ?_) λh=>by cases h)
  show AW P body _ _
  refine AW.weak (s':=⟨(d2,.r (.bool true))::M l i,(it,some (.mj g mid mg L (A++[j])))::Hf l i,nf i,s.N⟩) (hO (λt=>?_) (λid=>?_) (wy _)) ?_
  .rw[CE,CE,CE]
   by_cases J:d2=t
   .rw[ww J,ww J];exact .inr rfl
   .rw[wv J,wv J]
    by_cases q:d1=t
    .subst q;exact .inl (ab l i)
    .rw[wv q];exact .inr rfl
  .rw[BG,BG,BG]
   by_cases q:it=id
   .rw[ww q,ww q,V];exact .inr rfl
   .rw[wv q,wv q,wv q];exact .inr rfl
  .refine(X l _ j A w i hF.1 hk (by rw[T];exact al) (by rw[T])).mono λe s2 ⟨he,i',ao⟩=>?_
   subst he
   refine⟨L-(A++[j]).length,?_,_,ao,A++[j],w,i',?_,?_,rfl,hF.2,?_,rfl⟩
   .have aq:A.length<L:=by
     have q:=(UM O I hj a2).2.length_eq
     simp only[xy,y9,WAY] at q
     omega
    simp;omega
   .exact(UM O I hj a2).1
   .intro a ha
    simp only[yY,zA] at ha
    rcases ha with ha | rfl
    .exact I a ha
    .exact hj
   .rw[yq,Zb,B]
    simp only[yJ,xj,yd,FH,C]
end
end Go.Proofs.YtcgleifameckmaaGreatDoor.Al

namespace Go.Proofs.YtcgleifameckmaaGreatDoor.Al
open Go.MapKept Go.RowKit
section
variable{P:Program}{c:Bool}{o:Oper}{R:Aa}{h:AL}{n:Nat}
theorem H2{t}{z}(h:Cj P t z)(w:World):(zeroValue t).run P w=.ok z w:=by
 obtain⟨i,j,l⟩:=h
 simp[zeroValue,typeInfo,j,l]
theorem QA{α:Type}(rd:α->RV){t} id(j:o.op=.makeMap t none):Az P c o R h n (.mref id n) ((id,some (.md n (Ap rd ([]:List (Int × α)))))::h) (n+1):=uL id j
theorem pN{α:Type}(row:α->List RV){t} id e(j:o.op=.makeMap t none):Az P c o R h n (.mref id n) ((id,some (.mb n n e (Ap row ([]:List (Int × α)))))::h) (n+1):=lT id e j
theorem sI{α:Type}(f:α->List RV){t} id e sz(j:o.op=.makeMap t none)(hsz:Nat.blt 0 sz=true) :
  Az P c o R h n (.mref id n) ((id,some (.mr n n e sz none (Ap (λ(l:List α)=>l.map f) [])))::h) (n+1):=oJ id e sz j hsz
theorem QR{α:Type}{row:α->List RV}{m j:List (Int × α)}{k:Int}{a:α}(l:Ax j k=Ax m k)(q:AR m k=some a):(Ap row m)[Ax j k]?=some (k,row a):=by
 rw[l,W7,(Lw q).2];rfl
theorem S7{α:Type}{row:α->List RV}{t:TypeId}{x:Operand}{f off:Nat}{id g j q:Nat}{e:TypeId}{m l:List (Int × α)}{k:Int}{a:α}(w:o.op=.fieldAddr t x f)(A:An P t f off)(B:Ev c R x (.pk id g j (Ax l k) q))(C:hget h id=some (.mb g j e (Ap row m)))
  (E:Ax l k=Ax m k) (F:c=true->AR m k=some a):AS P c o R h (.pk id g j (Ax l k) (q+off)):=
 ou w A B C λI=>by rw[QR E (F I)];rfl
theorem VV{α:Type}{row:α->List RV}{t:TypeId}{x:Operand}{id g j q:Nat}{e:TypeId}{m l:List (Int × α)}{k:Int}{a:α}{d:RV}(w:o.op=.load t x)(A:BH P t)(B:Ev c R x (.pk id g j (Ax l k) q))(C:hget h id=some (.mb g j e (Ap row m)))
  (E:Ax l k=Ax m k) (F:c=true->AR m k=some a) (hd:(row a)[q]?=some d):AS P c o R h (.r d):=
 sJ w A B C (λI=>QR E (F I)) hd
theorem cH{α:Type}{row:α->List RV}{t:TypeId}{x:Operand}{id g l sz:Nat}{e:TypeId}{m q:List (Int × α)}{k:Int}{a:α}{cs:List AV}(w:o.op=.load t x)(A:BW P t sz)(B:Ev c R x (.pk id g l (Ax q k) 0))(C:hget h id=some (.mb g l e (Ap row m)))
  (E:Ax q k=Ax m k) (F:c=true->AR m k=some a) (I:(row a).length=sz) (j:(row a).map .r=cs):AS P c o R h (.agg cs):=by
 subst j
 exact vg w A B C (λJ=>QR E (F J)) I
theorem u9{α β:Type}{row:α->β}{m:List (Int × α)}{k:Int}{a a':α}(j:AR m k=some a):(Ap row m).set (Ax m k) (k,row a')=Ap row (Am m k a'):=by
 have l:AR (Ap row m) k=some (row a):=by rw[Lz,j];rfl
 rw[<- SX]
 obtain⟨q,_⟩:=Lw l
 obtain⟨_,_,_,e2⟩:=DT q
 rw[e2,SC]
theorem re{α:Type}{row:α->List RV}{t:TypeId}{x y:Operand}{id g j q:Nat}{e:TypeId}{m l:List (Int × α)}{k:Int}{a a':α}{d:RV}(B:o.op=.store t x y)(C:∃i,P.info? t=some i/\i.size=1)(E:Ev c R x (.pk id g j (Ax l k) q))(F:hget h id=some (.mb g j e (Ap row m)))
  (w:Ax l k=Ax m k) (A:AR m k=some a) (I:Ev c R y (.r d)) (J:Nat.blt q (row a).length=true) (M:(row a).set q d=row a'):Az P c o R h n .any ((id,some (.mb g j e (Ap row (Am m k a'))))::h) n:=by
 have:=iu (n:=n) B C E F (QR w A) J I
 rwa [M,w,u9 A] at this
theorem Nj{α:Type}{row:α->List RV}{x:Operand}{id g l q:Nat}{e:TypeId}{m A:List (Int × α)}{k:Int}{a:α}(F:o.op=.nilCheck x)(I:Ev c R x (.pk id g l (Ax A k) q))(J:hget h id=some (.mb g l e (Ap row m)))
  (M:Ax A k=Ax m k) (O:c=true->AR m k=some a):AS P c o R h (.pk id g l (Ax A k) q):=by
 intro C z w B T U
 have j:z.H id=some (.mb g l e (Ap row m)):=by rw[T];exact J
 have E:=I.rep U C
 obtain⟨bb,V,k1,X,_⟩:=OC B j E (QR M (O C))
 refine⟨w.eval x,λw2 Z=>?_,E⟩
 unfold execOp
 rw[F]
 simp[X]
theorem Vn{α:Type}{f}{t j q}{x i}{id g A}{e}{sz}{m}{k}(B:o.op=.lookup t x i false)(C:P.underlying t=some (.map j q))
 (E:P.underlying j=some (.int .i64)) (F:∀w, (zeroValue q).run P w=.ok (.slice none 0 0) w) (I:Ev c R x (.mref id g)) (J:Ev c R i (.r (.int .i64 k))) (M:hget h id=some (.mr g A e sz none (Ap (λ(l:List α) => l.map f) m))) :
    AS P c o R h (.fo id g A k) := pJ B C E F I J M
theorem Mp{α:Type}{f:α->List RV}{m:List (Int × List α)}{k:Int} : (AR (Ap (λ(l:List α)=>l.map f) m) k).getD []=((AR m k).getD []).map f:=by
 rw[Lz]
 cases AR m k<;>rfl
theorem nC{α:Type}{f:α->List RV}{t:TypeId}{e e':TypeId}{sz j:Nat}{x:Operand}{id g q:Nat}{hole:Option (Nat × Bool)}{m:List (Int × List α)}{k:Int}(w:o.op=.call { callee:=.builtin .len,args:=#[x],argTypes:=#[t] })(A:DU P t e sz)
  (B:Ev c R x (.fo id g q k)) (C:hget h id=some (.mr g q e' j hole (Ap (λ(l:List α)=>l.map f) m))):AS P c o R h (.r (.int .i64 ((AR m k).getD []).length)):=by
 have:=nA w A B C
 rwa [Mp,xk] at this
theorem oq{α:Type}{f:α->List RV}{t e e':TypeId}{sz:Nat}{x y:Operand}{id g j:Nat}{hole:Option (Nat × Bool)}{m:List (Int × List α)}{k:Int}{w:IntKind}{z:Int}{a:α}(A:o.op=.indexAddr t x y)(B:DU P t e sz)(C:Ev c R x (.fo id g j k))
  (E:hget h id=some (.mr g j e' sz hole (Ap (λ(l:List α)=>l.map f) m))) (F:Ev c R y (.r (.int w z))) (I:c=true->AO ((AR m k).getD []) z=some a):AS P c o R h (.pk id g j (Ax m k) (z.toNat * sz)):=by
 have:=vT (row:=f a) A B C E F λJ=>by
  rw[Mp]
  have q:=EZ (I J)
  unfold AO
  rw[ww q.1,xJ,q.2.1];rfl
 rwa [SC] at this
theorem rA{α:Type}{f:α->List RV}{t:TypeId}{x:Operand}{id g q:Nat}{e:TypeId}{sz:Nat}{hole:Option (Nat × Bool)}{m:List (Int × List α)}{k z:Int}{a:α}{cs:List AV}(B:o.op=.load t x)(C:BW P t sz)(w:Ev c R x (.pk id g q (Ax m k) (z.toNat * sz)))(E:hget h id=some (.mr g q e sz hole (Ap (λ(l:List α)=>l.map f) m)))
  (F:c=true->AO ((AR m k).getD []) z=some a) (j:(f a).map .r=cs):AS P c o R h (.agg cs):=by
 subst j
 rw[<- SC (λ(l:List α)=>l.map f)] at w
 exact vp B C w E λI=>by
  rw[Mp]
  have A:=EZ (F I)
  unfold AO
  rw[ww A.1,xJ,A.2.1];rfl
theorem nk{α:Type}{f:α->List RV}{t e:TypeId}{sz j:Nat}{s x:Operand}{id g w:Nat}{m:List (Int × List α)}{k:Int}{ys r:List α}(A:o.op=.call { callee:=.builtin .append,args:=#[s,x],argTypes:=#[t,t] })(B:Ba P t e sz j)
  (C:Ev c R s (.fo id g w k)) (E:hget h id=some (.mr g w e sz none (Ap (λ(l:List α)=>l.map f) m))) (F:KN c R h x sz (ys.map f)) (q:ys.isEmpty=false) (I:app j ((AR m k).getD []) ys=some r) :
  Az P c o R h n (.fo id g n k) ((id,some (.mr g n e sz (some (Ax m k,(AR m k).isNone)) (Ap (λ(l:List α)=>l.map f) (Am m k r))))::h) (n+1):=by
 obtain⟨J,M,rfl⟩:=Qo I
 have:=tU (n:=n) A B C E F (by cases ys with | nil=>cases q | cons _ _=>rfl) (by rw[Mp];simpa using J) (by rw[Mp];simpa using M)
 rw[Mp,SC,Lz,Option.isNone_map,<- yq,SX (λ(l:List α)=>l.map f)] at this
 exact this
theorem rl{α:Type}{f}{t q w}{x i y}{id g j}{e}{sz}{m}{k}{A}{r}(B:o.op=.mapUpdate t x i y\/o.op=.insert t x i y)(C:P.underlying t=some (.map q w))(E:P.underlying q=some (.int .i64))
 (F:Ev c R x (.mref id g)) (I:Ev c R i (.r (.int .i64 k))) (J:Ev c R y (.fo id g j k)) (M:hget h id=some (.mr g j e sz (some (Ax m k, A)) (Ap (λ(l:List α) => l.map f) (Am m k r)))) :
    Az P c o R h n .any ((id, some (.mr g j e sz none (Ap (λ(l:List α) => l.map f) (Am m k r))))::h) n :=
  oU B C E F I J M (by rw[MR, Q6])
end
theorem sP{a b c α:Type}{x:a}{y:b}{z:c}{f:a->b->c->Option α}{r:α}(h:EQ (some (x,y,z)) f=some r):f x y z=some r:=h
end Go.Proofs.YtcgleifameckmaaGreatDoor.Al

namespace Go.Proofs.YtcgleifameckmaaGreatDoor.Al
section
variable{P:Program}{c:Bool}{o:Oper}{R:Aa}{h:AL}{n:Nat}
variable{α:Type}{f:α->List RV}
end
end Go.Proofs.YtcgleifameckmaaGreatDoor.Al

set_option linter.all false
set_option maxHeartbeats 4000000
set_option maxRecDepth 20000
namespace Go.Proofs.YtcgleifameckmaaGreatDoor.Al
open Go
def SB{α:Type} : Result α->World
 | .ok _ w=>w
 | .halt _ w=>w
def Dp:Go.GStep->Nat
 | .go _ w _=>w.drawn
 | .comm _ _ _ _ w _=>w.drawn
 | .spawn _ _ w _=>w.drawn
 | .count _ w _=>w.drawn
 | .timer _ _ w _=>w.drawn
 | .alone _ _ w _=>w.drawn
 | .newcoro _ _ _ w _=>w.drawn
 | .coroswitch _ _ _ w _=>w.drawn
 | .collect _ w _=>w.drawn
 | .watch _ w _=>w.drawn
 | .ended _ w _=>w.drawn
@[simp] theorem KH j s:(Dp (Go.GStep.after j s))=(Dp s):=by cases s<;>rfl
theorem vu{α:Type}(a:Ask α):∀w:World,w.drawn<=(w.ask a).2.drawn:=by
 induction a with
 | done a=>intro w;exact wy _
 | ask j range k l=>
  intro w
  unfold World.ask
  simp only
  split
  .exact l _ w
  .exact xW (zH _) (l _ { w with drawn:=w.drawn+1 })
theorem Wz(w:World)(c:Sys):w.drawn<=(w.sys c).2.drawn:=by
 unfold World.sys
 have h:=vu (Kernel.perform c w.os) w
 split
 .exact wy _
 .rename_i r l w' _ j
  rw[j] at h
  exact h
theorem Y8(w:World) a v:(w.setCell a v).drawn=w.drawn:=rfl
theorem Y5(w:World) a n:(w.freeze a n).drawn=w.drawn:=by unfold World.freeze;split<;>rfl
theorem mJ{p:Program}{w w':World}{at_:Addr}{u:TypeId}{k:Addr}{v:Value}{b:Bool}{l:List Addr}(h:w.viewStore p at_ u k v b=.ok (w',l)):w'.drawn=w.drawn:=by
 unfold World.viewStore at h
 simp only[bind,Except.bind,pure,Except.pure] at h
 repeat' split at h
 all_goals first | (cases h;done) | skip
 all_goals (try (simp only[Except.ok.injEq,xM] at h;rw[<- h.1]))
theorem ZV{p}{w w':World}{a}{v}{b}{l}(h:w.farStore p a v b=.ok (w',l)):w'.drawn=w.drawn:=by
 unfold World.farStore at h
 split at h
 .split at h
  .rename_i j
   cases h
   exact mJ j
  .cases h
 .cases h
theorem Wl{α:Type} p(s:Sem α):∀w:World,w.drawn<=(SB (s.run p w)).drawn:=by
 induction s with
 | pure a=>intro w;exact wy _
 | load m a k j=>
  intro w;unfold Sem.run
  split
  .exact j _ w
  .split
   .exact j _ w
   .exact wy _
 | store m a v k j=>
  intro w;unfold Sem.run
  split<;>first | exact wy _ | (rename_i l;cases l;done) | skip
  rename_i l;cases l
  all_goals (split<;>first | exact wy _ | skip)
  all_goals (try (split<;>first | exact wy _ | skip))
  all_goals first | exact xW (zg (Y8 _ _ _).symm) (j _) | (rename_i l;exact xW (zg (ZV l).symm) (j _)) | skip
 | new o k j=>intro w;unfold Sem.run;exact j _ { w with heap:=w.heap.push o }
 | shape r k j=>intro w;unfold Sem.run;exact j _ w
 | freeze a n k j=>intro w;unfold Sem.run;exact xW (zg (Y5 w a n).symm) (j _)
 | frozen a k j=>intro w;unfold Sem.run;exact j _ w
 | getObj r k j=>
  intro w;unfold Sem.run
  split<;>first | exact wy _ | exact j _ w
 | setObj r o k j=>
  intro w;unfold Sem.run
  split<;>first | exact wy _ | exact j { w with heap:=w.heap.setIfInBounds r o }
 | choose q k j=>
  intro w;unfold Sem.run
  split
  .exact j _ w
  .exact xW (zH _) (j _ { w with drawn:=w.drawn+1 })
 | sys c k j=>intro w;unfold Sem.run;exact xW (Wz w c) (j _ _)
 | program k j=>intro w;unfold Sem.run;exact j _ w
 | mark m k j=>intro w;unfold Sem.run;exact j w
 | halt h=>intro w;exact wy _
theorem Ir{α:Type} p(s:Sem α):∀(w:World) (l:Array Event),w.drawn<=(SB ((s.runT p w l).1)).drawn:=by
 induction s with
 | pure a=>intro w l;exact wy _
 | load m a k j=>
  intro w l;unfold Sem.runT
  split
  .exact j _ w _
  .split
   .exact j _ w _
   .exact wy _
 | store m a v k j=>
  intro w l;unfold Sem.runT
  split<;>first | exact wy _ | (rename_i A;cases A;done) | skip
  rename_i A;cases A
  all_goals (split<;>first | exact wy _ | skip)
  all_goals (try (split<;>first | exact wy _ | skip))
  all_goals first | exact xW (zg (Y8 _ _ _).symm) (j _ _) | (rename_i A;exact xW (zg (ZV A).symm) (j _ _)) | skip
 | new o k j=>intro w l;unfold Sem.runT;exact j _ { w with heap:=w.heap.push o } _
 | shape r k j=>intro w l;unfold Sem.runT;exact j _ w _
 | freeze a n k j=>intro w l;unfold Sem.runT;exact xW (zg (Y5 w a n).symm) (j _ _)
 | frozen a k j=>intro w l;unfold Sem.runT;exact j _ w _
 | getObj r k j=>
  intro w l;unfold Sem.runT
  split<;>first | exact wy _ | exact j _ w _
 | setObj r o k j=>
  intro w l;unfold Sem.runT
  split<;>first | exact wy _ | exact j { w with heap:=w.heap.setIfInBounds r o } _
 | choose q k j=>
  intro w l;unfold Sem.runT
  split
  .exact j _ w _
  .exact xW (zH _) (j _ { w with drawn:=w.drawn+1 } _)
 | sys c k j=>intro w l;unfold Sem.runT;exact xW (Wz w c) (j _ _ _)
 | program k j=>intro w l;unfold Sem.runT;exact j _ w _
 | mark m k j=>intro w l;unfold Sem.runT;exact j w _
 | halt h=>intro w l;exact wy _
theorem Ey{α:Type}{p}{s:Sem α}{w w':World}{a}(h:s.run p w=.ok a w'):w.drawn<=w'.drawn:=by
 have:=Wl p s w;rw[h] at this;exact this
theorem KB{α:Type}{p}{s:Sem α}{w w':World}{a}(h:s.run p w=.halt a w'):w.drawn<=w'.drawn:=by
 have:=Wl p s w;rw[h] at this;exact this
theorem Vj j m(w:World):(Dp (endThrow j m w))=w.drawn:=rfl
theorem uc(w:World) j t o:w.drawn<=(Dp (endWith w j t o)):=by
 unfold endWith
 have h:=Wz w (.write j t)
 generalize w.sys (.write j t)=r at h
 obtain⟨r,w'⟩:=r
 cases r<;>first | exact h | (simp only;split<;>exact h)
theorem YF p j v(w:World):(Dp (endPrinting p j v w))=w.drawn:=by
 unfold endPrinting
 simp only
 split<;>rfl
theorem em p l cs d m(w:World):w.drawn<=(Dp (endFatal p l cs d m w)):=by
 unfold endFatal
 simp only
 split
 .rename_i j;exact Ey j
 .rename_i j;exact KB j
 .rename_i j;exact KB j
theorem qY p j d f(w:World):w.drawn<=(Dp (writeOn p j d f w)):=by
 unfold writeOn
 simp only
 split
 .exact wy _
 .generalize l:Sem.runT p _ w #[]=r
  have h:w.drawn<=(SB r.1).drawn:=by rw[<- l];exact Ir p _ w _
  obtain⟨r,q⟩:=r
  split<;>(rename_i m;cases m;exact h)
theorem iT p l d(w:World):w.drawn<=(Dp (die p l d w)):=by
 unfold die
 split
 .exact qY _ _ _ _ _
 .split
  .split
   .exact wy _
   .exact uc _ _ _ _
  .simp only
   split
   .exact wy _
   .split
    .rename_i j;exact Ey j
    .rename_i j;exact KB j
   .rename_i t recv name _
    have h:=Ir p (invoke (.fn (.method name) #[]) #[.iface t recv]) w #[]
    generalize Sem.runT p _ w #[]=r at h ⊢
    obtain⟨r,m⟩:=r
    simp only[KH]
    split<;>first | exact h | (rw[YF];exact h) | skip
    all_goals exact wy _
   .exact wy _
theorem XQ p j l cs d v(w:World):(Dp (doReturn p j l cs d v w))=w.drawn:=by
 unfold doReturn
 split
 .split<;>rfl
 .split<;>first | rfl | skip
  split
  .rfl
  .split<;>rfl
theorem P8{c}[Decidable c]{a b}{n}(j:n<=(Dp a))(l:n<=(Dp b)):n<=(Dp (if c then a else b)):=by split<;>assumption
theorem kB p l cs d(j:Deferred)(w:World):w.drawn<=(Dp (callDeferred p l cs d j w)):=by
 unfold callDeferred
 refine P8 (wy _) ?_
 .have h:=Ir p (invoke j.target j.args) w #[]
  generalize Sem.runT p (invoke j.target j.args) w #[]=r at h ⊢
  obtain⟨r,m⟩:=r
  simp only[KH]
  split<;>first | exact h | (rw[Vj];exact h) | exact xW h (em _ _ _ _ _ _) | (split<;>exact h)
theorem ns p j(m:Frame) cs d(w:World):w.drawn<=(Dp (unwind p j m cs d w)):=by
 unfold unwind
 split
 .rename_i block _ A _
  have h:=Ir p (Instr.takeDeferred block) w #[]
  generalize Sem.runT p (Instr.takeDeferred block) w #[]=r at h ⊢
  obtain⟨r,q⟩:=r
  simp only[KH]
  split<;>exact h
 .exact kB _ _ _ _ _ _
 .split
  .exact wy _
  .split
   .exact wy _
   .split
    .exact wy _
    .split
     .split
      .exact wy _
      .split
       .rename_i l;exact Ey l
       .rename_i l;exact KB l
       .rename_i l;exact KB l
     .split
      .rw[YF];exact wy _
      .exact wy _
  .split
   .rw[XQ];exact wy _
   .rename_i fn _
    have h:=Ir p (results fn m.tmps) w #[]
    generalize Sem.runT p (results fn m.tmps) w #[]=r at h ⊢
    obtain⟨r,q⟩:=r
    simp only[KH]
    split<;>first | exact h | (rw[XQ];exact h)
theorem lP p(q:Frame) cs d g(w:World):w.drawn<=(Dp (early p q cs d g w)):=by
 have j:∀l:World,w.drawn<=l.drawn->w.drawn<=(Dp (match l.heap[g]? with
  | some (.pending c elem)=>Go.GStep.go { frame:=q,callers:=cs,status:=.running,dying:=d } { l with heap:=l.heap.setIfInBounds g (.cells c elem) }
  | _ => .ended (.stuck "early: the variable does not wait" (q.pos p)) l)) := by
  intro l A
  split<;>exact A
 unfold early
 simp only
 split
 .exact j w (wy _)
 .split
  .exact wy _
  .split
   .exact j w (wy _)
   .split
    .exact j w (wy _)
    .split
     .exact wy _
     .exact wy _
     .exact wy _
     .exact j w (wy _)
     .split
      .exact wy _
      .split
       .exact j w (wy _)
       .split
        .rename_i m;exact j _ (Ey m)
        .rename_i m;exact Ey m
        .rename_i m;exact KB m
theorem Pv p listen j cs d(s:Sem Next)(w:World):w.drawn<=(Dp (stepG.apply p listen j cs d s w)):=by
 unfold stepG.apply
 have h:w.drawn<=(SB ((if listen then s.runT p w #[] else(s.run p w,#[])).1)).drawn:=by
  split
  .exact Ir p s w #[]
  .exact Wl p s w
 generalize (if listen then s.runT p w #[] else(s.run p w,#[]))=r at h ⊢
 obtain⟨r,l⟩:=r
 simp only[KH]
 split<;>first | exact h | (rw[Vj];exact h) | exact xW h (em _ _ _ _ _ _) | exact xW h (lP _ _ _ _ _ _) | skip
 all_goals first | (split<;>exact h) | exact P8 h h | exact P8 (by rw[Vj];exact h) h
theorem uR p listen j cs d(w:World):w.drawn<=(Dp (stepG.oper p listen j cs d w)):=by
 unfold stepG.oper
 split
 .exact wy _
 .split<;>exact Pv _ _ _ _ _ _ _
theorem qC(p:Program)(main:Bool)(listen:Bool)(fr:Frame)(cs:List Frame)(d:Option Dying)(w:World):w.drawn<=(Dp (stepG.exec p main listen fr cs d w)):=by
 have hl:∀jump:Option Code,w.drawn<=(Dp (match fr.roundOf with
   | none => if jump matches none | some .ret then Go.GStep.go { frame := { fr with mode := .returning }, callers := cs, status := .running, dying := d } w else .ended (.stuck "exit, goto: no such block or label" (fr.pos p)) w
   | some l=>
    let (r,es):=(Instr.endRound l jump).runT p w #[]
    Go.GStep.after (seen p fr.fn es) <| match r with
    | .ok v w=>doReturn p main fr cs d v w
    | .halt _ w => .ended (.stuck "range over a function: no such loop" (fr.pos p)) w)) := by
  intro jump
  split
  .exact P8 (wy _) (wy _)
  .rename_i l _
   have h:=Ir p (Instr.endRound l jump) w #[]
   generalize Sem.runT p (Instr.endRound l jump) w #[]=r at h ⊢
   obtain⟨r,es⟩:=r
   simp only[KH]
   split
   .rw[XQ];exact h
   .exact h
 unfold stepG.exec
 simp only
 split
 .exact hl none
 .exact hl (some .ret)
 all_goals first | exact wy _ | skip
 .split<;>exact wy _
 .rename_i id k _
  cases exitTo id k with
  | none=>exact hl (some (.exit id))
  | some t=>exact wy _
 .rename_i l k _
  cases gotoIn l k with
  | none=>exact hl (some (.goto l))
  | some t=>exact wy _
 .rename_i f params assign body k _
  have h:=Ir p (Instr.enterLoop fr.fn fr.tmps params assign body fr.roundOf) w #[]
  generalize Sem.runT p (Instr.enterLoop fr.fn fr.tmps params assign body fr.roundOf) w #[]=r at h ⊢
  obtain⟨r,es⟩:=r
  simp only[KH]
  split
  .exact xW h (Pv _ _ _ _ _ _ _)
  .exact h
 .exact Pv _ _ _ _ _ _ _
 .rename_i l k _
  have h:=Ir p (Instr.endLoop l) w #[]
  generalize Sem.runT p (Instr.endLoop l) w #[]=r at h ⊢
  obtain⟨r,es⟩:=r
  simp only[KH]
  split<;>exact h
 .exact Pv _ _ _ _ _ _ _
 .rename_i row args _ _
  cases Extern.next row with
  | none=>exact wy _
  | some e=>exact Pv _ _ _ _ _ _ _
 .split
  .exact wy _
  .split
   .rename_i hh;exact Ey hh
   .rename_i hh;exact KB hh
 .exact P8 (uR _ _ _ _ _ _) (wy _)
theorem jI p j g(w:World) listen:w.drawn<=(Dp (stepG p j g w listen)):=by
 unfold stepG
 simp only
 split
 .exact iT _ _ _ _
 .exact qC _ _ _ _ _ _ _
 .exact ns _ _ _ _ _ _
def Ff(n:Nat):Stepped->Prop
 | .next m=>n<=m.world.drawn
 | .ended _ _=>True
theorem Pc{s}{a b}(h:Ff a s)(j:b<=a):Ff b s:=by
 cases s with
 | next m=>exact xW j h
 | ended _ _=>trivial
theorem ZS{c}[Decidable c]{a b}{n}(j:Ff n a)(l:Ff n b):Ff n (if c then a else b):=by split<;>assumption
theorem V8{β:Type}{c:Prop}[Decidable c]{a b:Stepped × β}{n:Nat}(j:Ff n a.1)(l:Ff n b.1):Ff n ((if c then a else b).1):=by split<;>assumption
theorem uS(p:Program)(rest:Rest)(q:Array Goroutine)(i:Nat)(g:Goroutine)(cases:Array CommCase)(j:Bool)(shape:CommShape)(w:World):Ff w.drawn ((communicate p rest q i g cases j shape w).1):=by
 unfold communicate
 simp only
 refine V8 trivial (V8 (V8 ?_ (wy _)) ?_)
 .split
  .rename_i l
   unfold waitingAt at l
   split at l
   .split at l
    .cases l;exact wy _
    .cases l
   .cases l;exact wy _
  .trivial
 .split
  .trivial
  .rename_i k c A w' l
   have h:=Ey l
   split
   .split
    .rename_i m;exact xW h (KB m)
    .trivial
   .exact h
   .exact h
   .split
    .exact h
    .split
     .rename_i m;have B:=Ey m;exact xW h B
     .trivial
   .exact h
   .exact h
   .trivial
theorem Ze p j rest(w:World):Ff w.drawn (look p j rest w):=by
 unfold look
 split
 .simp only
  refine ZS trivial ?_
  split
  .trivial
  .split
   .rename_i l;have m:=Ey l;exact m
   .trivial
   .trivial
 .trivial
theorem rz(w:World) c:(drain w c).2.drawn=w.drawn:=by
 unfold drain;split<;>rfl
theorem Yi(m:Machine) k(t:Timer) a b:(retime m k t a b).2.world.drawn=m.world.drawn:=by
 unfold retime
 cases t.chan with
 | none=>rfl
 | some c=>exact rz _ _
theorem mY(m:Machine) op{v}{l:Machine}(h:timerOp m op=.ok (v,l)):l.world.drawn=m.world.drawn:=by
 unfold timerOp at h
 split at h
 .split at h
  .cases h;rfl
  .split at h
   .split at h
    .cases h
    .cases h;rfl
   .cases h
 .unfold timerOp.named at h
  split at h
  .simp only[Except.ok.injEq] at h
   have:=xc (λq=>q.2.world.drawn) h
   simp only at this
   rw[<- this];exact Yi _ _ _ _ _
  .cases h
 .split at h
  .rename_i m2 j
   unfold timerOp.named at h
   split at h
   .simp only[Except.ok.injEq] at h
    have:=xc (λq=>q.2.world.drawn) h
    simp only at this
    rw[<- this,Yi]
    unfold timerOp.opened at j
    split at j
    .split at j
     .cases j;rfl
     .cases j
    .cases j;rfl
   .cases h
  .cases h
 .cases h;rfl
theorem uA p(m:Machine) k:Ff m.world.drawn (serve p m k):=by
 unfold serve
 split
 .trivial
 .exact wy _
 .split
  all_goals (simp only;split)
  all_goals first | trivial | exact wy _
theorem sA p(m:Machine) i listen:Ff m.world.drawn ((runT p m i listen).1):=by
 unfold runT
 simp only
 have h:=jI p (i==0) (m.gs.swapAt! i { (default:Goroutine) with status:=.finished }).1 m.world listen
 generalize stepG p (i==0) (m.gs.swapAt! i { (default:Goroutine) with status:=.finished }).1 m.world listen=s at h ⊢
 cases s with
 | ended o w j=>trivial
 | comm g cases l shape w j=>exact Pc (uS _ _ _ _ _ _ _ _ _) h
 | go g w j=>exact h
 | spawn g q w j=>exact h
 | count g w j=>exact ZS trivial h
 | alone g B w j=>exact h
 | collect g w j=>exact Pc (Ze _ _ _ _) h
 | watch g w j=>exact h
 | newcoro g c d w j=>exact h
 | coroswitch g c exit w j=>
  simp only
  split
  .exact h
  .exact h
  .trivial
 | timer g op w j=>
  simp only
  split
  .rename_i A
   have:=mY _ _ A
   exact xW h (zg this.symm)
  .exact h
  .trivial
  .trivial
def NB(n:Nat):Move->Prop
 | .goroutine m _=>n<=m.world.drawn
 | .machine s _=>Ff n s
theorem U4 p(m:Machine):NB m.world.drawn (askOn p m):=by
 have hp:∀(l:List Nat) (q:Machine),m.world.drawn<=q.world.drawn->NB m.world.drawn (match (choose (.sched l.length)).run p q.world with
   | .halt _ w => Move.machine (.ended (.stuck "sched" "") w)
   | .ok k world=>
    if l.length<=1 then .goroutine { q with world } (l.getD k 0) else
    match (choose (.extern "sched.slice" 65536)).run p world with
    | .halt _ w => .machine (.ended (.stuck "sched.slice" "") w)
    | .ok n world=>.goroutine { q with world,rest:={ q.rest with slice:=if n=0 then none else some (l.getD k 0,n) } } (l.getD k 0)):=by
  intro l q C
  split
  .trivial
  .rename_i B
   have j:=xW C (Ey B)
   split
   .exact j
   .split
    .trivial
    .rename_i A;exact xW j (Ey A)
 unfold askOn
 simp only
 split
 .trivial
 .rename_i k world B
  have h:=Ey B
  split
  .have j:=uA p { m with world } ((due m.rest.timers m.world.os.mono).getD k 0)
   generalize serve p { m with world } ((due m.rest.timers m.world.os.mono).getD k 0)=s at j
   cases s with
   | next F=>exact xW h j
   | ended _ _=>trivial
  .split
   .split
    .exact h
    .split
     .exact h
     .split<;>trivial
   .split
    .exact hp _ { m with world } h
    .split
     .trivial
     .rename_i j;exact hp _ { m with world:=_ } (xW h (Ey j))
     .rename_i j;have A:=Ey j;exact xW h A
     .rename_i t _ _ E w' j;have A:=Ey j;exact hp _ (Machine.advanceTo { m with world:=w' } (t-(E+1))) (xW h A)
theorem YQ{s}{a b}(h:NB a s)(j:b<=a):NB b s:=by
 cases s with
 | goroutine m i=>exact xW j h
 | machine s o=>exact Pc (s:=s) h j
theorem gu p(m:Machine):NB m.world.drawn (ask p m):=by
 unfold ask
 split
 .split
  .trivial
  .rename_i q j
   have h:=Ey j
   have l:=Ze p m.gs m.rest q
   split
   .rename_i w
    rw[w] at l
    exact YQ (U4 p _) (xW h l)
   .exact Pc l h
  .rename_i j
   exact YQ (U4 p _) (Ey j)
 .exact U4 p m
theorem uf p(m:Machine):NB m.world.drawn (move p m):=by
 unfold move
 split
 .split
  .exact wy _
  .trivial
 .split
  .split
   .exact wy _
   .exact gu p { m with rest:=_ }
  .exact gu p m
theorem qB p(m:Machine):Ff m.world.drawn (step p m):=by
 unfold step stepT
 have h:=uf p m
 split
 .rename_i j;rw[j] at h
  exact Pc (sA p _ _ _) h
 .rename_i j;rw[j] at h
  exact h
theorem jK p:∀(n:Nat) (m j:Machine),runN p n m=.next j->m.world.drawn<=j.world.drawn:=by
 intro n
 induction n with
 | zero=>intro m j h;cases h;exact wy _
 | succ n w=>
  intro m j h
  unfold runN at h
  have l:=qB p m
  split at h
  .rename_i A;rw[A] at l
   exact xW l (w _ _ h)
  .rename_i e q
   rw[h] at q
   exact absurd rfl (q _)
theorem bH{p}{m j:Machine}(h:Steps p m j):m.world.drawn<=j.world.drawn:=by
 obtain⟨n,l⟩:=h
 exact jK p n m j l
theorem ng{P}{f}{args}{w:World}{R}(h:Calls P f args w R):Calls P f args w λe w'=>R e w'/\(e≠.outgrown->w.drawn<=w'.drawn):=by
 intro l
 obtain⟨e,w',m,q,j,A,B⟩:=h l
 refine⟨e,w',m,⟨q,λC=>?_⟩,j,A,B⟩
 cases e with
 | outgrown=>exact absurd rfl C
 | returned v=>exact bH (show Steps P _ _ from j)
 | panicked c=>exact bH (show Steps P _ _ from j)
end Go.Proofs.YtcgleifameckmaaGreatDoor.Al

set_option maxHeartbeats 1000000
namespace Go.Proofs.YtcgleifameckmaaGreatDoor.Al
open Go.Shelf Go.RowKit Go.Lib Go.Sort
def Sv{τ:Type}(cmp:τ->τ->Option Int)(xs l:List τ):Prop:=
 xs.length<4611686018427387904/\∃j:τ->τ->Int,(∀a b,cmp a b=some (j a b))/\SWO (ltOf j)/\(∀a∈xs,∀b∈xs,ltOf j a b=false->ltOf j b a=false->a=b) /\
  l.Perm xs/\l.Pairwise λa b=>ltOf j b a=false
open Classical in
noncomputable def IA{τ:Type}(cmp:τ->τ->Option Int)(xs:List τ):Option (List τ):=if h:∃l,Sv cmp xs l then some h.choose else none
theorem QO{τ:Type}{cmp:τ->τ->Option Int}{xs l:List τ}(h:IA cmp xs=some l):Sv cmp xs l:=by
 unfold IA at h
 split at h
 .rename_i j;cases h;exact j.choose_spec
 .cases h
theorem Vo{τ:Type}{lt}(O:SWO lt):∀(l j:List τ),l.Perm j->(∀a∈l,∀b∈l,lt a b=false->lt b a=false->a=b)->l.Pairwise (λa b=>lt b a=false)->j.Pairwise (λa b=>lt b a=false)->l=j:=by
 intro l
 induction l with
 | nil=>intro j hp _ _ _;exact(List.nil_perm.1 hp).symm
 | cons a r I=>
  intro j hp E m q
  cases j with
  | nil=>exact absurd hp (by simp)
  | cons b s=>
   rw[zO] at m q
   have w:a=b:=by
    have A:b∈a::r:=hp.symm.subset (xY ..)
    have B:a∈b::s:=hp.subset (xY ..)
    rcases yD.1 A with e | F
    .exact e.symm
    .rcases yD.1 B with e | C
     .exact e
     .exact E a (xY ..) b (xZ _ F) (q.1 a C) (m.1 b F)
   subst w
   rw[I s (List.Perm.cons_inv hp) (λx J y M=>E x (xZ _ J) y (xZ _ M)) m.2 q.2]
theorem qE{τ:Type}{cmp:τ->τ->Option Int}{xs l:List τ}(h:Sv cmp xs l):IA cmp xs=some l:=by
 have q:∃l,Sv cmp xs l:=⟨l,h⟩
 unfold IA
 rw[zU q]
 obtain⟨U,w,A,B,C,E,F⟩:=h
 obtain⟨_,j,I,_,_,m,J⟩:=q.choose_spec
 have M:j=w:=by
  funext a b
  have:=(I a b).symm.trans (A a b)
  simpa using this
 subst M
 rw[Vo B _ l (m.trans E.symm) (λa O b T=>C a (m.subset O) b (m.subset T)) J F]
theorem jt{τ:Type}{cmp:τ->τ->Option Int}{xs l j:List τ}{m:τ->τ->Int}(h:IA cmp xs=some l)(hc:∀a b,cmp a b=some (m a b))(hp:j.Perm xs)(A:j.Pairwise λa b=>ltOf m b a=false):j=l:=by
 obtain⟨O,q,B,C,E,F,I⟩:=QO h
 have w:q=m:=by
  funext a b
  have:=(B a b).symm.trans (hc a b)
  simpa using this
 subst w
 exact Vo C _ _ (hp.trans F.symm) (λa J b M=>E a (hp.subset J) b (hp.subset M)) A I
theorem AY.exact{P}{g}{args}{r}(h:AY P g args r){z:Cx}(m:z.ok){W:World}(J:z.w.heap.size<=W.heap.size)(X:W.os=z.w.os)(Z:W.tape=z.w.tape)(hp:W.output=z.w.output)
 (hb:∀b, z.S b->W.heap[b]?=z.w.heap[b]?) {vs:Array Value} (ha:∀y:Cx, y.w=W->y.S=z.S->Fy y args vs.toList) :
    Calls P g vs W λe w' => ∃u, e=.returned u/\(∃y:Cx, AP y r u)/\∃q E, w'=grow (W.drewN q) E := by
  have t1:EH { z with F := λ_ => False, H := λ_ => none } := m.tabs.same rfl λ_ h => h
  have t2:EH { w := W, S := z.S, F := λ_ => False, H := λ_ => none, β := z.β, K := z.K, n := z.n } :=
    t1.le ⟨J, X, Z, hp, (λb F => F.elim (hb b) False.elim), (λ_ h => h), rfl, wy _, (λ_ _ h => by cases h), (λ_ _ h => by cases h)⟩
  have t3:EH { w := W, S := z.S, F := λb => b<W.heap.size/\¬ z.S b, H := λ_ => none, β := λ_ => none, K := λ_ _ => none, n := 0 } := t2.same rfl λ_ h => h
  have hx:({ w := W, S := z.S, F := λb => b<W.heap.size/\¬ z.S b, H := λ_ => none, β := λ_ => none, K := λ_ _ => none, n := 0 } : Cx).ok :=
    ⟨(λb B => xD (m.S_lt b B) J), (λb h => h.1), (λb C w => w.2 C), (λ_ _ h => by cases h), (λ_ _ _ _ h => by cases h), (λ_ _ _ _ _ _ _ h => by cases h), (λ_ _ _ _ _ h => by cases h), t3⟩
  refine(ng (h.2.2 _ vs hx rfl (ha _ rfl rfl))).mono λe w' ⟨⟨u, y, M, hw, j, O, A⟩, hd⟩ => ?_
  subst hw
  have a0 := hd (by rw[M];intro h;cases h)
  refine⟨u, M, ⟨y, A⟩, y.w.drawn - W.drawn, y.w.heap.extract W.heap.size y.w.heap.size, ?_⟩
  have hsz:W.heap.size<=y.w.heap.size := j.size
  have l:y.w.heap=W.heap++y.w.heap.extract W.heap.size y.w.heap.size := by
    apply Array.ext_getElem?
    intro i
    by_cases T:i<W.heap.size
    · rw[zP T]
      refine j.blk i ?_
      by_cases B:z.S i
      · exact .inl B
      · exact .inr ⟨T, B⟩
    · rw[Array.getElem?_append_right (by omega), z7]
      by_cases w:i<y.w.heap.size
      · rw[ww (by omega)];congr 1;omega
      · rw[wv (by omega), yx (by omega)]
  have C := j.os;have w := j.tape;have U := j.output
  simp only at C w U
  generalize y.w=w' at *
  obtain⟨V, tape, I, os, output⟩ := w'
  simp only at *
  subst C w U
  unfold grow World.drewN
  simp only
  rw[<- l]
  congr 1
  omega
structure El{τ:Type}(x:Cx)(row:τ->List RV)(k:Nat) where
 t:τ
 us:List Value
 hl:us.length=k
 hrl:(row t).length=k
 hr:∀(i:Nat) (d:RV) (u:Value),(row t)[i]?=some d->us[i]?=some u->A4 x.w x.S d u
theorem El.one{τ:Type}{x:Cx}{row:τ->List RV}{k:Nat}(a:El x row k):∀v∈a.us,v.oneCell'=true:=by
 intro v l
 obtain⟨i,j,rfl⟩:=yH.1 l
 have m:i<(row a.t).length:=by rw[a.hrl,<- a.hl];exact j
 exact(a.hr i _ _ (wz m) (wz j)).one
theorem El.agg{τ:Type}{x y:Cx}{row:τ->List RV}{k:Nat}(a:El x row k)(l:∀b,x.S b->y.w.heap[b]?=x.w.heap[b]?)(m:y.S=x.S):AP y (.agg ((row a.t).map .r)) (.agg a.us.toArray):=by
 refine .agg (by simp[a.hl,a.hrl]) λi c u j q=>?_
 rw[xJ,xK] at j
 obtain⟨d,hd,rfl⟩:=j
 exact .r ((a.hr i d u hd (by simpa using q)).mono l λb h=>by rw[m];exact h)
theorem rm{τ:Type}{x:Cx}{row:τ->List RV}{k:Nat}{j:τ->τ->Int}(h:SWO (ltOf j)):SWO (ltOf λa b:El x row k=>j a.t b.t):=
 ⟨λa=>h.irrefl a.t,λa b c=>h.trans a.t b.t c.t,λa b c=>h.ntrans a.t b.t c.t⟩
theorem Zy{α:Type}[Inhabited α](enc:α->List Value) k(w:World) blk n d l :
  w.heap.size<=(sortWorldK enc k w blk 0 n d l).heap.size/\(sortWorldK enc k w blk 0 n d l).os=w.os/\(sortWorldK enc k w blk 0 n d l).tape=w.tape/\(sortWorldK enc k w blk 0 n d l).output=w.output /\
   (∀b,b<w.heap.size->b≠blk->(sortWorldK enc k w blk 0 n d l).heap[b]?=w.heap[b]?) /\
   ∀j e m,w.heap[blk]?=some (.cells j e m)->(sortWorldK enc k w blk 0 n d l).heap[blk]?=some (.cells (putCells id 0 (flatK enc k d) j) e m):=by
 refine⟨?_,rfl,rfl,rfl,λb q A=>?_,λj e m h=>?_⟩
 .simp[sortWorldK,grow,putRowK,putRow,mapBlock,Sort.ahead]
 .simp only[sortWorldK,grow,putRowK,putRow,mapBlock,Sort.ahead]
  rw[zP (by simpa using q),Array.getElem?_modify,wv (λe=>A e.symm)]
 .have q:blk<w.heap.size:=(xt.1 h).1
  simp only[sortWorldK,grow,putRowK,putRow,mapBlock,Sort.ahead]
  rw[zP (by simpa using q),Array.getElem?_modify,ww rfl,h]
  rfl
section
variable{P:Program}{ρ:Ren}{τ:Type}{row:τ->List RV}{k:Nat}{cmp:τ->τ->Option Int}{g:FuncId}
theorem q7{x:Cx}(w:x.ok){n}(a b:El x row k)(hc:AY P g [.agg ((row a.t).map .r), .agg ((row b.t).map .r)] (.r (.int .i64 n))){W:World}(J:x.w.heap.size<=W.heap.size)(M:W.os=x.w.os)(O:W.tape=x.w.tape)(hp:W.output=x.w.output)
 (E:∀b, x.S b->W.heap[b]?=x.w.heap[b]?):Calls P g #[.agg a.us.toArray, .agg b.us.toArray] W λe w' => e=.returned (.int .i64 n)/\∃q j, w'=grow (W.drewN q) j := by
  have T:∀y:Cx, y.w=W->y.S=x.S->Fy y [.agg ((row a.t).map .r), .agg ((row b.t).map .r)] (#[.agg a.us.toArray, .agg b.us.toArray]:Array Value).toList := by
    intro y A F
    have l:∀c, x.S c->y.w.heap[c]?=x.w.heap[c]? := λc hc => by rw[A];exact E c hc
    have U := a.agg l F
    have V := b.agg l F
    refine⟨rfl, λi v u B I => ?_⟩
    rcases i with _ | _ | i
    · have C:AV.agg ((row a.t).map .r)=v := by simpa using B
      have e2:Value.agg a.us.toArray=u := by simpa using I
      rw[<- C, <- e2];exact U
    · have C:AV.agg ((row b.t).map .r)=v := by simpa using B
      have e2:Value.agg b.us.toArray=u := by simpa using I
      rw[<- C, <- e2];exact V
    · simp at B
  refine(hc.exact w J M O hp E T).mono ?_
  rintro e w' ⟨u, X, ⟨y, m⟩, q, j, A⟩
  refine⟨?_, q, j, A⟩
  rw[X]
  generalize hd:RV.int .i64 n=d at m
  cases m with
  | r m => subst hd;cases m;rfl
theorem lZ{x:Cx}(j:x.ok){A:τ->τ->Int}[Inhabited (El x row k)](hc:∀a b,AY P g [.agg ((row a).map .r),.agg ((row b).map .r)] (.r (.int .i64 (A a b)))){blk:Nat}(l:¬ x.S blk)(size:Nat) :
  CmpLays P g #[] (λa:El x row k=>a.us) k (λa b=>A a.t b.t) blk 0 size x.w:=by
 intro m q w _ a b
 obtain⟨C,f2,E,F,I,_⟩:=Zy (λa:El x row k=>a.us) k x.w blk m w q
 have J:∀c,x.S c->(sortWorldK (λa:El x row k=>a.us) k x.w blk 0 m w q).heap[c]?=x.w.heap[c]?:=λc B=>I c (j.S_lt c B) λe=>l (by rw[<- e];exact B)
 generalize sortWorldK (λa:El x row k=>a.us) k x.w blk 0 m w q=W at *
 rw[Array.append_empty]
 exact q7 j a b (hc a.t b.t) C f2 E F J
theorem Zi{α:Type}[Inhabited α](enc:α->List Value)(d:Array α){i c}(w:∀x,(enc x).length=k)(j:i<d.size)(hc:c<k):(flatK enc k d)[i * k+c]?=(enc d[i])[c]?:=by
 have lt:i * k+c<d.size * k:=by
  have:=xi k (show i+1<=d.size from j);rw[yU,yn] at this;omega
 have h:=get_flatK enc k d _ lt
 have l:(i * k+c) / k=i:=(blk_iff k i _ (by omega)).1 ⟨by omega,by omega⟩
 have e2:(i * k+c) % k=c:=by rw[Nat.mod_eq_sub_div_mul,l];omega
 rw[l,e2] at h
 have m:i * k+c<(flatK enc k d).size:=by rw[size_flatK];exact lt
 have q:c<(enc d[i]).length:=by rw[w];exact hc
 rw[xe m,wz q]
 rw[xg (flatK enc k d) _ m,xg d i j,xg (enc d[i]) c q] at h
 rw[h]
theorem Y2(L:SlLaysF0.n6 P ρ)(aE:∀w,(isAgg (ρ.t 24)).run P w=.ok true w)(zE:∀w,(Go.sizeOf (ρ.t 24)).run P w=.ok k w)(eg:∀args w,(callFunc g args).run P w=.ok (.enter g args) w)
  {x:Cx} (hok:x.ok) (hc:∀a b r,cmp a b=some r->AY P g [.agg ((row a).map .r),.agg ((row b).map .r)] (.r (.int .i64 r))) {xs l:List τ} (hs:IA cmp xs=some l) {e:TypeId} {blk cap:Nat} {us:List Value}
  (hlt:blk<x.w.heap.size) (hblk:¬ x.S blk) (hk:0<k) (hrow:∀a∈xs,(row a).length=k) (hown:x.w.ownsRow 0 e k (.slice (some ⟨blk,0,none⟩) xs.length cap) xs.length us)
  (hcell:∀i a c d,xs[i]?=some a->(row a)[c]?=some d->∃u,us[i * k+c]?=some u/\A4 x.w x.S d u) :
  Calls P (ρ.f 6) #[.slice (some ⟨blk,0,none⟩) xs.length cap,.func (.func g) #[] #[]] x.w λe' w'=>e'=.returned (.tuple #[]) /\
   x.w.heap.size<=w'.heap.size/\w'.os=x.w.os/\w'.tape=x.w.tape/\w'.output=x.w.output/\(∀b,b<x.w.heap.size->b≠blk->w'.heap[b]?=x.w.heap[b]?) /\
   ∃us',w'.ownsRow 0 e k (.slice (some ⟨blk,0,none⟩) xs.length cap) xs.length us'/\∀i a c d,l[i]?=some a->(row a)[c]?=some d->∃u,us'[i * k+c]?=some u/\A4 x.w x.S d u:=by
 obtain⟨h0,cf,h1,h2,h3,h4,h5⟩:=QO hs
 obtain⟨hul,hown'⟩:=hown
 obtain⟨hv,_⟩ | ⟨gg,cap',cur,hv,_,hh,hcap,hm,hcur,htake⟩:=hown'
 .cases hv
 simp only[Value.slice.injEq,xF,Addr.mk.injEq,zt] at hv
 obtain⟨rfl,_,rfl⟩:=hv
 rcases Nat.eq_zero_or_pos xs.length with hz | hpos
 ·
  have hx:xs=[]:=zy.1 hz
  subst hx
  have hl:l=[]:=List.perm_nil.1 h4
  subst hl
  refine(AnyF.slices_SortFunc_none L (some ⟨blk,0,none⟩) cap (.func (.func g) #[] #[]) x.w).mono λe' w' ⟨he,hw⟩=>?_
  subst hw
  exact⟨he,wy _,rfl,rfl,rfl,λ_ _ _=>rfl,us,⟨hul,.inr ⟨blk,cap,cur,rfl,yL _,hh,hcap,hm,hcur,htake⟩⟩,λi a c d h=>by simp at h⟩
 .have hfit:∀i,i<xs.length->i * k+k<=us.length:=λi hi=>by
   rw[hul]
   have:=xi k (show i+1<=xs.length from hi);rwa [yU,yn] at this
  have p1:∀i:Fin xs.length,((us.drop (i.val * k)).take k).length=k:=λi=>by
   have:=hfit i.val i.isLt
   rw[yZ,WAc];omega
  have p3:∀(i:Fin xs.length) (c:Nat) (dd:RV) (u:Value),(row xs[i])[c]?=some dd->((us.drop (i.val * k)).take k)[c]?=some u->A4 x.w x.S dd u:=λi c dd u hd hu=>by
   obtain⟨u',e1,e2⟩:=hcell i.val xs[i] c dd (wz i.isLt) hd
   rw[xn,xr] at hu
   split at hu
   .rw[e1] at hu;cases hu;exact e2
   .cases hu
  let d:Array (El x row k):=Array.ofFn (n:=xs.length) λi=>(⟨xs[i],(us.drop (i.val * k)).take k,p1 i,hrow _ (xw i.isLt),p3 i⟩:El x row k)
  have hds:d.size=xs.length:=by simp[d]
  have hdt:∀i (hi:i<d.size),d[i].t=xs[i]'(by rw[<- hds];exact hi):=λi hi=>by simp[d]
  have hdu:∀i (hi:i<d.size),d[i].us=(us.drop (i * k)).take k:=λi hi=>by simp[d]
  haveI:Inhabited (El x row k):=⟨d[0]'(by rw[hds];exact hpos)⟩
  have hek:∀a:El x row k,a.us.length=k:=λa=>a.hl
  have hH:HoldsK (λa:El x row k=>a.us) k x.w blk 0 d:=by
   intro j hj
   rw[size_flatK,hds] at hj
   have e1:j / k<xs.length:=(WAL hk).2 hj
   have e2:j % k<k:=Nat.mod_lt _ hk
   have e3:j=j / k * k+j % k:=by rw[zJ];exact(Nat.div_add_mod j k).symm
   have hg:(flatK (λa:El x row k=>a.us) k d)[j]?=us[j]?:=by
    rw[e3,Zi (k:=k) (λa:El x row k=>a.us) d hek (by rw[hds];exact e1) e2]
    rw[hdu,xn,ww e2,xr]
   have hj2:j<us.length:=by rw[hul];exact hj
   have hj3:j<(flatK (λa:El x row k=>a.us) k d).size:=by rw[size_flatK,hds];exact hj
   have hval:(flatK (λa:El x row k=>a.us) k d)[j]! = us[j]:=by
    rw[xg _ j hj3]
    rw[xe hj3,wz hj2] at hg
    exact xh hg
   refine⟨?_,?_⟩
   .rw[hval]
    unfold World.cell?
    simp only[hh,xd,Option.isSome_none,zb,WAF]
    have:us[j]?=cur[j]?:=by
     rw[<- htake,xn,ww hj,xo]
    rw[<- this,wz hj2];rfl
   .unfold World.frozen?
    simp[hh]
  have hcon:=AnyQ.slices_SortFunc L k aE zE (λa:El x row k=>a.us) hek (λa=>a.one) (λa b=>cf a.t b.t) (rm h2) g #[] blk 0 cap d x.w eg (lZ hok (λa b=>hc a b _ (h1 a b)) hblk d.size) hH hlt (by rw[hds];exact h0)
  rw[hds] at hcon
  refine hcon.mono λe' w' ⟨he,d',n,os,hp,hso,hw⟩=>?_
  subst hw
  obtain⟨f1,f2,f3,f4,f5,f6⟩:=Zy (λa:El x row k=>a.us) k x.w blk n d' os
  obtain⟨hps,_,hpp⟩:=hp
  have hdl:d'.toList.map (·.t)=l:=by
   have e1:d'.extract 0 xs.length=d':=by rw[<- hds,<- hps];exact Array.extract_size
   have e2:d.extract 0 xs.length=d:=by rw[<- hds];exact Array.extract_size
   rw[e1,e2] at hpp
   refine jt hs h1 ((hpp.map _).trans ?_) ?_
   .have:d.toList.map (·.t)=xs:=by
     apply yg
     intro i
     rw[xJ,xo]
     by_cases hi:i<d.size
     .rw[xe hi,yF,hdt i hi,wz]
     .rw[yx (by omega),yN (by omega)];rfl
    rw[this]
   .rw[zd,zG]
    intro i j hi hj hij
    have hj':j<d'.size:=by simpa using hj
    have hi':i<d'.size:=by simpa using hi
    have:=hso i j (yL _) hij (by rw[<- hds,<- hps];exact hj')
    rw[xg d' i hi',xg d' j hj'] at this
    simpa[ltOf] using this
  have hll:l.length=xs.length:=h4.length_eq
  have hcs:xs.length * k<=cur.size:=by rw[hcur];exact xi k hcap
  have hflat:(putCells id 0 (flatK (λa:El x row k=>a.us) k d') cur).toList.take (xs.length * k)=(flatK (λa:El x row k=>a.us) k d').toList:=by
   have hsf:(flatK (λa:El x row k=>a.us) k d').size=xs.length * k:=by rw[size_flatK,hps,hds]
   apply yg
   intro j
   rw[xn,xo,xo]
   split
   .rename_i hj
    unfold putCells
    have hjc:j<cur.size:=by omega
    have hjf:j<(flatK (λa:El x row k=>a.us) k d').size:=by omega
    rw[Array.getElem?_mapIdx,xe hjc,xe hjf,yF,ww ⟨yL _,by omega⟩]
    simp only[Nat.sub_zero,id]
    rw[xg _ j hjf]
   .rename_i hj
    rw[yx (by omega)]
  refine⟨he,f1,f2,f3,f4,f5,(flatK (λa:El x row k=>a.us) k d').toList,⟨?_,.inr ⟨blk,cap,putCells id 0 (flatK (λa:El x row k=>a.us) k d') cur,rfl,yL _,f6 cur e (0,0) hh,hcap,hm,?_,hflat⟩⟩,λi a c dd hi hd=>?_⟩
  .simp[hps,hds]
  .rw[<- hcur];simp[putCells]
  .rw[<- hdl,xJ,xo,xK] at hi
   obtain⟨el,hel,rfl⟩:=hi
   obtain⟨hi',rfl⟩:=xt.1 hel
   have hcl:c<k:=by
    have:=(wx.1 hd).1
    rw[(d'[i]).hrl] at this;exact this
   have hcu:c<(d'[i]).us.length:=by rw[(d'[i]).hl];exact hcl
   refine⟨(d'[i]).us[c],?_,(d'[i]).hr c dd _ hd (wz hcu)⟩
   rw[xo,Zi (k:=k) (λa:El x row k=>a.us) d' hek hi' hcl,wz hcu]
structure Ux(P:Program)(f:FuncId)(k:Nat):Prop where
 call:Gt P f
 ex:∃ρ:Ren,ρ.f 6=f/\SlLaysF0.n6 P ρ/\(∀w,(isAgg (ρ.t 24)).run P w=.ok true w)/\∀w,(Go.sizeOf (ρ.t 24)).run P w=.ok k w
theorem aN{g}(h:Gt P g):∀args w,(callFunc g args).run P w=.ok (.enter g args) w:=by
 obtain⟨fn,j,l,m⟩:=h
 intro args w
 simp only[callFunc,Sem.run_bind,run_program,Result.andThen_ok,j,m,l]
 rfl
theorem wI{f}(L:Ux P f k)(hk:0<k)(A:∀a,(row a).length=k)(hg:Gt P g)(hc:∀a b r,cmp a b=some r->AY P g [.agg ((row a).map .r),.agg ((row b).map .r)] (.r (.int .i64 r))){B}{e}{xs l:List τ}(Z:IA cmp xs=some l) :
  BI P f 1 [.own 1000 B,.fn g []] [(1000,some (.arr B e k (xs.map row)))] (λr h'=>∃i:Nat->Nat,r=.tup []/\h'=[(1000,some (.arr B e k (l.map row)))]):=by
 obtain⟨M,ρ,hf,hL,aE,zE⟩:=L
 refine⟨M,λx vs m hH ha=>?_⟩
 subst hf
 have j:x.H 1000=some (.arr B e k (xs.map row)):=by rw[hH];rfl
 obtain⟨a0,h0,aa,ab,V,O,C,E⟩:=m.obj _ _ j
 obtain⟨v1,X,rfl⟩:∃v1 X,vs = #[v1,X]:=by
  have:=ha.1
  match vs,this with
  | ⟨[a,b]⟩,_=>exact⟨a,b,rfl⟩
 have a1:=ha.2 0 _ v1 rfl rfl
 have a2:=ha.2 1 _ X rfl rfl
 have e2:X=.func (.func g) #[] #[]:=by
  generalize a6:([]:List AV)=cs at a2
  cases a2 with
  | fn hl _=>
   subst a6
   have:∀V:Array Value,[].length (α:=AV)=V.size->V = #[]:=λV h=>WAT h.symm
   rw[this _ hl]
 have T:Bh (x.β 1000) (xs.map row).length v1:=by
  cases a1 with
  | own _ _ h=>exact h _ j rfl
 subst e2
 rw[xk] at O C T
 cases I:x.β 1000 with
 | none=>
  rw[I] at O T
  obtain⟨hz,_⟩:=O
  obtain⟨_,rfl⟩:=T
  have hx:xs=[]:=zy.1 hz
  subst hx
  have hl:l=[]:=List.perm_nil.1 (QO Z).2.choose_spec.2.2.2.1
  subst hl
  refine(AnyF.slices_SortFunc_none hL none 0 (.func (.func g) #[] #[]) x.w).mono λe' w' ⟨he,hw⟩=>?_
  subst hw
  exact⟨_,x,.tup [],_,he,rfl,Cx.le.refl x,m,hH,.tup rfl (λi c u h=>by simp at h),rfl,rfl,λ_=>B,rfl,rfl⟩
 | some p=>
  obtain⟨blk,cap⟩:=p
  rw[I] at O T
  cases O;cases T
  have w:=m.own 1000 _ blk cap j I
  have F:l.length=xs.length:=(QO Z).2.choose_spec.2.2.2.1.length_eq
  refine(Y2 hL aE zE (aN hg) m hc Z w.1 w.2.1 hk (λa _=>A a) C λi a c d q hd=>E i (row a) c d (by rw[xJ,q];rfl) hd).mono λe' w' ⟨he,f1,f2,f3,f4,f5,a7,f6,f7⟩=>?_
  have U:=ES m 1000 (.arr B e k (l.map row)) w' (some (blk,cap)) x.n f1 f2 f3 f4
   (λb J a8=>f5 b J λe=>a8 _ cap j (by rw[e];exact I))
   (λb k' J=>by cases J;exact⟨xD w.1 f1,.inr ⟨_,cap,j,I⟩⟩)
   (wy _) a0 (λ_=>⟨_,j,rfl,by simp[AU.shape,F],I.symm⟩)
   (λac=>⟨hk,λr hr=>by obtain⟨a,_,rfl⟩:=yT.1 hr;exact A a,.slice (some ⟨blk,0,none⟩) xs.length cap,a7,by rw[xk,F];rfl,by rw[xk,F];exact f6,
    λi r c d q hd=>by
     rw[xJ,xK] at q
     obtain⟨a,q,rfl⟩:=q
     obtain⟨u,k1,k2⟩:=f7 i a c d q hd
     exact⟨u,k1,k2.mono (λb J=>f5 b (m.S_lt b J) λe=>w.2.1 (by rw[<- e];exact J)) λ_ h=>h⟩⟩)
  refine⟨_,_,.tup [],[(1000,some (.arr B e k (l.map row)))],he,rfl,U.1,U.2,?_,.tup rfl (λi c u h=>by simp at h),rfl,rfl,λ_=>B,rfl,rfl⟩
  simp only[hH]
  funext i
  by_cases q:1000=i
  .subst q;rfl
  .rw[wv q,BG,wv q,BG,wv q]
noncomputable def Lg(cmp:τ->τ->Option Int)(m:List (Int × List τ))(q:Int):Option (List (Int × List τ)):=
 match AR m q with
 | none=>some m
 | some xs=>(IA cmp xs).map λl=>Am m q l
theorem wO{f}(L:Ux P f k)(hk:0<k)(T:∀a,(row a).length=k)(hg:Gt P g)(hc:∀a b r,cmp a b=some r->AY P g [.agg ((row a).map .r),.agg ((row b).map .r)] (.r (.int .i64 r))){U ve}{e:TypeId}{m m':List (Int × List τ)}{q}(J:Lg cmp m q=some m') :
  BI P f 1 [.fo 1000 U ve q,.fn g []] [(1000,some (.mr U ve e k none (Ap (λ(l:List τ)=>l.map row) m)))] (λr h'=>∃i:Nat->Nat,r=.tup []/\h'=[(1000,some (.mr U ve e k none (Ap (λ(l:List τ)=>l.map row) m')))]):=by
 obtain⟨a7,ρ,hf,hL,aE,zE⟩:=L
 refine⟨a7,λx vs A hH ha=>?_⟩
 subst hf
 have w:x.H 1000=some (.mr U ve e k none (Ap (λ(l:List τ)=>l.map row) m)):=by rw[hH];rfl
 obtain⟨v1,v2,rfl⟩:∃v1 v2,vs = #[v1,v2]:=by
  have:=ha.1
  match vs,this with
  | ⟨[a,b]⟩,_=>exact⟨a,b,rfl⟩
 have a1:=ha.2 0 _ v1 rfl rfl
 have a2:=ha.2 1 _ v2 rfl rfl
 have e2:v2=.func (.func g) #[] #[]:=by
  generalize ai:([]:List AV)=cs at a2
  cases a2 with
  | fn hl _=>
   subst ai
   have:∀us:Array Value,[].length (α:=AV)=us.size->us = #[]:=λus h=>WAT h.symm
   rw[this _ hl]
 subst e2
 rcases N9 A w a1 with ⟨_,rfl,hn⟩ | ⟨j,rs,blk,cap,us,hj,a8,av,hR,rfl⟩
 .rw[Lz,Option.map_eq_none_iff] at hn
  unfold Lg at J
  rw[hn] at J
  cases J
  refine(AnyF.slices_SortFunc_none hL none 0 (.func (.func g) #[] #[]) x.w).mono λe' w' ⟨he,hw⟩=>?_
  subst hw
  exact⟨_,x,.tup [],_,he,rfl,Cx.le.refl x,A,hH,.tup rfl (λi c u h=>by simp at h),rfl,rfl,λ_=>U,rfl,rfl⟩
 .rw[Lz,xK] at a8
  obtain⟨xs,aa,rfl⟩:=a8
  unfold Lg at J
  rw[aa] at J
  simp only[xK] at J
  obtain⟨l,J,rfl⟩:=J
  obtain⟨r1,r2,r3,r4⟩:=hR
  rw[xk] at r3
  have C:=A.ext 1000 _ j blk cap w r2
  obtain⟨aj,_⟩:=A.obj _ _ w
  obtain⟨h0,hv,b,es,h1,h2,h3,h4⟩:=Jy A w
  have V:l.length=xs.length:=(QO J).2.choose_spec.2.2.2.1.length_eq
  have ab:b≠blk:=λe=>C.2.2.2.1 1000 _ 1 w (by rw[h1,e])
  rw[xk]
  refine(Y2 hL aE zE (aN hg) A hc J C.1 C.2.1 hk (λa _=>T a) r3 λi a c d F hd=>r4 i (row a) c d (by rw[xJ,F];rfl) hd).mono λe' w' ⟨he,f1,f2,f3,f4,f5,ak,f6,f7⟩=>?_
  have al:Ao m q=some j:=by
   have:=VY (λp:Int × List τ=>(p.1,p.2.map row)) (λ_=>rfl) m q
   rw[<- this];exact hj
  obtain⟨aw,X,ac,ad⟩:=DT al
  rw[aa] at ac;cases ac
  have ae:(Am m q l).length=m.length:=by rw[ad,yh]
  have hget:∀i:Nat,(Am m q l)[i]?=if i=j then some (q,l) else m[i]?:=λi=>by
   rw[ad,yC]
   by_cases B:j=i
   .subst B
    have:j<m.length:=(wx.1 X).1
    simp[this]
   .rw[wv B,wv (λe=>B e.symm)]
  have af:=HB A 1000 (.mr U ve e k none (Ap (λ(l:List τ)=>l.map row) (Am m q l))) w' (some (b,1)) (x.K 1000) x.n f1 f2 f3 f4
   (λb2 I an=>f5 b2 I λe=>an _ w (.inr ⟨j,cap,by rw[e];exact r2⟩))
   (λb2 Z I=>by cases I;exact⟨xD (A.own 1000 _ b 1 w h1).1 f1,.inr ⟨_,w,.inl ⟨1,h1⟩⟩⟩)
   (λM b2 Z I=>by
    have hx:=A.ext 1000 _ M b2 Z w I
    exact⟨⟨xD hx.1 f1,.inr ⟨_,w,.inr ⟨M,Z,I⟩⟩⟩,λk3 a0=>by cases a0;exact hx.2.2.2.1 1000 _ 1 w h1,λj3 k3 a0=>(hx.2.2.2.2 1000 _ j3 k3 w a0).2⟩)
   (wy _) aj (λ_=>⟨_,w,rfl,rfl,h1.symm⟩)
   (λ_ _ _=>⟨_,w,rfl,rfl,rfl,by
    apply yg
    intro i
    simp only[AU.kshape,Ap,xJ,hget]
    by_cases B:i=j
    .subst B;rw[ww rfl,X];simp[V]
    .rw[wv B],rfl⟩)
   (λax=>by
    refine CL.mr (id:=1000) (λM=>by simp) h0 hv ((f5 b (A.own 1000 _ b 1 w h1).1 ab).trans h2) (by rw[show(Ap (λ(l:List τ)=>l.map row) (Am m q l)).length=(Ap (λ(l:List τ)=>l.map row) m).length by simp[Ap,ae]];exact h3) λM q2 ao ag=>?_
    simp only[Ap,xJ,hget,xK] at ag
    obtain⟨p2,O,a6⟩:=ag
    by_cases B:M=j
    .subst B
     rw[ww rfl] at O
     cases O
     simp only[xM] at a6
     obtain⟨rfl,rfl⟩:=a6
     obtain⟨bb,E,ah,⟨_,g2,_,_⟩,g5⟩:=h4 M q (xs.map row) (by simp[Ap,xJ,X])
     rw[r2] at g2;cases g2
     refine⟨blk,cap,ak,⟨λr hr=>by obtain⟨a,_,rfl⟩:=yT.1 hr;exact T a,by simpa using r2,by rw[xk,V];exact f6,λi r c d F hd=>?_⟩,?_⟩
     .rw[xJ,xK] at F
      obtain⟨a,F,rfl⟩:=F
      obtain⟨u,k1,Z⟩:=f7 i a c d F hd
      exact⟨u,k1,Z.mono (λb hb=>f5 b (A.S_lt b hb) λe=>C.2.1 (by rw[<- e];exact hb)) λ_ h=>h⟩
     .rw[xk] at g5 ⊢
      rw[V];exact g5
    .rw[wv B] at O
     obtain⟨bb,E,ah,⟨g1,g2,g3,g4⟩,g5⟩:=h4 M q2 ao (by simp only[Ap,xJ,O,yF,a6])
     have aq:bb≠blk:=λe=>B (A.ext 1000 _ j blk cap w r2 |>.2.2.2.2 1000 _ M E w (by rw[<- e];exact g2)).2
     have ar:=A.ext 1000 _ M bb E w g2
     refine⟨bb,E,ah,⟨g1,by simpa using g2,?_,λi r c d F hd=>?_⟩,g5⟩
     .obtain⟨o1,o2⟩:=g3
      refine⟨o1,?_⟩
      rcases o2 with o2 | ⟨g',c',au,p1,p2,p3,p4⟩
      .exact .inl o2
      .simp only[Value.slice.injEq,xF,Addr.mk.injEq,zt] at p1
       obtain⟨rfl,_,rfl⟩:=p1
       exact .inr ⟨bb,E,au,rfl,p2,(f5 bb ar.1 aq).trans p3,p4⟩
     .obtain⟨u,k1,Z⟩:=g4 i r c d F hd
      exact⟨u,k1,Z.mono (λb hb=>f5 b (A.S_lt b hb) λe=>C.2.1 (by rw[<- e];exact hb)) λ_ h=>h⟩)
  refine⟨_,_,.tup [],[(1000,some (.mr U ve e k none (Ap (λ(l:List τ)=>l.map row) (Am m q l))))],he,rfl,af.1,af.2,?_,.tup rfl (λi c u h=>by simp at h),rfl,rfl,λ_=>U,rfl,rfl⟩
  simp only[hH]
  funext i
  by_cases F:1000=i
  .subst F;rfl
  .rw[wv F,BG,wv F,BG,wv F]
end
end Go.Proofs.YtcgleifameckmaaGreatDoor.Al

set_option linter.unusedVariables false
namespace Go.Proofs.YtcgleifameckmaaGreatDoor.Al
open Go.Shelf Go.RowKit Go.Lib Go.Sort
section
variable{P:Program}
end
end Go.Proofs.YtcgleifameckmaaGreatDoor.Al

namespace Go.Proofs.YtcgleifameckmaaGreatDoor.Al
section
variable{P:Program}{c:Bool}{o:Oper}{R:Aa}{h:AL}{n:Nat}
theorem p8{x:Cx}(l:x.ok) id(s:List UInt8) :
  ∃y:Cx,x.le y/\y.ok/\y.w=x.w.alloc (.stringIter ⟨s.toArray⟩ 0)/\y.H=(λi=>if id=i then some (.it x.n s 0) else x.H i)/\y.n=x.n+1 /\
   AP y (.ptr id x.n 0 0) (.pointer (some ⟨x.w.heap.size,0,none⟩)):=by
 have:=ES l id (.it x.n s 0) (x.w.alloc (.stringIter ⟨s.toArray⟩ 0)) (some (x.w.heap.size,1)) (x.n+1) (by simp) rfl rfl rfl
  (λb m _=>heap_alloc_old _ _ m) (λb k m=>by cases m;simp) (by omega) (by simp[AU.gen]) (λhg=>absurd hg (by simp[AU.gen]))
  (λq=>⟨x.w.heap.size,rfl,heap_alloc_new _ _⟩)
 refine⟨_,this.1,this.2,rfl,rfl,rfl,.ptr (by simp) rfl λw j _=>?_⟩
 simp only[ww] at j
 cases j
 exact⟨x.w.heap.size,1,by simp,by simp⟩
theorem nZ{t}{x}{s} id(q:o.op=.range t x)(A:P.underlying t=some .string)(B:Ev c R x (.r (.str s))) :
  Az P c o R h n (.ptr id n 0 0) ((id,some (.it n s 0))::h) (n+1):=by
 intro C z w l E m F K Q I
 obtain⟨y,J,M,O,T,U,V⟩:=p8 l id s
 have j:=B.rep F C
 generalize X:w.eval x=v at j
 cases j with
 | r j=>
  cases j with
  | str s=>
   unfold Oper.wp execOp
   rw[q]
   simp only[X,Sem.run_bind,run_range_string _ _ _ A,Result.andThen_ok,Sem.run_pure]
   have:=I (.pointer (some ⟨z.w.heap.size,0,none⟩)) y J M (by rw[T,E,m,Ck]) (by rw[U,m]) (by rw[<- m];exact V)
   rw[O] at this
   exact this
theorem gP{x:Cx}(j:x.ok){id g pos}{s:List UInt8}{v}(q:x.H id=some (.it g s pos))(l:AP x (.ptr id g 0 0) v) :
  ∃b,x.β id=some (b,1)/\v=.pointer (some ⟨b,0,none⟩)/\x.w.heap[b]?=some (.stringIter ⟨s.toArray⟩ pos):=by
 obtain⟨_,b,w,A⟩:=j.obj _ _ q
 cases l with
 | ptr _ _ l=>
  obtain⟨C,cap,m,B⟩:=l _ q rfl
  rw[w] at m
  simp only[xF,xM] at m
  obtain⟨rfl,rfl⟩:=m
  exact⟨b,w,by rw[B,zM],A⟩
theorem jp{x}{id g pos}{s:List UInt8}(E:o.op=.next x true)(F:Ev c R x (.ptr id g 0 0))(I:hget h id=some (.it g s pos))(hp:c=true->decide (pos<s.length)=false) :
  Az P c o R h n (.tup [.r (.bool false)]) h n:=by
 intro A z w j B J M K Q O
 obtain⟨b,V,T,U⟩:=gP j (by rw[B];exact I) (F.rep M A)
 have m:¬ pos<(⟨s.toArray⟩:ByteArray).size:=by
  have:=of_decide_eq_false (hp A)
  simpa[ByteArray.size] using this
 unfold Oper.wp execOp
 rw[E]
 have l:(Instr.next (.pointer (some ⟨b,0,none⟩)) true o.type).run P z.w=.ok (.tuple #[.bool false]) z.w:=by
  simp[Instr.next,getObj,Sem.run,U,m]
 simp only[T,Sem.run_bind,l,Result.andThen_ok,Sem.run_pure]
 refine O (.tuple #[.bool false]) z (Cx.le.refl z) j B J (.tup rfl λi a u q C=>?_)
 rcases i with _ | i
 .simp at q C;subst q;subst C;exact .r (.bool false)
 .simp at q
theorem rp{x}{id g pos}{s:List UInt8}(V:o.op=.next x true)(X:Ev c R x (.ptr id g 0 0))(Z:hget h id=some (.it g s pos))(hp:c=true->decide (pos<s.length)=true) :
  Az P c o R h n (.tup [.r (.bool true),.r (.int .i64 (pos:Int)),.r (.int .i32 ((GE s pos).1:Int))]) ((id,some (.it g s (pos+(GE s pos).2)))::h) n:=by
 intro J z w l M hn he K Q hK
 have j:z.H id=some (.it g s pos):=by rw[M];exact Z
 obtain⟨b,C,h2,O⟩:=gP l j (X.rep he J)
 have E:pos<(⟨s.toArray⟩:ByteArray).size:=by
  have:=z6 (hp J)
  simpa[ByteArray.size] using this
 have T:=(l.own id _ b 1 j C).1
 have A:=ES l id (.it g s (pos+(GE s pos).2)) { z.w with heap:=z.w.heap.setIfInBounds b (.stringIter ⟨s.toArray⟩ (pos+(GE s pos).2)) } (some (b,1)) z.n (by simp) rfl rfl rfl
  (λU _ F=>by
   have:b≠U:=λe=>F _ 1 j (by rw[<- e];exact C)
   simp[this])
  (λU k' I=>by cases I;exact⟨by simpa using T,.inr ⟨_,_,j,C⟩⟩) (wy _) (l.obj _ _ j).1 (λ_=>⟨_,j,rfl,rfl,C.symm⟩)
  (λa0=>⟨b,rfl,by simp[T]⟩)
 unfold Oper.wp execOp
 rw[V]
 have B:(Instr.next (.pointer (some ⟨b,0,none⟩)) true o.type).run P z.w=.ok (.tuple #[.bool true,.int .i64 (pos:Int),.int .i32 ((GE s pos).1:Int)]) { z.w with heap:=z.w.heap.setIfInBounds b (.stringIter ⟨s.toArray⟩ (pos+(GE s pos).2)) }:=by
  simp only[Instr.next,getObj,setObj,Sem.run_bind,Sem.run,O,Result.andThen,E,zm]
  simp[goInt,Sem.run,O,GE]
 simp only[h2,Sem.run_bind,B,Result.andThen_ok,Sem.run_pure]
 refine hK _ _ A.1 A.2 (by simp only[M];exact Ck _ _ _) hn (.tup rfl λi a u m q=>?_)
 rcases i with _ | _ | _ | i
 .simp at m q;subst m;subst q;exact .r (.bool true)
 .simp at m q;subst m;subst q;exact .r (.int _ _)
 .simp at m q;subst m;subst q;exact .r (.int _ _)
 .simp at m
theorem AW.split{Q}{s}{x} b(j:b=true->AW P x Q s)(l:b=false->AW P x Q s):AW P x Q s:=by
 cases b
 .exact l rfl
 .exact j rfl
end
section
variable{P:Program}{c:Bool}{o:Oper}{R:Aa}{h:AL}
end
open Go.Shelf Go.RowKit Go.Lib
theorem Xi{P}{f}{args}{r:AV}(hc:Gt P f)(E:r.closed=true)
 (h:∀(x:Cx) (B:Array Value), x.ok->Fy x args B.toList->Calls P f B x.w λe w' => ∃u, e=.returned u/\Below x.w.heap.size x.w w'/\∀y:Cx, AP y r u):AY P f args r := by
  refine⟨hc, E, λx B l C I => (h x B l I).mono λe w' ⟨u, J, q, M⟩ => ?_⟩
  have A:x.le { x with w := w' } := by
    refine⟨q.size, q.os, q.tape, q.output, λb F => q.block b (F.elim (l.S_lt b) (l.F_lt b)), λ_ h => h, rfl, wy _, λid o m _ => ⟨o, m, rfl, rfl, rfl⟩, λid o m O _ _ => ⟨o, m, O, rfl, rfl, rfl, rfl⟩⟩
  refine⟨u, { x with w := w' }, J, rfl, A, ⟨λb w => xD (l.S_lt b w) q.size, λb w => xD (l.F_lt b w) q.size, l.SF, λid o m => ?_, λid o b k m => ?_, λid T o U b k V m => ?_, λid o j b c m => ?_, l.tabs.le A⟩, M _⟩
  · exact absurd (show x.H id=some o from m) (by rw[C];simp)
  · exact absurd (show x.H id=some o from m) (by rw[C];simp)
  · exact absurd (show x.H id=some o from m) (by rw[C];simp)
  · exact absurd (show x.H id=some o from m) (by rw[C];simp)
theorem WD{x:Cx}(B:EH x){g}{row}(hg:HP g=some row){j}{k}{z}(l:row[j]?=some (.int k z)):x.w.cell? ⟨g,j,none⟩=some (.int k z):=by
 have h:=B.tab g row hg
 generalize m:(Value.pointer (some ⟨g,0,none⟩))=v at h
 cases h with
 | rop u F C E=>
  rename_i b off
  simp only[Value.pointer.injEq,xF,Addr.mk.injEq,zt,yG] at m
  obtain⟨rfl,rfl⟩:=m
  have q:=C j _ l
  have A:=E j _ l
  rw[xd] at q
  rw[q]
  generalize u j=w at A
  cases A;rfl
theorem pK:∀c,c<256->(GH.flatMap λz=>[RV.int .u8 z])[c]?=some (.int .u8 (Lib.firstT c:Int)):=by
 have h:∀c:Fin 256,GH[c.val]?=some (Lib.firstT c.val:Int):=by decide +kernel
 intro c hc
 have h1:∀(l:List Int) (j:Nat),(l.flatMap λz=>[RV.int .u8 z])[j]?=(l[j]?).map (RV.int .u8):=by
  intro l
  induction l with
  | nil=>intro j;simp
  | cons a l ih=>intro j;cases j with
   | zero=>simp
   | succ j=>simpa using ih j
 rw[h1,h ⟨c,hc⟩];rfl
theorem Xs:∀i,i<16->(Je.flatMap λp=>[RV.int .u8 p.1,RV.int .u8 p.2])[2 * i]?=some (.int .u8 (Lib.accLo i:Int))/\(Je.flatMap λp=>[RV.int .u8 p.1,RV.int .u8 p.2])[2 * i+1]?=some (.int .u8 (Lib.accHi i:Int)):=by
 have h:∀c:Fin 16,Je[c.val]?=some ((Lib.accLo c.val:Int),(Lib.accHi c.val:Int)):=by decide +kernel
 intro i hi
 have h1:∀(l:List (Int × Int)) (j:Nat),(l.flatMap λp=>[RV.int .u8 p.1,RV.int .u8 p.2])[2 * j]?=(l[j]?).map (λp=>RV.int .u8 p.1)/\(l.flatMap λp=>[RV.int .u8 p.1,RV.int .u8 p.2])[2 * j+1]?=(l[j]?).map (λp=>RV.int .u8 p.2):=by
  intro l
  induction l with
  | nil=>intro j;simp
  | cons a l ih=>intro j;cases j with
   | zero=>simp
   | succ j=>
    have:=ih j
    rw[show 2 * (j+1)=2 * j+1+1 by omega]
    simpa using this
 rw[(h1 _ _).1,(h1 _ _).2,h ⟨i,hi⟩]
 exact⟨rfl,rfl⟩
theorem pp{x:Cx}(j:x.ok)(l:IU≠Ik):Lib.Utf8Tabs IU Ik x.w:=by
 have q:HP IU=some (GH.flatMap λz=>[.int .u8 z]):=by unfold HP;rw[ww rfl]
 have hA:HP Ik=some (Je.flatMap λp=>[.int .u8 p.1,.int .u8 p.2]):=by unfold HP;rw[wv (λe=>l e.symm),ww rfl]
 exact⟨λc w=>WD j.tabs q (pK c w),λi m=>⟨WD j.tabs hA (Xs i m).1,WD j.tabs hA (Xs i m).2⟩⟩
theorem wM{P}{ρ:Ren}{f}(L:Go.Proofs.Lays.n196 P ρ)(w:ρ.f 196=f)(A:ρ.g 3=IU)(B:ρ.g 4=Ik)(hc:Gt P f){s}{r}(h:TG s=some r) :
  AY P f [.r (.str s)] (.r (.bool r)):=by
 subst w
 refine Xi hc rfl λx q j l=>?_
 unfold TG at h
 split at h
 .rename_i C
  cases h
  have J:=l
  obtain⟨v,E⟩:∃v,q = #[v]:=by
   have:=l.1
   match q,this with
   | ⟨[v]⟩,_=>exact⟨v,rfl⟩
  subst E
  have m:=l.2 0 (.r (.str s)) v rfl rfl
  cases m with
  | r m=>
   cases m with
   | str s=>
    refine(Any.utf8_ValidString L s x.w (by rw[Lib.size_eq];exact C) (by rw[A,B];exact pp j (by decide))).mono λe w' ⟨F,I⟩=>?_
    exact⟨_,F,I,λy=>.r (.bool _)⟩
 .cases h
end Go.Proofs.YtcgleifameckmaaGreatDoor.Al

namespace Go.Proofs.YtcgleifameckmaaGreatDoor.Al
open Go.Shelf Go.RowKit Go.Lib
theorem sN{x}{b}{v}(h:AP x (.ifc b) v):(b=true/\v=.nilIface)\/(b=false/\∃t u,v=.iface t u):=by
 cases h with
 | ifc l h j=>
  cases b
  .exact .inr ⟨rfl,j rfl⟩
  .exact .inl ⟨rfl,h rfl⟩
theorem tt{P}{op}{t}{x}{a}{w}(h:a=.nilIface\/∃t u,a=.iface t u):(eqGuard op t x (.const .nilIface) a .nilIface).run P w=.ok () w:=by
 unfold eqGuard
 rcases h with rfl | ⟨t,u,rfl⟩
 .cases op<;>simp[go_sem]
 .cases op<;>simp[go_sem]
theorem gS{P}{c}{o:Oper}{R}{h}{op}{t q}{x}{b r}(A:o.op=.binOp op t x (.const .nilIface) q)(B:Ev c R x (.ifc b))
 (C:∀w a, (b=true/\a=.nilIface)\/(b=false/\∃t u, a=.iface t u)->(binOp op t a .nilIface).run P w=.ok (.bool r) w):AS P c o R h (.r (.bool r)) := by
  intro E z a _ _ F
  have l := sN (B.rep F E)
  refine⟨.bool r, λm I => ?_, .r (.bool _)⟩
  unfold execOp
  rw[A]
  have hg:(eqGuard op t x (.const .nilIface) (a.eval x) .nilIface).run P m=.ok () m := tt (l.imp (λh => h.2) (λh => h.2))
  have j:a.eval (.const .nilIface)=.nilIface := rfl
  simp only[j, Sem.run_bind, hg, Result.andThen_ok, C _ _ l]
  simp[go_sem]
theorem lX{P:Program}{c}{o:Oper}{R}{h}{t l}{x}{b}(m:o.op=.binOp .neq t x (.const .nilIface) l)(j:P.underlying t=some (.interface (P.methodsAt t)))(q:Ev c R x (.ifc b)):AS P c o R h (.r (.bool (!b))):=by
 refine gS m q λw a A=>?_
 rcases A with ⟨rfl,rfl⟩ | ⟨rfl,B,u,rfl⟩
 .simp[binOp,run_equal_nil_nil w t j]
 .simp[binOp,run_equal_held_nil w t B u j]
theorem iI{P:Program}{c}{o:Oper}{R}{h}{t l}{x}{b}(m:o.op=.binOp .eql t x (.const .nilIface) l)(j:P.underlying t=some (.interface (P.methodsAt t)))(q:Ev c R x (.ifc b)):AS P c o R h (.r (.bool b)):=by
 refine gS m q λw a A=>?_
 rcases A with ⟨rfl,rfl⟩ | ⟨rfl,B,u,rfl⟩
 .simp[binOp,run_equal_nil_nil w t j]
 .simp[binOp,run_equal_held_nil w t B u j]
theorem ap{P:Program}{W:World}{w name}{g}{t}{C}{A d}(E:VarReads P W w A)(hd:A=.iface name d)(n1:P.globalNamed w=some g)
 (F:(P.globals[g]?).map (·.type)=some t) (I:P.underlying t=some (.interface C)):∃t p, W.cell? ⟨g, 0, none⟩=some (.iface t p) := by
  obtain⟨O, T, J, B, p, hg, m, j, q⟩ := E
  obtain rfl := xh (n1.symm.trans hg)
  obtain rfl := xh (F.symm.trans m)
  subst hd
  obtain⟨l⟩ := J
  obtain⟨_, u, v, e, _⟩ := Go.iface_of_trod I q
  have e:l=[.iface u v] := e
  subst e
  have M := World.var?_cell n1 j 0
  exact⟨u, v, by simpa using M⟩
noncomputable def atoiS(s:List UInt8):Option (Int × Bool):=
 if s.length<=281474976710656 then some (match Lib.atoiAll s with | .ok v=>(v,true) | .range=>(Lib.atoiSat s,false) | _=>(0,false)) else none
theorem AY.atoiS{P}{ρ:Ren}{f}(L:Go.Proofs.LaysC.n172 P ρ)(U:ρ.f 172=f)(w:ρ.g 15=YO)(A:ρ.g 16=aL)(hc:Gt P f){s:List UInt8}{r}(h:Al.atoiS s=some r) :
  AY P f [.r (.str s)] (.tup [.r (.int .i64 r.1),.ifc r.2]):=by
 subst U
 refine Xi hc rfl λx E B F=>?_
 unfold Al.atoiS at h
 split at h
 .rename_i I
  obtain⟨v,V⟩:∃v,E = #[v]:=by
   have:=F.1
   match E,this with
   | ⟨[v]⟩,_=>exact⟨v,rfl⟩
  subst V
  obtain rfl:=IM (F.2 0 (.r (.str s)) v rfl rfl)
  obtain⟨W0,⟨⟨X,Z,J⟩,⟨t2,p2,M⟩⟩,O,_⟩:=B.tabs.fact
  have e1:x.w.cell? ⟨ρ.g 15,0,none⟩=some (.iface X Z):=by rw[w];exact(O.cell (World.block_lt_of_cell? _ _ J)).trans J
  have e2:x.w.cell? ⟨ρ.g 16,0,none⟩=some (.iface t2 p2):=by rw[A];exact(O.cell (World.block_lt_of_cell? _ _ M)).trans M
  have hsz:(⟨s.toArray⟩:ByteArray).size=s.length:=by show s.toArray.size=_;simp
  have l:(⟨s.toArray⟩:ByteArray).data.toList=s:=by simp
  have j:∀(y:Cx) (k:Int) (b:Bool) (u:Value),AP y (.ifc b) u->AP y (.tup [.r (.int .i64 k),.ifc b]) (.tuple #[.int .i64 k,u]):=λy k b u hu=>by
   refine .tup rfl λi c v C T=>?_
   rcases i with _ | _ | i
   .cases C;cases T;exact .r (.int _ _)
   .cases C;cases T;exact hu
   .cases C
  rcases hA:Lib.atoiAll s with v | _ | _
  .rw[hA] at h;cases h
   refine(Any.strconv_Atoi_ok L ⟨s.toArray⟩ (by rw[hsz];omega) v (by rw[l];exact hA) x.w).mono λe w' ⟨m,q⟩=>⟨_,m,?_,λy=>j y _ _ _ (.ifc rfl (λ_=>rfl) (λe=>by cases e))⟩
   rcases q with rfl | ⟨t,rfl⟩
   .exact Below.refl _ _
   .exact Lib.bytesWorld_below _ _ _
  .rw[hA] at h;cases h
   refine(Any.strconv_Atoi_syntax L ⟨s.toArray⟩ (by rw[hsz];exact I) (by rw[l];exact hA) _ x.w e1 (.inr ⟨_,_,rfl⟩)).mono λe w' ⟨N,m,_,_,q⟩=>⟨_,m,q,λy=>j y _ _ _ (.ifc rfl (λe=>by cases e) (λ_=>⟨_,_,rfl⟩))⟩
  .rw[hA] at h;cases h
   refine(Any.strconv_Atoi_range L ⟨s.toArray⟩ (by rw[hsz];exact I) (by rw[l];exact hA) _ x.w e2 (.inr ⟨_,_,rfl⟩)).mono λe w' ⟨N,m,_,_,q⟩=>⟨_,by rw[l] at m;exact m,q,λy=>j y _ _ _ (.ifc rfl (λe=>by cases e) (λ_=>⟨_,_,rfl⟩))⟩
 .cases h
end Go.Proofs.YtcgleifameckmaaGreatDoor.Al

namespace Go.Proofs.YtcgleifameckmaaGreatDoor.Al
open Go.Shelf Go.RowKit Go.Lib Go.Sort
noncomputable def itoaS(n:Int):Option (List UInt8):=if -9223372036854775808<=n/\n<=9223372036854775807 then some (Lib.itoa n) else none
theorem vE(w:World)(k:Nat)(l:Array Obj):Below w.heap.size w (grow (w.drewN k) l):=by
 refine⟨rfl,rfl,rfl,?_,λj m=>?_⟩
 .show w.heap.size<=(w.heap++l).size
  simp
 .show(w.heap++l)[j]?=w.heap[j]?
  rw[zP m]
theorem AY.itoaS {P : Program} {ρ : Ren} {f} {g} (L : Go.Proofs.LaysM.n171 P ρ) (C : ρ.f 171 = f) (hg : P.globalNamed "internal/strconv.uint64pow10" = some g) (hw : TD g = some ((Lib.pow10Tab.map fun z => Value.int .u64 z).toArray)) (hc : Gt P f) {n} {r} (h : Al.itoaS n = some r) :
  AY P f [.r (.int .i64 n)] (.r (.str r)):=by
 subst C
 refine Xi hc rfl λx w l A=>?_
 unfold Al.itoaS at h
 split at h
 .rename_i B
  cases h
  obtain⟨v1,E⟩:∃v1,w = #[v1]:=by
   have:=A.1
   match w,this with
   | ⟨[v1]⟩,_=>exact⟨v1,rfl⟩
  subst E
  have m:=A.2 0 _ v1 rfl rfl
  cases m with
  | r m=>
  cases m with
  | int _ _=>
   have j : Lib.TabIs P x.w "internal/strconv.uint64pow10" .u64 Lib.pow10Tab := by
    obtain⟨_,_,t,p,F⟩:=l.tabs.whole g _ hw
    unfold Lib.TabIs World.var?
    rw[hg]
    simp only[yJ,F]
   exact(Any.strconv_Itoa L n B.1 B.2 x.w j).mono λe w' ⟨I,k,J,q⟩=>⟨_,I,q ▸ vE _ _ _,λy=>.r (.str ⟨(Lib.itoa n).toArray⟩)⟩
 .cases h
end Go.Proofs.YtcgleifameckmaaGreatDoor.Al

namespace Go.Proofs.YtcgleifameckmaaGreatDoor.Al
open Go.ChangeShapes Go.WideShapes Go.Deep Go.WideElems Go.RowKit
structure G8(H:Type) where
 B:DataW H->Nat
 one:∀d,1<=B d
 str:∀s:List UInt8,s.length+1<=B (.lit (.string s))
 sl:∀l r,(l.map B).sum+1<=B (.slice l r)
 agg:∀l,(l.map B).sum+1<=B (.agg l)
section
variable{H:Type}{enc:TypeId × Value->H}{P:Program}{W:World}(K:G8 H)
def Bg(enc:TypeId × Value->H)(P:Program)(W:World)(t:TypeId){α:Type}(f:α->List RV)(ok:α->Prop)(μ:α->Nat):Prop:=
 ∀(j:Nat) (l:List Value) (x:DataW H × List MemPlace),DataW.trod enc P W 0 (λ_=>true) true j t l=some x->∃a,ok a/\Pj W l (f a)/\μ a<=K.B x.1
theorem Bg.int{t}{k}(l:P.underlying t=some (.int k)):Bg K enc P W t (λn:Int=>[.int k n]) (λn=>(Lit.int k n).wf=true) (λ_=>1):=by
 intro j q x h
 obtain⟨n,rfl,_,m⟩:=DataW.trod_int l h
 exact⟨n,m,.one (.int k n),K.one _⟩
theorem Bg.str{t}(l:P.underlying t=some .string):Bg K enc P W t (λs:List UInt8=>[.str s]) (λs=>s.length<=maxLen) (λs=>s.length+1):=by
 intro j q x h
 obtain⟨s,rfl,rfl,m⟩:=DataW.trod_string l h
 exact⟨s.data.toList,by simpa using m,.one (.str s),K.str _⟩
theorem kb{α β:Type}{l:List α}{m:List β}{f:α->Nat}{g:β->Nat}(j:l.length=m.length)(h:∀(i:Nat) (a:α) (b:β),l[i]?=some a->m[i]?=some b->f a<=g b):(l.map f).sum<=(m.map g).sum:=by
 induction l generalizing m with
 | nil=>simp
 | cons a l w=>
  cases m with
  | nil=>simp at j
  | cons b m=>
   have B:=h 0 a b rfl rfl
   have q:=w (m:=m) (by simpa using j) (λi a b q A=>h (i+1) a b (by simpa using q) (by simpa using A))
   simp only[xj,yl]
   omega
theorem Bg.slice{t e}{sz}{α:Type}{f}{ok}{μ}(ht:P.underlying t=some (.slice e))(hc:P.cellsOf e=sz)(h0:0<sz)(h:Bg K enc P W e f ok μ)(hf:∀a,(f a).length=sz) :
  Bg K enc P W t (λl:List α=>[.sl (l.map f)]) (λl=>l.length<=maxLen/\∀a∈l,ok a) (λl=>(l.map μ).sum+1):=by
 intro aa cs x hx
 subst hc
 rcases open_slice ht hx with ⟨rfl,_⟩ | ⟨a,len,cap,m,n,D,Pl,rfl,_,hl,hm,a0,rfl,V⟩
 .exact⟨[],⟨yL _,λ_ h=>by cases h⟩,.one .snil,K.one _⟩
 simp only[zm] at a0
 have F:∀i,i<len->∃b,ok b/\μ b<=K.B (D i)/\∀j d,(f b)[j]?=some d->∃u,W.cell? ((a.add (i * P.cellsOf e)).add j)=some u/\A4 W (· < W.heap.size) d u:=by
  intro i J
  obtain⟨A,q,w⟩:=V i (by omega)
  obtain⟨b,M,X,hμ⟩:=h n _ _ w
  obtain⟨_,h3,h4⟩:=World.cells?_some q
  refine⟨b,M,hμ,λj d hj=>?_⟩
  have a1:j<(f b).length:=(wx.1 hj).1
  have I:j<A.length:=by rw[X.1];exact a1
  refine⟨A[j],?_,X.2 j d _ hj (wz I)⟩
  rw[h4 j (by rw[<- h3];exact I)]
  exact wz I
 obtain⟨l,B,hq⟩:=UH len F
 have a2:∀b∈l,ok b:=λb M=>by
  obtain⟨i,V⟩:=yM.1 M
  exact(hq i b V).1
 have hμ:(l.map μ).sum+1<=K.B (.slice ((List.range len).map D) ((List.range (m-len)).map λj=>D (len+j))):=by
  refine xW ?_ (K.sl _ _)
  have:=kb (l:=l) (m:=(List.range len).map D) (f:=μ) (g:=K.B) (by simpa using B) (λi a b q w=>by
   have J:i<len:=by rw[<- B];exact(wx.1 q).1
   rw[xJ,zn J] at w
   cases w
   exact(hq i a q).2.1)
  omega
 have C:∀i b,l[i]?=some b->∀j d,(f b)[j]?=some d->∃u,W.cell? ((a.add (i * P.cellsOf e)).add j)=some u/\A4 W (· < W.heap.size) d u:=λi b M=>(hq i b M).2.2
 refine⟨l,⟨by rw[B];omega,a2⟩,.one ?_,hμ⟩
 subst B
 by_cases a6:cap=0
 .have:l=[]:=yX (by omega)
  subst this;subst a6
  exact .sl0 a
 .obtain⟨A,q,_⟩:=V 0 (by omega)
  obtain⟨_,h3,h4⟩:=World.cells?_some q
  have a7:∃u,W.cell? a=some u:=by
   have:=h4 0 h0
   rw[zM,show(a.add 0).add 0=a from rfl] at this
   exact⟨A[0]'(by omega),this.trans (wz (by omega))⟩
  obtain⟨u0,E⟩:=a7
  obtain⟨b,off,BS⟩:=a
  have a8:BS=none:=World.cell?_spot E
  subst a8
  have O:b<W.heap.size:=by
   unfold World.cell? at E
   rcases zV b W.heap.size with h | h
   .exact h
   .rw[yx h] at E;cases E
  have T:∀i j,((⟨b,off,none⟩:Addr).add (i * P.cellsOf e)).add j=⟨b,off+i * P.cellsOf e+j,none⟩:=λi j=>by rw[Addr.add_lit,Addr.add_lit]
  have hu:∀(i:Nat) (row:List RV) (c:Nat) (d:RV),(l.map f)[i]?=some row->row[c]?=some d->∃u,W.cell? ⟨b,off+i * P.cellsOf e+c,none⟩=some u/\A4 W (· < W.heap.size) d u:=by
   intro i row c d q w
   rw[xJ,xK] at q
   obtain⟨z,U,rfl⟩:=q
   obtain⟨u,Z,h7⟩:=C i z U c d w
   rw[T] at Z
   exact⟨u,Z,h7⟩
  have:=A4.sl (w:=W) (S:=(· < W.heap.size)) b off (l.map f) cap (P.cellsOf e) (λi c=>(W.cell? ⟨b,off+i * P.cellsOf e+c,none⟩).getD undef) (λ_=>O) (by simpa using hl) hm
   (λrow X=>by obtain⟨z,_,rfl⟩:=yT.1 X;exact hf z)
   (λi row c d q w=>by obtain⟨u,U,_⟩:=hu i row c d q w;rw[U];rfl)
   (λi row c d q w=>by obtain⟨u,U,Z⟩:=hu i row c d q w;rw[U];exact Z)
  rwa [xk] at this
theorem Ji{t}{w:Array Field}{n}{l}{cs:List Value}{x}(F:P.underlying t=some (.struct w))(hC:P.cellsOf t=n)
 (h:DataW.trod enc P W 0 (λ_ => true) true l t cs=some x) :
    cs.length=n/\∃xs:List (DataW H × List MemPlace), x.1=.agg (xs.map (·.1))/\xs.length=w.size /\
      ∀(j:Nat) (f:Field), w[j]?=some f->∃(y:DataW H × List MemPlace) (m:Nat), xs[j]?=some y/\DataW.trod enc P W 0 (λ_ => true) true m f.type ((cs.drop f.offset).take (P.cellsOf f.type))=some y := by
  obtain⟨A, n', I, rfl, q, B, J⟩ := DataW.trod_struct F h
  refine⟨q.trans hC, A, rfl, B, λj f C => ?_⟩
  have M:j<w.size := (xt.1 C).1
  have O := J j f C
  have E:A[j]?=some A[j] := wz (by omega)
  exact⟨A[j], n', E, O.trans E⟩
theorem Pj.part{cs:List Value}{off k jj}{row}{d}{u}(h:Pj W ((cs.drop off).take k) row)(j:Nat.blt jj k=true)(l:row[jj]?=some d)(m:cs[off+jj]?=some u):A4 W (· < W.heap.size) d u:=by
 refine h.2 jj d u l ?_
 rw[xn,ww (B8 j),xr]
 exact m
theorem s9{t}{k}{v}{d}{p}{r}{l}(m:P.underlying t=some (.int k))(j:Value.okWide P W r l t v)(h:DataW.Trod enc P W 0 (λ_=>true) true t v d p) :
  ∃n:Int,(Lit.int k n).wf=true/\A4 W (· < W.heap.size) (.int k n) v/\1<=K.B d:=by
 obtain⟨n,q,w⟩:=ju m j h
 exact⟨n,q,w,K.one _⟩
end
end Go.Proofs.YtcgleifameckmaaGreatDoor.Al

namespace Go.Proofs.YtcgleifameckmaaGreatDoor.Al
theorem JZ{α:Type}{l ys:List α}(q:l.length=ys.length)(h:∀(j:Nat) (y:α),ys[j]?=some y->l[j]?=some y):l=ys:=by
 apply yg 
 intro i
 rcases zV i ys.length with m | m
 .rw[h i _ (wz m),wz m]
 .rw[yN m,yN (by omega)]
theorem Nf{α:Type}{μ}(h:∀x,1<=μ x)(l:List α):l.length<=(l.map μ).sum:=by
 induction l with
 | nil=>simp
 | cons a l j=>have:=h a;simp only[xz,xj,yl];omega
theorem Jf{α:Type}{μ:α->Nat}{l:List α}{a:α}(h:a∈l):μ a<=(l.map μ).sum:=by
 induction l with
 | nil=>cases h
 | cons b l j=>
  simp only[xj,yl]
  rcases yD.1 h with rfl | h
  .omega
  .have:=j h;omega
section
variable{P:Program}{s:St}
end
end Go.Proofs.YtcgleifameckmaaGreatDoor.Al
