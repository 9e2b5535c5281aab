/- The program logic, a part of it. -/
import Derived.Below
import Derived.ChangeArms
import Derived.ChangeSame
import Derived.Deep.Fields
import Derived.Deep.LoopGhost
import Derived.Deep.Quiet
import Derived.Deep.Slices
import Derived.Laws.CopyRow
import Derived.Laws.StructEq
import Derived.Lib.ValidU
import Derived.Maps.AppendAt
import Derived.OpenShut
import Derived.OrdersHeld
import Derived.RangeFuncRecord
import Derived.RowKit
import Derived.Shelf.Unicode.ValidAny
import Derived.Sort.LoopGhostIn
import Derived.StillTail
import Derived.Test.YtdafahjmopdleaaGreatDoorProg
import Derived.WalkKit
import Derived.WalkLawsBesides
import Derived.WideKeyArgs
import GoSem.Core.Utf8
set_option linter.all false
namespace Go.Proofs.YtdafahjmopdleaaGreatDoor.Al
def ne:=@if_neg
def vx:=@if_pos
def vy:=@decide_eq_true_eq
def vz:=@decide_eq_true
def v6:=@decide_eq_false
def v7:=@Bool.and_eq_true
def v8:=@List.mem_cons_self
def wA:=@List.getElem?_eq_some_iff
def wB:=@List.getElem?_eq_getElem
def wC:=@List.mem_cons_of_mem
def wD:=@getElem!_pos
def wF:=@Bool.or_eq_true
def wG:=@List.length_append
def wI:=@Nat.eq_of_beq_eq_true
def wJ:=@List.append_assoc
def wK:=@List.length_cons
def wL:=@Nat.le_refl
def wM:=@List.mem_cons
def wN:=@List.length_map
def wO:=@List.cons_append
def wP:=@Option.some.injEq
def wR:=@List.append_nil
def wS:=@List.map_cons
def wT:=@List.all_eq_true
def wU:=@Classical.not_not
def wV:=@Prod.mk.injEq
def wW:=@Option.map_eq_some_iff
def wX:=@Classical.byContradiction
def wY:=@Nat.zero_add
def wZ:=@Nat.lt_of_lt_of_le
def wc:=@List.replicate_succ
def wd:=@List.getElem?_map
def we:=@List.getElem?_append_right
def wg:=@List.foldl_cons
def wh:=@List.mem_range
def wi:=@List.getElem?_append_left
def wj:=@List.mem_of_getElem?
def wl:=@Array.getElem?_eq_getElem
def wm:=@List.length_singleton
def wn:=@List.mem_append
def wo:=@Option.some.inj
def wq:=@List.length_drop
def ws:=@Bool.eq_iff_iff
def wu:=@List.length_replicate
def wv:=@List.mem_singleton
def ww:=@Array.getElem?_eq_some_iff
def wx:=@Nat.le_of_ble_eq_true
def wy:=@Int.toNat_natCast
def wz:=@Bool.not_eq_true'
def w0:=@Nat.le_trans
def xD:=@List.findSome?_eq_none_iff
def xE:=@List.mem_iff_getElem
def xF:=@List.exists_of_findSome?_eq_some
def xG:=@Array.length_toList
def xJ:=@Bool.true_and
def xK:=@List.sum_cons
def xM:=@Nat.add_zero
def xP:=@List.length_pos_iff
def xR:=@Bool.not_eq_true
def xT:=@List.countP_cons
def xW:=@List.getElem?_drop
def xY:=@List.mem_map
def xZ:=@List.eq_of_mem_replicate
def xc:=@List.findSome?_cons
def xd:=@decide_eq_false_iff_not
def xf:=@List.eq_nil_of_length_eq_zero
def xg:=@Nat.mul_le_mul_right
def xh:=@List.getElem?_take
def xi:=@Option.map_some
def xj:=@Bool.false_or
def xl:=@List.length_take
def xm:=@if_true
def xo:=@Bool.false_eq_true
def xp:=@List.take_length
def xq:=@beq_self_eq_true
def xr:=@List.drop_eq_getElem_cons
def xt:=@Bool.eq_false_iff
def xu:=@of_decide_eq_true
def xv:=@Array.getElem?_toList
def xw:=@List.take_append_drop
def xx:=@List.countP_replicate
def xy:=@Prod.mk.inj
def xz:=@List.getElem_mem
def yA:=@List.mem_of_mem_drop
def yC:=@List.mem_of_mem_take
def yD:=@List.map_nil
def yE:=@List.getElem?_set
def yF:=@Nat.add_assoc
def yG:=@List.mem_append_left
def yH:=@List.getElem?_cons_succ
def yJ:=@List.length_nil
def yK:=@List.map_append
def yL:=@List.length_set
def yM:=@Nat.add_mul
def yN:=@List.getD_eq_getElem?_getD
def yO:=@Bool.and_eq_false_imp
def yP:=@List.countP_le_length
def yQ:=@List.mem_or_eq_of_mem_set
def yR:=@Bool.false_and
def yS:=@Nat.zero_le
def yT:=@List.take_of_length_le
def yU:=@Nat.mul_comm
def yV:=@Nat.lt_or_ge
def yX:=@List.sum_nil
def yY:=@List.length_filter_le
def yZ:=@congrArg
def ya:=@if_false
def yc:=@List.size_toArray
def yd:=@List.getElem_append_right
def ye:=@Bool.and_eq_true_iff
def yf:=@Bool.true_or
def yg:=@Option.getD_some
def yh:=@List.ext_getElem
def yi:=@List.drop_length
def yj:=@List.getElem_map
def yk:=@List.nil_append
def ym:=@Int.natCast_nonneg
def yn:=@List.mem_filter
def yo:=@List.set_cons_zero
def yp:=@Nat.one_mul
def yq:=@List.mem_iff_getElem?
def yr:=@UInt8.lt_iff_toNat_lt
def yt:=@List.set_append_right
def yu:=@List.range_eq_range'
def yv:=@Nat.div_eq_of_lt
def yw:=@List.replicate_succ'
def yx:=@List.not_mem_nil
def yy:=@List.any_eq_true
def yz:=@Nat.mul_add_div
def y8:=@Nat.add_comm
def y9:=@Bool.and_false
def zA:=@List.countP_cons_of_pos
def zC:=@List.flatMap_cons
def zD:=@Nat.ne_of_beq_eq_false
def zE:=@Array.getElem?_eq_none
def zG:=@List.drop_of_length_le
def zH:=@List.all_cons
def zJ:=@Bool.not_true
def zK:=@Nat.mod_eq_of_lt
def zL:=@Array.toList_map
def zM:=@Option.bind_some
def zN:=@Array.all_eq_true_iff_forall_mem
def zO:=@List.mem_append_right
def zP:=@List.getElem_set_self
def zQ:=@List.singleton_append
def zR:=@List.getElem?_eq_none
def zS:=@Nat.ble_eq
def zT:=@Nat.blt_eq
def zU:=@List.cons.injEq
def zV:=@Nat.not_lt_zero
def zW:=@Nat.sub_self
def zX:=@false_or
def zY:=@Bool.not_false
def zZ:=@or_false
def za:=@Int.le_refl
def zb:=@List.getElem_range
def zc:=@List.filter_append
def zd:=@List.set_cons_succ
def ze:=@Bool.and_self
def zf:=@Bool.and_true
def zg:=@List.foldl_append
def zh:=@Int.emod_eq_of_lt
def zi:=@List.getElem_drop
def zj:=@beq_iff_eq
def zk:=@Nat.zero_mul
def zl:=@Nat.lt_succ_self
def zm:=@List.range'_succ
def zn:=@List.cons_ne_nil
def zo:=@Nat.beq_refl
inductive RV where
 | int (k:IntKind) (n:Int)
 | bool (b:Bool)
 | str (s:List UInt8)
 | sl (xs:List (List RV))
 | any
def Ig:Nat:=0
def JA:Nat:=1
def Fe:List Int:=List.replicate 128 240++(List.replicate 66 241++(List.replicate 30 2++([19]++(List.replicate 12 3++([35]++(List.replicate 2 3++([52]++(List.replicate 3 4++([68]++List.replicate 11 241)))))))))
def JV:List (Int × Int):=[(128,191),(160,191),(128,159),(144,191),(128,143)]++List.replicate 11 (0,0)
def HW:Nat→Option (List RV):=λg=>
 if g=Ig then some (Fe.flatMap λz=>[.int .u8 z]) else if g=JA then some (JV.flatMap λp=>[.int .u8 p.1,.int .u8 p.2]) else none
def bZ:Nat→Option (Array Value):=λ_=>none
def YY(_:World):Prop:=True
inductive AV where
 | r (x:RV)
 | agg (cs:List AV)
 | tup (vs:List AV)
 | own (id g:Nat)
 | ptr (id g i k:Nat)
 | rop (row:List RV) (k:Nat)
 | fn (f:FuncId) (caps:List AV)
 | mref (id g:Nat)
 | yld (id g:Nat)
 | full (xs:List (List RV))
 | cst (v:Value)
 | whn (b:Bool) (v:AV)
 | any
inductive A9 where
 | arr (g:Nat) (e:TypeId) (sz:Nat) (xs:List (List RV))
 | box (g:Nat) (e:TypeId) (cs:List AV)
 | hot (g:Nat) (e:TypeId) (xs:List (List RV)) (k id g':Nat)
 | it (g:Nat) (s:List UInt8) (pos:Nat)
 | mp (g:Nat) (ks:List (Int × Nat)) (vs:List AV) (clock:Nat)
 | mi (g mid mg since:Nat) (Ce:List Nat) (last:Nat)
 | lp (g:Nat) (e:List (Nat × AV)) (N:Nat) (ps:List Nat) (assign body:Code) (st:LoopState) (pend:Option Code)
def A9.gen:A9→Nat
 | .arr g _ _ _=>g
 | .box g _ _=>g
 | .hot g _ _ _ _ _=>g
 | .it g _ _=>g
 | .mp g _ _ _=>g
 | .mi g _ _ _ _ _=>g
 | .lp g _ _ _ _ _ _ _=>g
def A9.shape:A9→Bool × Nat × Nat
 | .arr _ _ sz j=>(true,sz,j.length)
 | .box _ _ l=>(false,l.length,1)
 | .hot _ _ j _ _ _=>(true,1,j.length)
 | .it _ _ _=>(false,1,1)
 | .mp _ _ _ _=>(false,1,1)
 | .mi _ _ _ _ _ _=>(false,1,1)
 | .lp _ _ _ _ _ _ _ _=>(false,1,1)
abbrev Ab:=List (Nat × AV)
abbrev AS:=List (Nat × Option A9)
def get:Ab→Nat→AV
 | [],_=>.any
 | (t,v)::r,k=>match Nat.beq t k with | true=>v | false=>get r k
def hget:AS→Nat→Option A9
 | [],_=>none
 | (t,v)::r,k=>match Nat.beq t k with | true=>v | false=>hget r k
inductive Bl(w:World)(S:Nat→Prop):RV→Value→Prop
 | int (k:IntKind) (n:Int):Bl w S (.int k n) (.int k n)
 | bool (b:Bool):Bl w S (.bool b) (.bool b)
 | str (s:ByteArray):Bl w S (.str s.data.toList) (.string s)
 | snil:Bl w S (.sl []) (.slice none 0 0)
 | sl0 (a:Addr):Bl w S (.sl []) (.slice (some a) 0 0)
 | sl (b off:Nat) (xs:List (List RV)) (cap size:Nat) (u:Nat→Nat→Value) (hS:xs≠[]→S b) (hc:xs.length≤cap) (hm:cap≤maxLen)
   (hsz:∀row∈xs,row.length=size)
   (hcell:∀i row c x,xs[i]?=some row→row[c]?=some x→w.cell? ⟨b,off+i * size+c,none⟩=some (u i c))
   (hrep:∀i row c x,xs[i]?=some row→row[c]?=some x→Bl w S x (u i c)) :
   Bl w S (.sl xs) (.slice (some ⟨b,off,none⟩) xs.length cap)
 | any (v:Value) (h:v.oneCell'=true):Bl w S .any v
theorem Bl.one{w}{S}{x}{v:Value}(h:Bl w S x v):v.oneCell'=true:=by
 cases h<;>first | rfl | assumption
theorem Bl.mono{w w':World}{S S'}(E:∀b, S b→w'.heap[b]?=w.heap[b]?)(F:∀b, S b→S' b){x}{v}
 (h:Bl w S x v):Bl w' S' x v := by
  induction h with
  | int k n => exact .int k n
  | bool b => exact .bool b
  | str s => exact .str s
  | snil => exact .snil
  | sl0 a => exact .sl0 a
  | sl b off A cap size u l I J hsz j B M =>
    refine .sl b off A cap size u (λh => F _ (l h)) I J hsz (λi row c x C O => ?_) M
    have q:A≠[] := by rintro rfl;simp at C
    rw[← j i row c x C O]
    exact World.cell?_of_block (E _ (l q))
  | any v h => exact .any v h
structure Cx where
 w:World
 S:Nat→Prop
 F:Nat→Prop
 H:Nat→Option A9
 β:Nat→Option (Nat × Nat)
 n:Nat
def EQ(β:Option (Nat × Nat))(len:Nat)(v:Value):Prop:=
 match β with
 | none=>len=0∧v=.slice none 0 0
 | some (b,cap)=>v=.slice (some ⟨b,0,none⟩) len cap
inductive AX(x:Cx):AV→Value→Prop
 | r {d:RV} {v:Value} (h:Bl x.w x.S d v):AX x (.r d) v
 | agg {cs:List AV} {us:Array Value} (hl:cs.length=us.size) (h:∀(i:Nat) (c:AV) (u:Value),cs[i]?=some c→us[i]?=some u→AX x c u):AX x (.agg cs) (.agg us)
 | tup {cs:List AV} {us:Array Value} (hl:cs.length=us.size) (h:∀(i:Nat) (c:AV) (u:Value),cs[i]?=some c→us[i]?=some u→AX x c u):AX x (.tup cs) (.tuple us)
 | own {id g:Nat} {v:Value} (hg:g<x.n) (h1:v.oneCell'=true) (h:∀o,x.H id=some o→o.gen=g→EQ (x.β id) o.shape.2.2 v):AX x (.own id g) v
 | ptr {id g i k:Nat} {v:Value} (hg:g<x.n) (h1:v.oneCell'=true) (h:∀o,x.H id=some o→o.gen=g→∃b cap,x.β id=some (b,cap)∧v=.pointer (some ⟨b,i * o.shape.2.1+k,none⟩)) :
   AX x (.ptr id g i k) v
 | mref {id g:Nat} {v:Value} (hg:g<x.n) (h1:v.oneCell'=true) (h:∀o,x.H id=some o→o.gen=g→∃b cap,x.β id=some (b,cap)∧v=.map (some b)):AX x (.mref id g) v
 | yld {id g:Nat} {v:Value} (hg:g<x.n) (h1:v.oneCell'=true) (h:∀o,x.H id=some o→o.gen=g→∃b cap,x.β id=some (b,cap)∧v=.func (.yield b) #[] #[]):AX x (.yld id g) v
 | full {xs:List (List RV)} {v:Value} (h:Bl x.w x.S (.sl xs) v) (hf:∃a,v=.slice a xs.length xs.length):AX x (.full xs) v
 | rop {row:List RV} {k b off:Nat} (u:Nat→Value) (hS:row≠[]→x.S b) (hc:∀j d,row[j]?=some d→x.w.cell? ⟨b,off+j,none⟩=some (u j))
   (hr:∀j d,row[j]?=some d→Bl x.w x.S d (u j)):AX x (.rop row k) (.pointer (some ⟨b,off+k,none⟩))
 | fn {f:FuncId} {cs:List AV} {us:Array Value} (hl:cs.length=us.size) (h:∀(i:Nat) (c:AV) (u:Value),cs[i]?=some c→us[i]?=some u→AX x c u):AX x (.fn f cs) (.func (.func f) #[] us)
 | cst (v:Value):AX x (.cst v) v
 | whn {b:Bool} {a:AV} {v:Value} (h:b=true→AX x a v) (h2:b=false→v=undef):AX x (.whn b a) v
 | any (v:Value):AX x .any v
structure Cx.le(x y:Cx):Prop where
 size:x.w.heap.size≤y.w.heap.size
 os:y.w.os=x.w.os
 tape:y.w.tape=x.w.tape
 output:y.w.output=x.w.output
 blk:∀b,x.S b∨x.F b→y.w.heap[b]?=x.w.heap[b]?
 S:∀b,x.S b→y.S b
 F:y.F=x.F
 n:x.n≤y.n
 H:∀id o',y.H id=some o'→o'.gen<x.n→∃o,x.H id=some o∧o.gen=o'.gen∧o.shape=o'.shape∧y.β id=x.β id
theorem Cx.le.refl(x:Cx):x.le x:=⟨wL _,rfl,rfl,rfl,λ_ _=>rfl,λ_ h=>h,rfl,wL _,λ_ o h _=>⟨o,h,rfl,rfl,rfl⟩⟩
theorem Cx.le.trans{x y z:Cx}(h:x.le y)(k:y.le z):x.le z where
 size:=w0 h.size k.size
 os:=k.os.trans h.os
 tape:=k.tape.trans h.tape
 output:=k.output.trans h.output
 blk b j:=(k.blk b (j.imp (h.S b) (λf=>by rw[h.F];exact f))).trans (h.blk b j)
 S b j:=k.S b (h.S b j)
 F:=k.F.trans h.F
 n:=w0 h.n k.n
 H id l u hg:=by
  obtain⟨w,A,q,B,C⟩:=k.H id l u (wZ hg h.n)
  obtain⟨o,E,F,I,J⟩:=h.H id w A (by rw[q];exact hg)
  exact⟨o,E,F.trans q,I.trans B,C.trans J⟩
theorem AX.mono{x y:Cx}(h:x.le y){a}{v}(X:AX x a v):AX y a v:=by
 have I:∀b,x.S b→y.w.heap[b]?=x.w.heap[b]?:=λb I=>h.blk b (.inl I)
 induction X with
 | r J=>exact .r (J.mono I h.S)
 | agg M _ B=>exact .agg M B
 | tup M _ B=>exact .tup M B
 | own hg q C=>
  refine .own (wZ hg h.n) q λE w l=>?_
  obtain⟨o,q,A,O,F⟩:=h.H _ E w (by rw[l];exact hg)
  rw[F,← O]
  exact C o q (A.trans l)
 | ptr hg q C=>
  refine .ptr (wZ hg h.n) q λE w l=>?_
  obtain⟨o,q,A,O,F⟩:=h.H _ E w (by rw[l];exact hg)
  rw[F,← O]
  exact C o q (A.trans l)
 | mref hg q C=>
  refine .mref (wZ hg h.n) q λE w l=>?_
  obtain⟨o,q,A,O,F⟩:=h.H _ E w (by rw[l];exact hg)
  rw[F]
  exact C o q (A.trans l)
 | yld hg q C=>
  refine .yld (wZ hg h.n) q λE w l=>?_
  obtain⟨o,q,A,O,F⟩:=h.H _ E w (by rw[l];exact hg)
  rw[F]
  exact C o q (A.trans l)
 | full J Y=>exact .full (J.mono I h.S) Y
 | @rop row k b off u V Z J=>
  refine .rop u (λhn=>h.S _ (V hn)) (λj d T=>?_) (λj d T=>(J j d T).mono I h.S)
  have U:row≠[]:=λe=>by subst e;simp at T
  rw[← Z j d T]
  exact World.cell?_of_block (I _ (V U))
 | fn M _ B=>exact .fn M B
 | cst v=>exact .cst v
 | whn _ A B=>exact .whn B A
 | any v=>exact .any v
def E6(x:Cx)(β:Option (Nat × Nat)):A9→Prop
 | .arr _ e sz q=>0<sz∧(∀row∈q,row.length=sz)∧∃l w,EQ β q.length l∧x.w.ownsRow 0 e sz l q.length w ∧
   ∀i row c d,q[i]?=some row→row[c]?=some d→∃u,w[i * sz+c]?=some u∧Bl x.w x.S d u
 | .box _ e I=>∃(b:Nat) (A:Array Value),β=some (b,1)∧x.w.heap[b]?=some (.cells A e (0,0))∧A.size=I.length ∧
   ∀(j:Nat) (c:AV),I[j]?=some c→∃u:Value,A[j]?=some u∧u.oneCell'=true∧AX x c u
 | .hot _ e q k id M=>k<q.length∧(∀row∈q,row.length=1)∧∃l w,EQ β q.length l∧x.w.ownsRow 0 e 1 l q.length w ∧
   (∀i row d,i≠k→q[i]?=some row→row[0]?=some d→∃u,w[i]?=some u∧Bl x.w x.S d u)∧∃u,w[k]?=some u∧AX x (.own id M) u
 | .it _ s pos=>∃b:Nat,β=some (b,1)∧x.w.heap[b]?=some (.stringIter ⟨s.toArray⟩ pos)
 | .mp _ ks J clock=>∃(b:Nat) (w:List Value),β=some (b,1)∧w.length=ks.length∧J.length=ks.length ∧
   x.w.heap[b]?=some (.map ((ks.zip w).map λp=>({ key:=.int .i64 p.1.1,val:=p.2,born:=p.1.2 } : MapEntry)).toArray clock) ∧
   ∀(j:Nat) (c:AV) (u:Value),J[j]?=some c→w[j]?=some u→AX x c u
 | .mi _ F O B Ce last=>∃b m:Nat,β=some (b,1)∧x.w.heap[b]?=some (.mapIter (some m) B Ce.toArray last)∧AX x (.mref F O) (.map (some m))
 | .lp _ e N T assign C U E=>∃(b:Nat) (r:Loop),β=some (b,1)∧x.w.heap[b]?=some (.loop r)∧r.params=T.toArray∧r.assign=assign∧r.body=C∧r.state=U∧r.pending=E∧r.tmps.size=N ∧
   ∀t,AX x (get e t) (r.tmps.getD t undef)
structure GB(x:Cx):Prop where
 tab:∀g row,HW g=some row→AX x (.rop row 0) (.pointer (some ⟨g,0,none⟩))
 whole:∀g cs,bZ g=some cs→x.S g∧0<cs.size∧∃t p,x.w.heap[g]?=some (.cells cs t p)
 fact:∃W0:World,YY W0∧Go.RowKit.Below W0.heap.size W0 x.w∧∀b,b<W0.heap.size→x.S b
theorem GB.le{x y:Cx}(h:GB x)(j:x.le y):GB y:=⟨λg row hg=>(h.tab g row hg).mono j,λg A hg=>by
 obtain⟨q,B,t,p,l⟩:=h.whole g A hg
 exact⟨j.S g q,B,t,p,by rw[j.blk g (.inl q),l]⟩,by
 obtain⟨W0,q,l,w⟩:=h.fact
 exact⟨W0,q,⟨j.os.trans l.os,j.tape.trans l.tape,j.output.trans l.output,w0 l.size j.size,λb u=>(j.blk b (.inl (w b u))).trans (l.block b u)⟩,λb u=>j.S b (w b u)⟩⟩
theorem GB.same{x y:Cx}(h:GB x)(q:y.w=x.w)(w:∀b,x.S b→y.S b):GB y:=by
 refine⟨λg row hg=>?_,λg F hg=>by rw[q];exact⟨w g (h.whole g F hg).1,(h.whole g F hg).2⟩,by obtain⟨W0,l,A,B⟩:=h.fact;exact⟨W0,l,by rw[q];exact A,λb C=>w b (B b C)⟩⟩
 have C:∀b,x.S b→y.w.heap[b]?=x.w.heap[b]?:=λ_ _=>by rw[q]
 have l:=h.tab g row hg
 generalize I:(Value.pointer (some ⟨g,0,none⟩))=v at l
 cases l with
 | rop u l A B=>exact .rop u (λh=>w _ (l h)) (λj d E=>by rw[q];exact A j d E) (λj d E=>(B j d E).mono C w)
structure Cx.ok(x:Cx):Prop where
 S_lt:∀b,x.S b→b<x.w.heap.size
 F_lt:∀b,x.F b→b<x.w.heap.size
 SF:∀b,x.S b→¬ x.F b
 obj:∀id o,x.H id=some o→o.gen<x.n∧E6 x (x.β id) o
 own:∀id o b k,x.H id=some o→x.β id=some (b,k)→b<x.w.heap.size∧¬ x.S b∧¬ x.F b
 inj:∀id id' o o' b k k',x.H id=some o→x.H id'=some o'→x.β id=some (b,k)→x.β id'=some (b,k')→id=id'
 tabs:GB x
theorem E6.mono{x y:Cx}(h:x.le y){β}(l:∀b k,β=some (b,k)→y.w.heap[b]?=x.w.heap[b]?){o}(M:E6 x β o):E6 y β o:=by
 have hb:∀b,x.S b→y.w.heap[b]?=x.w.heap[b]?:=λb hb=>h.blk b (.inl hb)
 cases o with
 | arr g e sz xs=>
  obtain⟨h0,C,O,V,q,E,T⟩:=M
  refine⟨h0,C,O,V,q,?_,λi row c d A B=>?_⟩
  ·obtain⟨hl,U⟩:=E
   refine⟨hl,?_⟩
   rcases U with U | ⟨gg,cap,F,X,A,B,I,J,Y,Z⟩
   ·exact .inl U
   ·refine .inr ⟨gg,cap,F,X,A,?_,I,J,Y,Z⟩
    rw[← B]
    subst X
    cases β with
    | none=>obtain⟨_,q⟩:=q;cases q
    | some p=>
     obtain⟨b,k⟩:=p
     simp only[EQ,Value.slice.injEq,wP,Addr.mk.injEq] at q
     rw[q.1.1]
     exact l b k rfl
  ·obtain⟨u,I,J⟩:=T i row c d A B
   exact⟨u,I,J.mono hb h.S⟩
 | box g e cs=>
  obtain⟨b,F,w,q,hs,T⟩:=M
  refine⟨b,F,w,(l b 1 w).trans q,hs,λj c hj=>?_⟩
  obtain⟨u,A,B,I⟩:=T j c hj
  exact⟨u,A,B,I.mono h⟩
 | hot g e xs k id g'=>
  obtain⟨h0,C,O,V,q,E,T,u0,hk,hu⟩:=M
  refine⟨h0,C,O,V,q,?_,λi row d a0 A B=>?_,u0,hk,hu.mono h⟩
  ·obtain⟨hl,U⟩:=E
   refine⟨hl,?_⟩
   rcases U with U | ⟨gg,cap,F,X,A,B,I,J,Y,Z⟩
   ·exact .inl U
   ·refine .inr ⟨gg,cap,F,X,A,?_,I,J,Y,Z⟩
    rw[← B]
    subst X
    cases β with
    | none=>obtain⟨_,q⟩:=q;cases q
    | some p=>
     obtain⟨b,k⟩:=p
     simp only[EQ,Value.slice.injEq,wP,Addr.mk.injEq] at q
     rw[q.1.1]
     exact l b k rfl
  ·obtain⟨u,I,J⟩:=T i row d a0 A B
   exact⟨u,I,J.mono hb h.S⟩
 | it g s pos=>
  obtain⟨b,w,q⟩:=M
  exact⟨b,w,(l b 1 w).trans q⟩
 | mp g ks vs clock=>
  obtain⟨b,V,w,A,B,q,T⟩:=M
  exact⟨b,V,w,A,B,(l b 1 w).trans q,λj c u k1 k2=>(T j c u k1 k2).mono h⟩
 | mi g a7 mg a1 Ce last=>
  obtain⟨b,m,w,q,hm⟩:=M
  exact⟨b,m,w,(l b 1 w).trans q,hm.mono h⟩
 | lp g e N ps assign a2 st a6=>
  obtain⟨b,r,w,q,A,B,I,J,Y,Z,he⟩:=M
  exact⟨b,r,w,(l b 1 w).trans q,A,B,I,J,Y,Z,λt=>(he t).mono h⟩
def AV.one:AV→Bool
 | .agg _ | .tup _ | .any | .whn _ _=>false
 | .cst v=>v.oneCell'
 | _=>true
theorem AX.one{x}{a:AV}{v:Value}(h:AX x a v)(j:a.one=true):v.oneCell'=true:=by
 cases h<;>first | rfl | assumption | (simp[AV.one] at j;done) | skip
 ·rename_i h;exact h.one
 ·rename_i h _;exact h.one
theorem GL{x:Cx}(j:x.ok)(id:Nat)(o:A9)(w':World)(T:Option (Nat × Nat))(U:Nat)
  (w:x.w.heap.size≤w'.heap.size) (a6:w'.os=x.w.os) (V:w'.tape=x.w.tape) (Y:w'.output=x.w.output)
  (Z:∀b,b<x.w.heap.size→(∀A k,x.H id=some A→x.β id=some (b,k)→False)→w'.heap[b]?=x.w.heap[b]?)
  (hβ:∀b k,T=some (b,k)→b<w'.heap.size∧(x.w.heap.size≤b∨∃A J,x.H id=some A∧x.β id=some (b,J)))
  (hn:x.n≤U) (a0:o.gen<U) (a1:o.gen<x.n→∃A,x.H id=some A∧A.gen=o.gen∧A.shape=o.shape∧T=x.β id)
  (a2:x.le { x with w:=w',H:=λi=>if id=i then some o else x.H i,β:=λi=>if id=i then T else x.β i,n:=U } →
   E6 { x with w:=w',H:=λi=>if id=i then some o else x.H i,β:=λi=>if id=i then T else x.β i,n:=U } T o) :
  x.le { x with w:=w',H:=λi=>if id=i then some o else x.H i,β:=λi=>if id=i then T else x.β i,n:=U } ∧
  ({ x with w:=w',H:=λi=>if id=i then some o else x.H i,β:=λi=>if id=i then T else x.β i,n:=U } : Cx).ok:=by
 have M:x.le { x with w:=w',H:=λi=>if id=i then some o else x.H i,β:=λi=>if id=i then T else x.β i,n:=U }:=by
  refine⟨w,a6,V,Y,λb q=>?_,λ_ h=>h,rfl,hn,λi F l hg=>?_⟩
  ·refine Z b (q.elim (j.S_lt b) (j.F_lt b)) λA k E B=>?_
   have:=j.own id A b k E B
   exact q.elim this.2.1 this.2.2
  ·dsimp only at l ⊢
   split at l
   ·rename_i u;subst u
    cases l
    obtain⟨A,E,B,O,h4⟩:=a1 hg
    exact⟨A,E,B,O,by rw[vx rfl];exact h4⟩
   ·rename_i u
    exact⟨F,l,rfl,rfl,by rw[ne u]⟩
 have X:∀i F,i≠id→x.H i=some F→∀b k,x.β i=some (b,k)→w'.heap[b]?=x.w.heap[b]?:=by
  intro i F a7 u b k q
  refine Z b (j.own i F b k u q).1 λA J E B=>a7 (j.inj i id F A b k J u E q B)
 refine⟨M,λb q=>wZ (j.S_lt b q) w,λb q=>wZ (j.F_lt b q) w,j.SF,λi F l=>?_,λi F b k l q=>?_,λi i' o1 o2 b k J E B q C=>?_,j.tabs.le M⟩
 ·dsimp only at l ⊢
  split at l
  ·rename_i u;subst u
   cases l
   rw[vx rfl]
   exact⟨a0,a2 M⟩
  ·rename_i u
   rw[ne u]
   obtain⟨E,B⟩:=j.obj i F l
   exact⟨wZ E hn,B.mono M λb k q=>X i F (λe=>u e.symm) l b k q⟩
 ·dsimp only at l q ⊢
  split at q
  ·rename_i u;subst u
   obtain⟨E,B⟩:=hβ b k q
   refine⟨E,?_⟩
   rcases B with B | ⟨A,J,B,O⟩
   ·exact⟨λh=>by have:=j.S_lt b h;omega,λh=>by have:=j.F_lt b h;omega⟩
   ·exact(j.own id A b J B O).2
  ·rename_i u
   rw[ne u] at l
   have:=j.own i F b k l q
   exact⟨wZ this.1 w,this.2⟩
 ·dsimp only at E B q C
  by_cases u:id=i<;>by_cases I:id=i'
  ·rw[← u,← I]
  ·rw[vx u] at q
   rw[ne I] at B C
   have a8:=(j.own i' o2 b J B C).1
   rcases (hβ b k q).2 with O | ⟨A,k3,O,h4⟩
   ·omega
   ·exact absurd (j.inj id i' A o2 b k3 J O B h4 C) I
  ·rw[vx I] at C
   rw[ne u] at E q
   have a8:=(j.own i o1 b k E q).1
   rcases (hβ b J C).2 with O | ⟨A,k3,O,h4⟩
   ·omega
   ·exact absurd (j.inj id i A o1 b k3 k O E h4 q) u
  ·rw[ne u] at E q
   rw[ne I] at B C
   exact j.inj i i' o1 o2 b k J E B q C
def zF(z:Option Nat):Fence:={ Fence.wide with round:=z }
def H7(o:Oper):Bool:=match o.op with
 | .defer _=>false
 | _=>true
def DA:Code→Bool
 | .region _ ops _=>ops.toList.all H7
 | .seq x y=>DA x&&DA y
 | .cond _ x y=>DA x&&DA y
 | .block _ x=>DA x
 | .loop x=>DA x
 | .scope x=>DA x
 | .rangeFunc _ _ _ _=>false
 | _=>true
theorem YR{z}{ρ}{o:Oper}(h:z=none∨H7 o=true):o.semAt z ρ=execOp ρ o:=by
 rcases h with rfl | h
 ·exact Oper.semAt_none ρ o
 ·exact Oper.semAt_eq z ρ o λc j=>by unfold H7 at h;rw[j] at h;cases h
theorem mu{z}{P}{row}{args}{w}{R}(h:Rows P row args w R):RowsIn (zF z) (0-1) P row args w R:=
 λc j _=>let ⟨v,w',r,s⟩:=h c j;⟨v,w',r,stepsIn_wide.2 s⟩
theorem Xm{P}{o:Oper}{a:Act}{w}{K}{Q}{z}(j:z=none∨H7 o=true)(h:o.wp P a w K Q):o.wpIn (zF z) 0 P a w K Q:=by
 refine⟨λ_ _=>trivial,?_⟩
 rw[show(zF z).round=z from rfl,YR j]
 unfold Oper.wp at h
 generalize (execOp a.eval o).run P w=r at h ⊢
 cases r with
 | ok x w'=>
  cases x with
  | enter f args=>exact⟨λe=>(by cases e),callsIn_wide.2 h⟩
  | row l args=>exact⟨λe=>(by cases e),mu h⟩
  | value v=>exact h
  | skip=>exact h
  | defer d=>exact h
  | _=>exact h.elim
 | halt x w'=>cases x<;>first | exact h | exact h.elim
section
variable{P:Program}{ops:Array Oper}{Q:Exit→Act→World→Prop}
theorem QS(j:¬ LetsOut Q){z}(q:z=none∨ops.toList.all H7=true):∀(l:List Nat) (a:Act) (w:World),wpOps P ops Q l a w→wpOpsIn (zF z) 0 P ops Q l a w
 | [],_,_,h=>h
 | i::rest,a,w,h=>by
  simp only[wpOps] at h
  simp only[wpOpsIn]
  split
  ·rename_i u;rw[u] at h;exact QS j q rest a w h
  ·rename_i o u
   rw[u] at h
   simp only at h
   split
   ·rename_i A
    rw[vx A] at h
    rcases h with h | h
    ·refine Xm (q.imp id λB=>wT.1 B o ?_) (Oper.wp_mono (λa w=>QS j q rest a w) h)
     exact wj (by rw[xv];exact u)
    ·exact absurd h.2 j
   ·rename_i A
    rw[ne A] at h
    exact⟨λ_ _=>trivial,QS j q rest _ w h⟩
theorem mx(j:¬ LetsOut Q){z}{id}{a}{w}{l:List Oper}(q:z=none∨DA (.region id l.toArray false)=true)(h:wpList P l.toArray Q l a w):(Code.region id l.toArray false).wpIn (zF z) 0 P Q a w:=by
 refine wpIn_region (QS j (q.imp _root_.id λh=>h) _ a w ?_)
 rw[yu,← xG,wpOps_eq_wpList _ 0 (by simp)]
 exact h
theorem PR(j:¬ LetsOut Q){z}{id}{a}{w:World}(l:P.follows .mixedOrders=true)(q:z=none∨DA (.region id ops true)=true)
 (h:wpAny P .any ops Q ops.size (Array.replicate ops.size false) a { w with drawn := w.drawn+1 }):(Code.region id ops true).wpIn (zF z) 0 P Q a w :=
  wpIn_region_draw λt => by
    simp only[Region.schedule, l, yf, xm]
    exact QS j (q.imp _root_.id λh => h) _ a _ (wpAny_sound ops.size t _ a _ h)
theorem mE(q:¬ LetsOut Q){C}{z}{id}{a}{w:World}(u:P.follows .mixedOrders=true)(hB:Region.lexB .any ops=true)(A:z=none∨DA (.region id ops true)=true)(hC:C { w with drawn := w.drawn+1 })
 (h:wpQuiet P ops C (λj => ∀w', C w'→Q .normal j w') ops.toList a):(Code.region id ops true).wpIn (zF z) 0 P Q a w := by
  simp only[Region.lexB, v7] at hB
  refine PR q u A (wpAny_of_quiet (Q := λj => ∀w', C w'→Q .normal j w') (λ_ w' l h => h w' l) _ _ _ _ hC ?_)
  have := wpAnyQ_lex (C := C) (md := .any) hB.1 ops.toList 0 (Array.replicate ops.size false) a (by simp) (by simpa using hB.2) h
  simpa using this
theorem pI(U:¬ LetsOut Q){z}{id}{a}{w:World}{l:List Oper} n(V:P.follows .mixedOrders=true)(hB:Region.lexTailB .any l.toArray n=true)(X:z=none∨DA (.region id l.toArray true)=true)
 (h:wpStill P l.toArray { w with drawn := w.drawn+1 } (λF => wpList P l.toArray Q (l.drop n) F { w with drawn := w.drawn+1 }) (l.take n) a):(Code.region id l.toArray true).wpIn (zF z) 0 P Q a w := by
  simp only[Region.lexTailB, v7, vy] at hB
  obtain⟨⟨⟨⟨A, J⟩, Y⟩, Z⟩, B⟩ := hB
  have a0:n<l.length := by simpa using J
  have q:(l.take n).length=n := by simp;omega
  have C:(l.drop n).length=l.toArray.size - n := by simp
  have E:HeadInv .any l.toArray n (Array.replicate l.toArray.size false) :=
    ⟨by simp, λj oj _ M => (by rw[getD_replicate_false] at M;cases M), λt _ ht => getD_in (by simpa using ht) (getD_replicate_false _ _)⟩
  have H := wpAnyL_lex (md := .any) (g := l.toArray.size - n) A Y Z J (l.take n) 0 _ a (λj O => by
    have I:j<n := by rw[q] at O;exact O
    simp[I]) (by simpa using q) E (by rw[q];exact B) h
  refine PR U V X ?_
  have := wpAny_of_head (Q' := Q) (g := l.toArray.size - n) (λu F T => by
    have := wpAny_of_seq (md := .any) (Q' := Q) (l.drop n) n u F { w with drawn := w.drawn+1 } (λj => by simp[xW]) (by rw[C];exact T.1) T.2
    rwa [C] at this) _ _ _ H
  rw[q, show n+(l.toArray.size - n)=l.toArray.size by omega] at this
  exact this
end
structure St where
 e:Ab
 h:AS
 n:Nat
 N:Nat
def IV:Value→AV
 | .int k n=>.r (.int k n)
 | .bool b=>.r (.bool b)
 | .string s=>.r (.str s.data.toList)
 | v=>.cst v
def BR(R:Ab):Operand→AV
 | .tmp t=>get R t
 | .const v=>IV v
 | .global _=>.any
 | .func f=>.fn f []
def Ev(c:Bool)(R:Ab)(x:Operand)(v:AV):Prop:=BR R x=v∨∃j,(c=true→j=true)∧BR R x=.whn j v
def CK(x:Cx)(R:Ab)(a:Act):Prop:=∀t,AX x (get R t) (a.tmps.getD t undef)
theorem RI x v:AX x (IV v) v:=by
 cases v<;>first | exact .r (.int _ _) | exact .r (.bool _) | exact .r (.str _) | exact .cst _
theorem CK.eval{x}{R}{a:Act}(h:CK x R a)(o:Operand):AX x (BR R o) (a.eval o):=by
 cases o with
 | tmp t=>exact h t
 | const v=>exact RI x v
 | global g=>exact .any _
 | func f=>exact .fn rfl (λi c u h=>by simp at h)
theorem Ev.rep{x}{R}{a:Act}{c}{o}{v}(l:CK x R a)(h:Ev c R o v)(hc:c=true):AX x v (a.eval o):=by
 have j:=l.eval o
 rcases h with h | ⟨w,q,h⟩
 ·rwa [h] at j
 ·rw[h] at j
  cases j with
  | whn u _=>exact u (q hc)
theorem CK.mono{x y:Cx}(h:x.le y){R}{a}(j:CK x R a):CK y R a:=λt=>(j t).mono h
theorem Mv{a:Array Value}{d t}{u}(hd:d<a.size):(a.setIfInBounds d u).getD t undef=if d=t then u else a.getD t undef:=by
 by_cases h:d=t
 ·subst h;simp[hd]
 ·simp[h]
theorem D6 d v R t:get ((d,v)::R) t=if d=t then v else get R t:=by
 show(match Nat.beq d t with | true=>v | false=>get R t)=_
 cases h:Nat.beq d t with
 | true=>rw[vx (wI h)]
 | false=>rw[ne (zD h)]
theorem DC d v R t:hget ((d,v)::R) t=if d=t then v else hget R t:=by
 show(match Nat.beq d t with | true=>v | false=>hget R t)=_
 cases h:Nat.beq d t with
 | true=>rw[vx (wI h)]
 | false=>rw[ne (zD h)]
theorem C3{d N}(h:Nat.blt d N=true):d<N:=wx h
theorem CK.put{x}{R}{a:Act}{d}{v}{u}(hd:d<a.tmps.size)(j:CK x R a)(l:AX x v u) :
  CK x ((d,v)::R) (a.put (some d) u):=by
 intro t
 simp only[Act.put,Mv hd,D6]
 split
 ·exact l
 ·exact j t
def jH(c0:Cx)(ds:List Deferred)(y:Cx):Prop:=
 ds.Nodup∧∀d∈ds,∃D,d = { target:=.collected D,args:=#[] } ∧ c0.w.heap.size≤D∧y.S D∧y.w.heap[D]?=some (.deferred (some []))
structure Cx.leM(x:Cx)(ds:List Deferred)(y:Cx):Prop where
 le:x.le y
 marks:jH x ds y
theorem Cx.leM.refl(x:Cx):x.leM [] x:=⟨.refl x,List.Pairwise.nil,λd h=>by cases h⟩
theorem Cx.leM.trans{x y z:Cx}{ds}(h:x.leM ds y)(k:y.le z):x.leM ds z:=
 ⟨h.le.trans k,h.marks.1,λd hd=>let ⟨D,l,q,j,u⟩:=h.marks.2 d hd;⟨D,l,q,k.S D j,(k.blk D (.inl j)).trans u⟩⟩
def ES(c0:Cx)(s:St)(a:Act)(w:World):Prop:=
 ∃j,a.defers=j∧a.tmps.size=s.N∧∃y:Cx,y.w=w∧c0.leM j y∧y.ok∧y.H=hget s.h∧y.n=s.n∧CK y s.e a
def BV(P:Program)(c:Bool)(o:Oper)(R:Ab)(h:AS)(n:Nat)(v:AV)(h':AS)(j:Nat):Prop:=
 c=true→∀(x:Cx) (a:Act),x.ok→x.H=hget h→x.n=n→CK x R a→∀(K:Act→World→Prop) (Q:Exit→Act→World→Prop),
  (∀(u:Value) (y:Cx),x.le y→y.ok→y.H=hget h'→y.n=j→AX y v u→K (a.put o.dst u) y.w)→o.wp P a x.w K Q
def E4(x:Cx)(j:World):Prop:=∀b,(x.S b∨∃id o k,x.H id=some o∧x.β id=some (b,k))→j.heap[b]?=x.w.heap[b]?
theorem E4.cellS{x:Cx}{j:World}(h:E4 x j){b k}(l:x.S b):j.cell? ⟨b,k,none⟩=x.w.cell? ⟨b,k,none⟩:=World.cell?_of_block (h b (.inl l))
theorem E4.cellO{x:Cx}{l:World}(h:E4 x l){id b k j}{o}(q:x.H id=some o)(u:x.β id=some (b,k)):l.cell? ⟨b,j,none⟩=x.w.cell? ⟨b,j,none⟩:=World.cell?_of_block (h b (.inr ⟨id,o,k,q,u⟩))
def AU(P:Program)(c:Bool)(o:Oper)(R:Ab)(h:AS)(v:AV):Prop:=
 c=true→∀(x:Cx) (a:Act),x.ok→x.H=hget h→CK x R a→∃u,(∀j,E4 x j→(execOp a.eval o).run P j=.ok (.value u) j)∧AX x v u
theorem AU.spec{P}{c}{o}{R}{h}{v}(H:AU P c o R h v)(n:Nat):BV P c o R h n v h n:=by
 intro q x a j l w A K Q B
 obtain⟨u,C,E⟩:=H q x a j l A
 unfold Oper.wp
 rw[C x.w λ_ _=>rfl]
 exact B u x (.refl x) j l w E
def AN(P:Program)(ops:Array Oper)(rest:List Oper)(s:St)(K:St→Prop):Prop:=
 ∀(j:Cx) (a:Act) (w:World),ES j s a w→∀Q:Exit→Act→World→Prop,(∀l q w',K l→ES j l q w'→Q .normal q w')→wpList P ops Q rest a w
section
variable{P:Program}{ops:Array Oper}{rest:List Oper}{s:St}{K:St→Prop}{o:Oper}
theorem AN.nil(h:K s):AN P ops [] s K:=λ_ a w j _ l=>l s a w h j
theorem AN.step{d}{v}{h'}{O}(hg:o.guard=none)(hd:o.dst=some d)(U:Nat.blt d s.N=true)(V:BV P true o s.e s.h s.n v h' O)
 (X:AN P ops rest { e := (d, v)::s.e, h := h', n := O, N := s.N } K):AN P ops (o::rest) s K := by
  intro Y a w ⟨_, j, hsz, y, A, B, C, Z, hn, T⟩ Q hQ
  subst A
  refine wpList_plain hg λK' E => ?_
  refine V rfl y a C Z hn T K' Q λu z l q F I J => ?_
  refine E _ _ ?_
  have M:d<a.tmps.size := by rw[hsz];exact C3 U
  rw[hd]
  exact X Y (a.put (some d) u) z.w ⟨_, j, by simpa[Act.put] using hsz, z, rfl, B.trans l, q, F, I, (T.mono l).put M J⟩ Q hQ
theorem iu{v}{h'}{J}(hg:o.guard=none)(hd:o.dst=none)(O:BV P true o s.e s.h s.n v h' J)
 (T:AN P ops rest { e := s.e, h := h', n := J, N := s.N } K):AN P ops (o::rest) s K := by
  intro U a w ⟨_, j, hsz, y, A, B, C, V, X, M⟩ Q Y
  subst A
  refine wpList_plain hg λZ E => ?_
  refine O rfl y a C V X M Z Q λu z l q F I a0 => ?_
  refine E _ _ ?_
  rw[hd]
  exact T U _ _ ⟨_, j, hsz, z, rfl, B.trans l, q, F, I, M.mono l⟩ Q Y
end
def ED(c0:Cx)(Q:Exit→St→Prop)(e:Exit)(a:Act)(w:World):Prop:=e≠.outgrown∧∃j,Q e j∧ES c0 j a w
theorem KN{c0}{Q} : ¬ LetsOut (ED c0 Q):=λ⟨_,_,h,_⟩=>h rfl
theorem ED.mono{c0}{Q Q'}(h:∀e s,Q e s→Q' e s){e}{a}{w} : ED c0 Q e a w→ED c0 Q' e a w
 | ⟨l,j,q,u⟩=>⟨l,j,h e j q,u⟩
def AW(P:Program)(c:Code)(Q:Exit→St→Prop)(s:St):Prop:=
 ∀z:Option Nat,(z=none∨DA c=true)→∀(j:Cx) (a:Act) (w:World),ES j s a w→c.wpIn (zF z) 0 P (ED j Q) a w
def FQ(K:St→Prop)(Q:Exit→St→Prop):Exit→St→Prop
 | .normal,s=>K s
 | e,s=>Q e s
def Qz(id:Nat)(Q:Exit→St→Prop):Exit→St→Prop
 | .exit i,s=>if i=id then Q .normal s else Q (.exit i) s
 | e,s=>Q e s
def Ak(s s':St):Prop:=∀j a w,ES j s a w→ES j s' a w
section
variable{P:Program}{Q:Exit→St→Prop}{s:St}{x y:Code}
theorem AW.mono{Q'}(h:AW P x Q s)(j:∀e s,Q e s→Q' e s):AW P x Q' s:=
 λz l q a w u=>wpIn_mono (h z l q a w u) λ_ _ _ hp=>hp.mono j
theorem AW.weak{s'}(j:Ak s s')(h:AW P x Q s'):AW P x Q s:=λz l q a w u=>h z l q a w (j _ _ _ u)
theorem AW.skip(h:Q .normal s):AW P .skip Q s:=λ_ _ _ _ _ j=>wpIn_skip ⟨by simp,s,h,j⟩
theorem AW.ret(h:Q .ret s):AW P .ret Q s:=λ_ _ _ _ _ j=>wpIn_ret ⟨by simp,s,h,j⟩
theorem AW.exit{id}(h:Q (.exit id) s):AW P (.exit id) Q s:=λ_ _ _ _ _ j=>wpIn_exit ⟨by simp,s,h,j⟩
theorem AW.seq(h:AW P x (FQ (AW P y Q) Q) s):AW P (.seq x y) Q s:=by
 intro z E F a w I
 have B:z=none∨DA x=true:=E.imp id λh=>by simp only[DA,v7] at h;exact h.1
 have C:z=none∨DA y=true:=E.imp id λh=>by simp only[DA,v7] at h;exact h.2
 refine wpIn_seq (wpIn_mono (h z B F a w I) λe J w' ⟨q,A,u,j⟩=>?_)
 cases e with
 | normal=>exact u z C F J w' j
 | exit id=>exact⟨q,A,u,j⟩
 | goto l=>exact⟨q,A,u,j⟩
 | ret=>exact⟨q,A,u,j⟩
 | panic M=>exact⟨q,A,u,j⟩
 | outgrown=>exact absurd rfl q
theorem va(h:∀K:St→Prop,(∀s,AW P y Q s→K s)→AW P x (FQ K Q) s):AW P (.seq x y) Q s:=.seq (h _ λ_ h=>h)
theorem AW.block{id}(h:AW P x (Qz id Q) s):AW P (.block id x) Q s:=by
 intro z C E a w F
 refine wpIn_block (wpIn_mono (h z C E a w F) λe I w' ⟨A,u,q,j⟩=>?_)
 cases e with
 | exit i=>
  simp only[Qz,Exit.inBlock] at q ⊢
  split
  ·rename_i B;rw[vx B] at q;exact⟨by simp,u,q,j⟩
  ·rename_i B;rw[ne B] at q;exact⟨by simp,u,q,j⟩
 | normal=>exact⟨A,u,q,j⟩
 | goto l=>exact⟨A,u,q,j⟩
 | ret=>exact⟨A,u,q,j⟩
 | panic J=>exact⟨A,u,q,j⟩
 | outgrown=>exact absurd rfl A
theorem AW.cond{c}{b}(hc:BR s.e c=.r (.bool b))(C:b=true→AW P x Q s)(E:b=false→AW P y Q s):AW P (.cond c x y) Q s:=by
 intro z l q a w j
 have F:a.eval c=.bool b:=by
  obtain⟨_,_,_,z,_,_,_,_,_,I⟩:=j
  have A:=I.eval c
  rw[hc] at A
  cases A with
  | r B=>generalize a.eval c=u at B ⊢;cases B;rfl
 exact wpIn_cond_split F (λh=>C h z (l.imp id λh=>by simp only[DA,v7] at h;exact h.1) q a w j) (λh=>E h z (l.imp id λh=>by simp only[DA,v7] at h;exact h.2) q a w j)
theorem AW.loop(I:Nat→St→Prop)(m:Nat)(U:∃q,Ak s q∧I m q)(round:∀m s,I m s→AW P x (FQ (λq=>∃C,C<m∧∃u,Ak q u∧I C u) Q) s):AW P (.loop x) Q s:=by
 intro z V T a w X
 obtain⟨Y,E,F⟩:=U
 refine wpIn_loop_ghost (λk a w=>∃s,I k s∧ES T s a w) m ⟨Y,F,E _ _ _ X⟩ ?_
 intro k a w ⟨Z,hI,J⟩
 refine wpIn_mono (round k Z hI z (V.imp id λh=>h) T a w J) λe a' w' ⟨A,q,B,j⟩=>?_
 cases e with
 | normal=>
  obtain⟨C,M,u,hw,O⟩:=B
  exact⟨C,M,u,O,hw _ _ _ j⟩
 | exit id=>exact⟨A,q,B,j⟩
 | goto l=>exact⟨A,q,B,j⟩
 | ret=>exact⟨A,q,B,j⟩
 | panic ch=>exact⟨A,q,B,j⟩
 | outgrown=>exact absurd rfl A
theorem AW.region{id}{l:List Oper}(h:AN P l.toArray l s (Q .normal)):AW P (.region id l.toArray false) Q s:=by
 intro z q u a w A
 exact mx KN q (h u a w A _ λB E w' C j=>⟨by simp,B,C,j⟩)
end
theorem Ak.refl s:Ak s s:=λ_ _ _ h=>h
theorem Ak.trans{a b c}(h:Ak a b)(k:Ak b c):Ak a c:=λ_ _ _ x=>k _ _ _ (h _ _ _ x)
def Qc:AS→AS→Prop
 | [],_=>True
 | (id,o)::r,h=>(o=none∨hget h id=o)∧Qc r h
theorem Qc.get{h' h}(k:Qc h' h)(t:Nat):hget h' t=none∨hget h' t=hget h t:=by
 induction h' with
 | nil=>exact .inl rfl
 | cons p r l=>
  obtain⟨d,v⟩:=p
  rw[DC]
  split
  ·rename_i hd;subst hd
   rcases k.1 with j | j
   ·exact .inl j
   ·exact .inr j.symm
  ·exact l k.2
theorem i0{y:Cx}(j:y.ok) u(q:∀id o,u id=some o→y.H id=some o) w (B:y.n≤w) :
  y.le { y with H:=u,n:=w } ∧ ({ y with H:=u,n:=w } : Cx).ok:=by
 have l:y.le { y with H:=u,n:=w }:=⟨wL _,rfl,rfl,rfl,λ_ _=>rfl,λ_ h=>h,rfl,B,λid o h _=>⟨o,q id o h,rfl,rfl,rfl⟩⟩
 refine⟨l,j.S_lt,j.F_lt,j.SF,λid o h=>?_,λid o b k h=>j.own id o b k (q _ _ h),λid A o C b k E h F=>j.inj id A o C b k E (q _ _ h) (q _ _ F),j.tabs.le l⟩
 obtain⟨I,J⟩:=j.obj id o (q _ _ h)
 exact⟨wZ I B,J.mono l λ_ _ _=>rfl⟩
section
variable{x:Cx}{w':World}
def Lx(x:Cx)(w':World):Prop:=∀b,x.S b→w'.heap[b]?=x.w.heap[b]?∨∀k,x.w.cell? ⟨b,k,none⟩=none
theorem Lx.cell(h:Lx x w'){b k}{v}(j:x.S b)(hc:x.w.cell? ⟨b,k,none⟩=some v):w'.cell? ⟨b,k,none⟩=some v:=by
 rcases h b j with h | h
 ·rw[← hc];exact World.cell?_of_block h
 ·rw[h k] at hc;cases hc
theorem Bl.off(C:Lx x w'){d}{v}(h:Bl x.w x.S d v):Bl w' x.S d v:=by
 induction h with
 | int k n=>exact .int k n
 | bool b=>exact .bool b
 | str s=>exact .str s
 | snil=>exact .snil
 | sl0 a=>exact .sl0 a
 | sl b off w cap size u l E F hsz j A I=>
  refine .sl b off w cap size u l E F hsz (λi row c x B J=>?_) I
  have q:w≠[]:=by rintro rfl;simp at B
  exact C.cell (l q) (j i row c x B J)
 | any v h=>exact .any v h
theorem AX.off(C:Lx x w'){a}{v}(J:AX x a v):AX { x with w:=w' } a v:=by
 induction J with
 | r A=>exact .r (A.off C)
 | agg B _ l=>exact .agg B l
 | tup B _ l=>exact .tup B l
 | own hg q w=>exact .own hg q w
 | ptr hg q w=>exact .ptr hg q w
 | mref hg q w=>exact .mref hg q w
 | yld hg q w=>exact .yld hg q w
 | full A M=>exact .full (A.off C) M
 | @rop row k b off u I O A=>
  refine .rop u I (λj d E=>?_) (λj d E=>(A j d E).off C)
  have F:row≠[]:=λe=>by subst e;simp at E
  exact C.cell (I F) (O j d E)
 | fn B _ l=>exact .fn B l
 | cst v=>exact .cst v
 | whn _ T l=>exact .whn l T
 | any v=>exact .any v
theorem E6.off(M:Lx x w'){β}(q:∀b k,β=some (b,k)→w'.heap[b]?=x.w.heap[b]?){o}(O:E6 x β o):E6 { x with w:=w' } β o:=by
 have J:∀ {e:TypeId} {sz:Nat} {w:Value} {len:Nat} {F:List Value},EQ β len w→x.w.ownsRow 0 e sz w len F→w'.ownsRow 0 e sz w len F:=by
  intro e sz w len F l ⟨hl,X⟩
  refine⟨hl,?_⟩
  rcases X with X | ⟨gg,cap,T,hv,A,C,I,U,Y,Z⟩
  ·exact .inl X
  ·refine .inr ⟨gg,cap,T,hv,A,?_,I,U,Y,Z⟩
   rw[← C]
   subst hv
   cases β with
   | none=>obtain⟨_,l⟩:=l;cases l
   | some p=>
    obtain⟨b,k⟩:=p
    simp only[EQ,Value.slice.injEq,wP,Addr.mk.injEq] at l
    rw[l.1.1]
    exact q b k rfl
 cases o with
 | arr g e sz xs=>
  obtain⟨h0,A,w,F,l,E,V⟩:=O
  exact⟨h0,A,w,F,l,J l E,λi row c d A C=>let ⟨u,I,U⟩:=V i row c d A C;⟨u,I,U.off M⟩⟩
 | box g e cs=>
  obtain⟨b,T,B,l,hs,V⟩:=O
  exact⟨b,T,B,(q b 1 B).trans l,hs,λj c hj=>let ⟨u,A,C,I⟩:=V j c hj;⟨u,A,C,I.off M⟩⟩
 | hot g e xs k id g'=>
  obtain⟨h0,A,w,F,l,E,V,u0,hk,hu⟩:=O
  exact⟨h0,A,w,F,l,J l E,λi row d a0 A C=>let ⟨u,I,U⟩:=V i row d a0 A C;⟨u,I,U.off M⟩,u0,hk,hu.off M⟩
 | it g s pos=>obtain⟨b,B,l⟩:=O;exact⟨b,B,(q b 1 B).trans l⟩
 | mp g ks vs clock=>obtain⟨b,F,B,A,C,l,V⟩:=O;exact⟨b,F,B,A,C,(q b 1 B).trans l,λj c u k1 k2=>(V j c u k1 k2).off M⟩
 | mi g a7 mg a1 Ce last=>obtain⟨b,m,B,l,hm⟩:=O;exact⟨b,m,B,(q b 1 B).trans l,hm.off M⟩
 | lp g e N ps assign a2 st a6=>
  obtain⟨b,r,B,l,A,C,I,U,Y,Z,he⟩:=O
  exact⟨b,r,B,(q b 1 B).trans l,A,C,I,U,Y,Z,λt=>(he t).off M⟩
end
theorem vW{y:Cx}(j:y.ok){D}(I:y.S D)(hc:∀k,y.w.cell? ⟨D,k,none⟩=none)(J:∃W0:World,YY W0∧Go.RowKit.Below W0.heap.size W0 y.w∧(∀b,b<W0.heap.size→y.S b)∧W0.heap.size≤D)(o:Obj):Lx y (y.w.putObj D o)∧({ y with w:=y.w.putObj D o } : Cx).ok:=by
 have l:Lx y (y.w.putObj D o):=λb _=>by
  by_cases h:b=D
  ·subst h;exact .inr hc
  ·exact .inl (World.putObj_heap_other h)
 refine⟨l,?_⟩
 refine⟨λb q=>by show b<(y.w.putObj D o).heap.size;rw[World.putObj_size];exact j.S_lt b q,λb q=>by show b<(y.w.putObj D o).heap.size;rw[World.putObj_size];exact j.F_lt b q,j.SF,λid B h=>?_,λid B b k w u=>?_,j.inj,?_⟩
 ·obtain⟨w,u⟩:=j.obj id B h
  exact⟨w,u.off l λb k q=>World.putObj_heap_other λe=>by subst e;exact(j.own id B b k h q).2.1 I⟩
 ·have:=j.own id B b k w u
  exact⟨by show b<(y.w.putObj D o).heap.size;rw[World.putObj_size];exact this.1,this.2⟩
 ·refine⟨λg row hg=>(j.tabs.tab g row hg).off l,λg M hg=>?_,by
   obtain⟨W0,O,A,T,U⟩:=J
   exact⟨W0,O,⟨A.os,A.tape,A.output,by rw[World.putObj_size];exact A.size,λb q=>(World.putObj_heap_other (by omega)).trans (A.block b q)⟩,T⟩⟩
  obtain⟨w,F,t,p,u⟩:=j.tabs.whole g M hg
  refine⟨w,F,t,p,?_⟩
  have E:g≠D:=by
   intro e
   subst e
   have C:=hc 0
   unfold World.cell? at C
   rw[u] at C
   simp only[wl F] at C
   cases C
  show(y.w.putObj D o).heap[g]?=_
  rw[World.putObj_heap_other E,u]
theorem iU{P}{fn}{tmps:Array Value}{R}{c0:Cx}{e} : ∀(ds:List Deferred) (y:Cx),y.ok→c0.ok→c0.leM ds y→(∀t,AX y (get e t) (tmps.getD t undef)) →
  (∀q,c0.le q→q.ok→q.H=y.H→q.n=y.n→(∀t,AX q (get e t) (tmps.getD t undef))→∃u,(results fn tmps).run P q.w=.ok u q.w∧R (.returned u) q.w)→LeavesInM Fence.wide 0 P fn tmps R ds .returning y.w
 | [],y,w,_,j,J,A=>A y j.le w rfl rfl J
 | d::ds,y,w,l,j,J,A=>by
  obtain⟨D,M,V,X,O⟩:=j.marks.2 d (v8 ..)
  have E:=List.nodup_cons.1 j.marks.1
  have Y:∀k,y.w.cell? ⟨D,k,none⟩=none:=λk=>by simp[World.cell?,O]
  obtain⟨Z,t2⟩:=vW w X Y (by
   obtain⟨W0,f1,C,T⟩:=l.tabs.fact
   exact⟨W0,f1,⟨j.le.os.trans C.os,j.le.tape.trans C.tape,j.le.output.trans C.output,w0 C.size j.le.size,λb B=>(j.le.blk b (.inl (T b B))).trans (C.block b B)⟩,λb B=>j.le.S b (T b B),w0 C.size V⟩) (.deferred none)
  have F:c0.le { y with w:=y.w.putObj D (.deferred none) }:=
   ⟨by show _≤(y.w.putObj D (.deferred none)).heap.size;rw[World.putObj_size];exact j.le.size,j.le.os,j.le.tape,j.le.output,λb B=>by
    refine(World.putObj_heap_other λe=>?_).trans (j.le.blk b B)
    subst e
    have:=B.elim (l.S_lt b) (l.F_lt b)
    omega,j.le.S,j.le.F,j.le.n,j.le.H⟩
  refine⟨by simp,.inl ⟨D,_,by rw[M],run_takeDeferred O,?_⟩⟩
  refine iU ds { y with w:=y.w.putObj D (.deferred none) } t2 l ⟨F,E.2,λd' I=>?_⟩ (λt=>(J t).off Z) λq k1 k2 k3 k4 k5=>A q k1 k2 k3 k4 k5
  obtain⟨D',U,e2,e3,e4⟩:=j.marks.2 d' (wC _ I)
  refine⟨D',U,e2,e3,(World.putObj_heap_other λe=>?_).trans e4⟩
  subst e
  exact E.1 (by rw[M,← U];exact I)
theorem T8{P:Program}{f}{fn:Func}{code}{vs:Array Value}{R}{c0:Cx}{I}{Q}(U:P.funcs[f]?=some fn)(V:fn.body=some code)(j:c0.ok)
 (l:ES c0 I { tmps := vs++Array.replicate (fn.ntmps - vs.size) undef, defers := [] } c0.w) (X:AW P code Q I)
 (q:∀(e:Exit) (s:St) (a:Act) (y:Cx), Q e s→c0.le y→y.ok→y.H=hget s.h→y.n=s.n→CK y s.e a→(e=.normal∨e=.ret)∧∃u, (results fn a.tmps).run P y.w=.ok u y.w∧R (.returned u) y.w):Calls P f vs c0.w R := by
  refine callsIn_wide.1 (callsIn_of_wp_marks (n := 0) U V trivial (wpIn_mono (X none (.inl rfl) c0 _ _ l) λe a w ⟨ho, s, J, Y⟩ => ?_))
  obtain⟨Z, A, _, y, E, B, C, M, O, T⟩ := Y
  subst E
  have key:LeavesInM Fence.wide 0 P fn a.tmps R a.defers .returning y.w := by
    rw[A]
    exact iU (e := s.e) Z y C j B T λy' k1 k2 k3 k4 k5 => (q e s a y' J k1 k2 (k3.trans M) (k4.trans O) k5).2
  have F := (q e s a y J B.le C M O T).1
  rcases F with rfl | rfl
  · exact key
  · exact key
def Gm:TypeDesc→Bool
 | .struct _ | .array _ _=>false
 | _=>true
def Bh(P:Program)(t:TypeId):Prop:=∃d i,P.underlying t=some d∧Gm d=true∧P.info? t=some i∧i.size=1
def Bj(P:Program)(t:TypeId)(sz:Nat):Prop:=∃d i,P.underlying t=some d∧Gm d=false∧P.info? t=some i∧i.size=sz
def Fv(P:Program)(t e:TypeId)(sz:Nat):Prop:=P.underlying t=some (.slice e)∧∃i,P.info? e=some i∧i.size=sz
def AY(P:Program)(t:TypeId)(f off:Nat):Prop:=∃l j i,P.underlying t=some (.struct l)∧l[f]?=some j∧j.offset=off∧P.info? j.type=some i∧i.size≠0
section
variable{P:Program}{c:Bool}{o:Oper}{R:Ab}{h:AS}
theorem KT{t}{d}(hd:P.underlying t=some d) w:(isAgg t).run P w=.ok (!Gm d) w:=by
 cases d<;>simp[isAgg,run_underlying hd,Gm]
theorem Ei{t}{i:TypeInfo}(j:P.info? t=some i) w:(sizeOf t).run P w=.ok i.size w:=by
 simp[sizeOf,typeInfo,j]
theorem AK{x}{v}(j:o.op=.move x)(l:Ev c R x v):AU P c o R h v:=by
 intro q y a _ _ u
 exact⟨a.eval x,λ_ _=>by unfold execOp;rw[j];rfl,l.rep u q⟩
theorem Do{x}{v}(j:o.op=.assign x)(l:Ev c R x v):AU P c o R h v:=by
 intro q y a _ _ u
 exact⟨a.eval x,λ_ _=>by unfold execOp;rw[j];rfl,l.rep u q⟩
theorem Cw{x}{k}{n}{v}(h:AX x (.r (.int k n)) v):v=.int k n:=by
 cases h with
 | r h=>cases h;rfl
theorem HC{x}{b}{v}(h:AX x (.r (.bool b)) v):v=.bool b:=by
 cases h with
 | r h=>cases h;rfl
theorem Hy{x}{s:List UInt8}{v}(h:AX x (.r (.str s)) v):v=.string ⟨s.toArray⟩:=by
 cases h with
 | r h=>cases h;rfl
theorem E7{op}{t q}{x y}{k}{m n}{v}{u}(A:o.op=.binOp op t x y q)(B:Ev c R x (.r (.int k m)))(C:Ev c R y (.r (.int k n)))
 (E:∀w, (binOp op t (.int k m) (.int k n)).run P w=.ok u w) (F:∀w S, Bl w S v u):AU P c o R h (.r v) := by
  intro j z a _ _ l
  refine⟨u, λJ I => ?_, .r (F _ _)⟩
  unfold execOp
  rw[A]
  simp only[Cw (B.rep l j), Cw (C.rep l j), eqGuard_at_int]
  simp[E]
theorem ou{t j}{x y}{k:IntKind}{m n}(l:o.op=.binOp .add t x y j)(q:Ev c R x (.r (.int k m)))(u:Ev c R y (.r (.int k n)))
 (A:k.wrap (m+n)=m+n):AU P c o R h (.r (.int k (m+n))) :=
  E7 l q u (λw => by rw[binOp_add];simp only[Op.intArith, A];rfl) (λ_ _ => .int _ _)
theorem od{t j}{x y}{k:IntKind}{m n}(l:o.op=.binOp .sub t x y j)(q:Ev c R x (.r (.int k m)))(u:Ev c R y (.r (.int k n)))
 (A:k.wrap (m - n)=m - n):AU P c o R h (.r (.int k (m - n))) :=
  E7 l q u (λw => by rw[binOp_sub];simp only[Op.intArith, A];rfl) (λ_ _ => .int _ _)
theorem ol{t j}{x y}{k:IntKind}{m n}(l:o.op=.binOp .mul t x y j)(q:Ev c R x (.r (.int k m)))(u:Ev c R y (.r (.int k n)))
 (A:k.wrap (m * n)=m * n):AU P c o R h (.r (.int k (m * n))) :=
  E7 l q u (λw => by rw[binOp_mul];simp only[Op.intArith, A];rfl) (λ_ _ => .int _ _)
theorem kG{t j}{x y}{k:IntKind}{m n}(l:o.op=.binOp .add t x y j)(q:Ev c R x (.r (.int k m)))(u:Ev c R y (.r (.int k n))) :
  AU P c o R h (.r (.int k (k.wrap (m+n)))):=
 E7 l q u (λw=>by rw[binOp_add];simp only[Op.intArith];rfl) (λ_ _=>.int _ _)
theorem mR{t j}{x y}{k:IntKind}{m n}(l:o.op=.binOp .sub t x y j)(q:Ev c R x (.r (.int k m)))(u:Ev c R y (.r (.int k n))) :
  AU P c o R h (.r (.int k (k.wrap (m-n)))):=
 E7 l q u (λw=>by rw[binOp_sub];simp only[Op.intArith];rfl) (λ_ _=>.int _ _)
theorem pm{t j}{x y}{k:IntKind}{m n:Int}(l:o.op=.binOp .quo t x y j)(q:Ev c R x (.r (.int k m)))(u:Ev c R y (.r (.int k n)))
 (A:n≠0) (B:k.wrap (m.tdiv n)=m.tdiv n):AU P c o R h (.r (.int k (m.tdiv n))) :=
  E7 l q u (λw => by rw[binOp_quo];simp only[Op.intDiv, ne A, B];rfl) (λ_ _ => .int _ _)
theorem kZ{t j}{x y}{k}{m n:Int}(l:o.op=.binOp .rem t x y j)(q:Ev c R x (.r (.int k m)))(u:Ev c R y (.r (.int k n)))
 (A:n≠0):AU P c o R h (.r (.int k (m.tmod n))) :=
  E7 l q u (λw => by rw[binOp_rem];simp only[Op.intDiv, ne A];rfl) (λ_ _ => .int _ _)
theorem Aq{t j}{x y}{k}{m n}(l:o.op=.binOp .eql t x y j)(q:Ev c R x (.r (.int k m)))(u:Ev c R y (.r (.int k n))) :
  AU P c o R h (.r (.bool (decide (m=n)))):=
 E7 l q u (λw=>by rw[binOp_eql];rfl) (λ_ _=>.bool _)
theorem Cf{t j}{x y}{k}{m n}(l:o.op=.binOp .neq t x y j)(q:Ev c R x (.r (.int k m)))(u:Ev c R y (.r (.int k n))) :
  AU P c o R h (.r (.bool (!(m=n)))):=
 E7 l q u (λw=>by rw[binOp_neq];rfl) (λ_ _=>.bool _)
theorem B7{t j}{x y}{k}{m n}(l:o.op=.binOp .lss t x y j)(q:Ev c R x (.r (.int k m)))(u:Ev c R y (.r (.int k n))) :
  AU P c o R h (.r (.bool (decide (m<n)))):=
 E7 l q u (λw=>by rw[binOp_lss];rfl) (λ_ _=>.bool _)
theorem FC{t j}{x y}{k}{m n}(l:o.op=.binOp .leq t x y j)(q:Ev c R x (.r (.int k m)))(u:Ev c R y (.r (.int k n))) :
  AU P c o R h (.r (.bool (decide (m≤n)))):=
 E7 l q u (λw=>by rw[binOp_leq];rfl) (λ_ _=>.bool _)
theorem BD{t j}{x y}{k}{m n}(l:o.op=.binOp .gtr t x y j)(q:Ev c R x (.r (.int k m)))(u:Ev c R y (.r (.int k n))) :
  AU P c o R h (.r (.bool (decide (n<m)))):=
 E7 l q u (λw=>by rw[binOp_gtr];rfl) (λ_ _=>.bool _)
theorem Cs{t j}{x y}{k}{m n}(l:o.op=.binOp .geq t x y j)(q:Ev c R x (.r (.int k m)))(u:Ev c R y (.r (.int k n))) :
  AU P c o R h (.r (.bool (decide (n≤m)))):=
 E7 l q u (λw=>by rw[binOp_geq];rfl) (λ_ _=>.bool _)
def A1(a b:List UInt8):Bool:=Op.bytesLess a b
theorem KX{op}{t q}{x y}{a b:List UInt8}{v}{u}(A:o.op=.binOp op t x y q)(B:Ev c R x (.r (.str a)))(C:Ev c R y (.r (.str b)))
 (E:∀w, (binOp op t (.string ⟨a.toArray⟩) (.string ⟨b.toArray⟩)).run P w=.ok u w) (F:∀w S, Bl w S v u):AU P c o R h (.r v) := by
  intro j z w _ _ l
  refine⟨u, λJ I => ?_, .r (F _ _)⟩
  unfold execOp
  rw[A]
  simp only[Hy (B.rep l j), Hy (C.rep l j), eqGuard_at_string]
  simp[E]
theorem Bo{t j}{x y}{a b}(l:o.op=.binOp .eql t x y j)(q:Ev c R x (.r (.str a)))(u:Ev c R y (.r (.str b))) :
  AU P c o R h (.r (.bool (decide (a=b)))):=
 KX (u:=.bool (a==b)) l q u (λw=>by simp[binOp,Op.stringOp,ByteArray.toList_eq]) (λ_ _=>by
  have:(a==b)=decide (a=b):=by by_cases h:a=b<;>simp[h]
  rw[this];exact .bool _)
theorem Ds{t j}{x y}{a b}(l:o.op=.binOp .neq t x y j)(q:Ev c R x (.r (.str a)))(u:Ev c R y (.r (.str b))) :
  AU P c o R h (.r (.bool (!(a=b)))):=
 KX (u:=.bool (!(a==b))) l q u (λw=>by simp[binOp,Op.stringOp,ByteArray.toList_eq]) (λ_ _=>by
  have:(a==b)=decide (a=b):=by by_cases h:a=b<;>simp[h]
  rw[this];exact .bool _)
theorem LH{t j}{x y}{a b}(l:o.op=.binOp .lss t x y j)(q:Ev c R x (.r (.str a)))(u:Ev c R y (.r (.str b))) :
  AU P c o R h (.r (.bool (A1 a b))):=
 KX (u:=.bool (A1 a b)) l q u (λw=>by simp[binOp,Op.stringOp,ByteArray.toList_eq,A1]) (λ_ _=>.bool _)
theorem V8{t j}{x y}{a b}(l:o.op=.binOp .geq t x y j)(q:Ev c R x (.r (.str a)))(u:Ev c R y (.r (.str b))) :
  AU P c o R h (.r (.bool (!A1 a b))):=
 KX (u:=.bool (!A1 a b)) l q u (λw=>by simp[binOp,Op.stringOp,ByteArray.toList_eq,A1]) (λ_ _=>.bool _)
theorem hJ{t j}{x y}{a b}(l:o.op=.binOp .leq t x y j)(q:Ev c R x (.r (.str a)))(u:Ev c R y (.r (.str b))) :
  AU P c o R h (.r (.bool (A1 a b||(a=b)))):=
 KX (u:=.bool (A1 a b||(a==b))) l q u (λw=>by simp[binOp,Op.stringOp,ByteArray.toList_eq,A1]) (λ_ _=>by
  have:(a==b)=decide (a=b):=by by_cases h:a=b<;>simp[h]
  rw[this];exact .bool _)
theorem rz{t j}{x y}{a b}(l:o.op=.binOp .gtr t x y j)(q:Ev c R x (.r (.str a)))(u:Ev c R y (.r (.str b))) :
  AU P c o R h (.r (.bool (!(A1 a b||(a=b))))):=
 KX (u:=.bool (!(A1 a b||(a==b)))) l q u (λw=>by simp[binOp,Op.stringOp,ByteArray.toList_eq,A1]) (λ_ _=>by
  have:(a==b)=decide (a=b):=by by_cases h:a=b<;>simp[h]
  rw[this];exact .bool _)
theorem jX{t l}{x y}{a b:List UInt8}(q:o.op=.binOp .add t x y l)(u:Ev c R x (.r (.str a)))(A:Ev c R y (.r (.str b)))
 (C:a.length+b.length≤9223372036854775807):AU P c o R h (.r (.str (a++b))) :=
  KX (u := .string (⟨a.toArray⟩++⟨b.toArray⟩)) q u A (λw => by
    have j:(⟨a.toArray⟩:ByteArray).size=a.length := rfl
    have B:(⟨b.toArray⟩:ByteArray).size=b.length := rfl
    have:¬ (9223372036854775807:Int)<(a.length:Int)+(b.length:Int) := by omega
    simp[binOp, Op.stringOp, j, B, this]) (λw S => by
    have j:(a++b)=((⟨a.toArray⟩:ByteArray)++⟨b.toArray⟩).data.toList := by simp[ByteArray.data_append]
    rw[j];exact .str _)
theorem A0{t}{x}{b}(j:o.op=.unOp .not t x)(l:Ev c R x (.r (.bool b))):AU P c o R h (.r (.bool (!b))):=by
 intro q z w _ _ u
 refine⟨.bool (!b),λB A=>?_,.r (.bool _)⟩
 unfold execOp
 rw[j]
 simp[HC (l.rep u q),Op.unary]
theorem sc{t}{x}{k:IntKind}{m}(j:o.op=.unOp .neg t x)(l:Ev c R x (.r (.int k m)))(q:k.wrap (-m) = -m):AU P c o R h (.r (.int k (-m))):=by
 intro u z w _ _ A
 refine⟨.int k (-m),λC B=>?_,.r (.int _ _)⟩
 unfold execOp
 rw[j]
 simp[Cw (l.rep A u),Op.unary,Op.intArith,q]
theorem BP{x y}{a b}(q:o.op=.pick x y (.const (.bool false)))(u:Ev c R x (.r (.bool a)))(A:Ev (c&&(a==true)) R y (.r (.bool b))) :
  AU P c o R h (.r (.bool (a&&b))):=by
 intro j z w _ _ l
 refine⟨.bool (a&&b),λE B=>?_,.r (.bool _)⟩
 unfold execOp
 rw[q]
 simp only[HC (u.rep l j),asBool]
 cases a with
 | true=>
  have C:w.eval y=.bool b:=HC (A.rep l (by simp[j]))
  simp[C]
 | false=>simp[Act.eval]
theorem CM{x y}{a b}(q:o.op=.pick x (.const (.bool true)) y)(u:Ev c R x (.r (.bool a)))(A:Ev (c&&(a==false)) R y (.r (.bool b))) :
  AU P c o R h (.r (.bool (a||b))):=by
 intro j z w _ _ l
 refine⟨.bool (a||b),λE B=>?_,.r (.bool _)⟩
 unfold execOp
 rw[q]
 simp only[HC (u.rep l j),asBool]
 cases a with
 | false=>
  have C:w.eval y=.bool b:=HC (A.rep l (by simp[j]))
  simp[C]
 | true=>simp[Act.eval]
theorem TT{x:Cx}{xs:List (List RV)}{v}(j:AX x (.r (.sl xs)) v):(xs=[]∧(v=.slice none 0 0∨∃a,v=.slice (some a) 0 0)) ∨
  ∃(b off cap size:Nat) (u:Nat→Nat→Value),v=.slice (some ⟨b,off,none⟩) xs.length cap∧(xs≠[]→x.S b)∧xs.length≤cap∧cap≤maxLen∧(∀row∈xs,row.length=size) ∧
   (∀i row k d,xs[i]?=some row→row[k]?=some d→x.w.cell? ⟨b,off+i * size+k,none⟩=some (u i k)) ∧
   ∀i row k d,xs[i]?=some row→row[k]?=some d→Bl x.w x.S d (u i k):=by
 cases j with
 | r h=>cases h with
  | snil=>exact .inl ⟨rfl,.inl rfl⟩
  | sl0 a=>exact .inl ⟨rfl,.inr ⟨a,rfl⟩⟩
  | sl b off _ cap size u l q w A B C=>exact .inr ⟨b,off,cap,size,u,rfl,l,q,w,A,B,C⟩
theorem fp{t}{e}{sz}{x}{xs:List (List RV)}(A:o.op=.call { callee:=.builtin .len,args:=#[x],argTypes:=#[t] })(l:Fv P t e sz)(B:Ev c R x (.r (.sl xs))) :
  AU P c o R h (.r (.int .i64 xs.length)):=by
 intro C z w _ _ E
 refine⟨.int .i64 xs.length,λI F=>?_,.r (.int _ _)⟩
 unfold execOp
 rw[A]
 rcases TT (B.rep E C) with ⟨q,j | ⟨a,j⟩⟩ | ⟨b,off,cap,size,u,j,_⟩
 ·subst q;simp[resolve,invoke,builtin,j,Builtin.len_,run_underlying l.1,goInt]
 ·subst q;simp[resolve,invoke,builtin,j,Builtin.len_,run_underlying l.1,goInt]
 ·simp[resolve,invoke,builtin,j,Builtin.len_,run_underlying l.1,goInt]
theorem iN{t}{e e'}{sz l}{x}{id g}{xs:List (List RV)}(B:o.op=.call { callee := .builtin .len, args := #[x], argTypes := #[t] })(q:Fv P t e sz)(C:Ev c R x (.own id g))
 (E:hget h id=some (.arr g e' l xs)):AU P c o R h (.r (.int .i64 xs.length)) := by
  intro F z w _ I J
  refine⟨.int .i64 xs.length, λU M => ?_, .r (.int _ _)⟩
  unfold execOp
  rw[B]
  have u := C.rep J F
  generalize A:w.eval x=v at u
  cases u with
  | own _ _ O =>
    have j := O _ (by rw[I];exact E) rfl
    simp only[A9.shape] at j
    unfold EQ at j
    split at j
    · obtain⟨T, rfl⟩ := j
      simp[resolve, invoke, builtin, A, T, Builtin.len_, run_underlying q.1, goInt]
    · subst j
      simp[resolve, invoke, builtin, A, Builtin.len_, run_underlying q.1, goInt]
theorem rd{t}{e}{sz}{x}(l:o.op=.call { callee:=.builtin .len,args:=#[x],argTypes:=#[t] })(q:Fv P t e sz)(u:Ev c R x (.cst (.slice none 0 0))) :
  AU P c o R h (.r (.int .i64 0)):=by
 intro A z w _ _ B
 refine⟨.int .i64 0,λF C=>?_,.r (.int _ _)⟩
 unfold execOp
 rw[l]
 have j:=u.rep B A
 generalize E:w.eval x=v at j
 cases j
 simp[resolve,invoke,builtin,E,Builtin.len_,run_underlying q.1,goInt]
theorem DE{t}{x}{s:List UInt8}(j:o.op=.call { callee:=.builtin .len,args:=#[x],argTypes:=#[t] })(l:P.underlying t=some .string)(q:Ev c R x (.r (.str s))) :
  AU P c o R h (.r (.int .i64 s.length)):=by
 intro u z w _ _ A
 refine⟨.int .i64 s.length,λC B=>?_,.r (.int _ _)⟩
 unfold execOp
 rw[j]
 have hsz:(⟨s.toArray⟩:ByteArray).size=s.length:=rfl
 simp[resolve,invoke,builtin,Hy (q.rep A u),Builtin.len_,run_underlying l,goInt,hsz]
theorem cU{t e}{sz}{x i}{xs:List (List RV)}{k}{n:Int}{row:List RV}(Z:o.op=.indexAddr t x i)(ht:Fv P t e sz)(hx:Ev c R x (.r (.sl xs)))
 (hi:Ev c R i (.r (.int k n))) (h0:c=true→0≤n) (A:c=true→xs[n.toNat]?=some row) (B:row.length=sz):AU P c o R h (.rop row 0) := by
  intro I z w _ _ X
  obtain⟨M, ii, O, T⟩ := ht
  have J := A I
  have C:n.toNat<xs.length := (wA.1 J).1
  have U := h0 I
  have E:n<xs.length := by omega
  rcases TT (hx.rep X I) with ⟨h1, _⟩ | ⟨b, off, cap, size, u, h2, hS, Y, hm, hsz, l, F⟩
  · subst h1;simp at C
  · have q:size=sz := by rw[← hsz row (wj J)];exact B
    subst q
    refine⟨.pointer (some ⟨b, (off+n.toNat * size)+0, none⟩), λw2 a0 => ?_, .rop (λj => u n.toNat j) (λ_ => hS (by rintro rfl;simp at C)) (λj d V => l _ _ _ _ J V) (λj d V => F _ _ _ _ J V)⟩
    unfold execOp
    rw[Z]
    simp[h2, Cw (hi.rep X I), Instr.indexAt, asIntOf, run_underlying M, U, E, Ei O, T, Addr.add_lit]
theorem RB{x:Cx}(j:x.ok){id g}{e}{sz}{xs:List (List RV)}{v}(A:x.H id=some (.arr g e sz xs))(l:AX x (.own id g) v) :
  0<sz∧(∀row∈xs,row.length=sz)∧∃us,EQ (x.β id) xs.length v∧x.w.ownsRow 0 e sz v xs.length us ∧
   ∀i row c d,xs[i]?=some row→row[c]?=some d→∃u,us[i * sz+c]?=some u∧Bl x.w x.S d u:=by
 obtain⟨_,C,E,q,us,w,F,I⟩:=j.obj _ _ A
 cases l with
 | own _ _ l=>
  have B:=l _ A rfl
  simp only[A9.shape] at B
  have:v=q:=by
   unfold EQ at w B
   split at w<;>simp_all
  subst this
  exact⟨C,E,us,w,F,I⟩
theorem fP{t e}{sz}{x i}{id g}{e'}{xs:List (List RV)}{k}{n:Int}(T:o.op=.indexAddr t x i)(U:Fv P t e sz)(V:Ev c R x (.own id g))
 (X:hget h id=some (.arr g e' sz xs)) (Y:Ev c R i (.r (.int k n))) (Z:c=true→0≤n) (h1:c=true→n<xs.length):AU P c o R h (.ptr id g n.toNat 0) := by
  intro u z w A hH J
  obtain⟨B, ii, C, E⟩ := U
  have F := Z u
  have l := h1 u
  have j:z.H id=some (.arr g e' sz xs) := by rw[hH];exact X
  have M := V.rep J u
  obtain⟨_, _, us, hd, _, _⟩ := RB A j M
  have hg:g<z.n := by cases M with | own hg _ _ => exact hg
  cases I:z.β id with
  | none => rw[I] at hd;have := hd.1;omega
  | some p =>
    obtain⟨b, cap⟩ := p
    rw[I] at hd
    simp only[EQ] at hd
    refine⟨.pointer (some ⟨b, n.toNat * sz+0, none⟩), λw2 a0 => ?_, .ptr hg rfl λo' q O => ?_⟩
    · unfold execOp
      rw[T]
      simp[hd, Cw (Y.rep J u), Instr.indexAt, asIntOf, run_underlying B, F, l, Ei C, E, Addr.add_lit]
    · rw[j] at q;cases q
      exact⟨b, cap, I, rfl⟩
end
section
variable{P:Program}{c:Bool}{o:Oper}{R:Ab}{h:AS}
theorem ci{t}{x i}{s:List UInt8}{k}{n:Int}{l:UInt8}(B:o.op=.index t x i)(C:P.underlying t=some .string)(E:Ev c R x (.r (.str s)))
 (F:Ev c R i (.r (.int k n))) (I:c=true→0≤n) (j:c=true→s[n.toNat]?=some l):AU P c o R h (.r (.int .u8 l.toNat)) := by
  intro q z w _ _ A
  refine⟨.int .u8 l.toNat, λU J => ?_, .r (.int _ _)⟩
  obtain⟨M, O⟩ := wA.1 (j q)
  have u:n.toNat<(⟨s.toArray⟩:ByteArray).size := M
  have T:(if 0≤n then(⟨s.toArray⟩:ByteArray)[n.toNat]? else none)=some l := by
    rw[vx (I q), ByteArray.getElem?_lt' _ _ u]
    exact yZ some O
  unfold execOp
  rw[B]
  simp only[Hy (E.rep A q), Cw (F.rep A q), Instr.index, asIntOf]
  simp[run_underlying C, T]
theorem A2{t}{x}{f off}{row}{k}(A:o.op=.fieldAddr t x f)(B:AY P t f off)(C:Ev c R x (.rop row k)):AU P c o R h (.rop row (k+off)):=by
 intro E z w _ _ F
 obtain⟨Z,fl,i,I,J,M,O,T⟩:=B
 have q:=C.rep F E
 generalize U:w.eval x=v at q
 cases q with
 | @rop _ _ b j u V l X=>
  refine⟨.pointer (some ⟨b,j+(k+off),none⟩),λw2 Y=>?_,.rop u V l X⟩
  unfold execOp
  rw[A]
  simp[U,Instr.fieldAt,run_underlying I,J,Instr.sureAddr,fieldPlace,Ei O,T,M,Addr.add_lit,yF]
theorem Fg{t}{x}{f off}{id g i k}{ob:A9}(B:o.op=.fieldAddr t x f)(C:AY P t f off)(E:Ev c R x (.ptr id g i k))(F:c=true→hget h id=some ob)
 (hg:ob.gen=g):AU P c o R h (.ptr id g i (k+off)) := by
  intro u z w _ I J
  obtain⟨fs, fl, ii, M, O, T, U, V⟩ := C
  have A := E.rep J u
  generalize X:w.eval x=v at A
  cases A with
  | ptr q _ hp =>
    have j:z.H id=some ob := by rw[I];exact F u
    obtain⟨b, cap, Y, rfl⟩ := hp ob j hg
    refine⟨.pointer (some ⟨b, i * ob.shape.2.1+(k+off), none⟩), λw2 Z => ?_, .ptr q rfl λo' l _ => ?_⟩
    · unfold execOp
      rw[B]
      simp[X, Instr.fieldAt, run_underlying M, O, Instr.sureAddr, fieldPlace, Ei U, V, T, Addr.add_lit, yF]
    · rw[j] at l;cases l;exact⟨b, cap, Y, rfl⟩
theorem Vv{t}(j:Bh P t){w:World}{b k}{u}(hc:w.cell? ⟨b,k,none⟩=some u):(Instr.loadAt t (.pointer (some ⟨b,k,none⟩))).run P w=.ok u w:=by
 obtain⟨d,i,l,q,_,_⟩:=j
 simp[Instr.loadAt,Instr.sureAddr,loadVar,KT l,q,hc]
theorem Nt{t}{sz}(l:Bj P t sz){w:World}{b k}(f:Nat→Value)(hc:∀j,j<sz→w.cell? ⟨b,k+j,none⟩=some (f j)) :
  (Instr.loadAt t (.pointer (some ⟨b,k,none⟩))).run P w=.ok (.agg ((List.range sz).map f).toArray) w:=by
 obtain⟨d,i,q,u,A,B⟩:=l
 have C:=run_loadCells (P:=P) w ⟨b,k,none⟩ sz f (λj E=>by rw[Addr.add_lit];exact hc j E)
 simp[Instr.loadAt,Instr.sureAddr,loadVar,KT q,u,Ei A,B,C]
theorem MU{x}{cs:List AV}{sz}(w:cs.length=sz) f(A:∀j a,cs[j]?=some a→AX x a (f j)):AX x (.agg cs) (.agg ((List.range sz).map f).toArray):=by
 refine .agg (by simp[w]) λi a u l q=>?_
 have B:i<sz:=by have:=(wA.1 l).1;omega
 simp[B] at q
 subst q
 exact A i a l
theorem eW{t}{x}{row}{k}{d}(E:o.op=.load t x)(F:Bh P t)(I:Ev c R x (.rop row k))(hd:c=true→row[k]?=some d):AU P c o R h (.r d):=by
 intro j z w _ _ J
 have B:=I.rep J j
 generalize M:w.eval x=v at B
 cases B with
 | @rop _ _ b C u O l T=>
  refine⟨u k,λU q=>?_,.r (T _ _ (hd j))⟩
  unfold execOp
  rw[E]
  have A:row≠[]:=by have:=hd j;rintro rfl;simp at this
  simp[M,Vv F ((q.cellS (O A)).trans (l _ _ (hd j)))]
theorem ZV{t}{x}{row:List RV}{sz}(E:o.op=.load t x)(F:Bj P t sz)(I:Ev c R x (.rop row 0))(hd:row.length=sz):AU P c o R h (.agg (row.map .r)):=by
 intro J z w _ _ M
 have C:=I.rep M J
 generalize O:w.eval x=v at C
 cases C with
 | @rop _ _ b l u T q U=>
  refine⟨.agg ((List.range sz).map u).toArray,λV A=>?_,MU (by simp[hd]) u λj a B=>?_⟩
  ·unfold execOp
   rw[E]
   have:=Nt F (w:=V) (b:=b) (k:=l+0) u (λj B=>(A.cellS (T (by rintro rfl;simp at hd;omega))).trans (q j (row[j]'(by omega)) (wB _)))
   simp only[xM] at this
   simp[O,this]
  ·simp only[wd,wW] at B
   obtain⟨d,X,rfl⟩:=B
   exact .r (U _ _ X)
theorem IX{x:Cx}(q:x.ok){id g k}{e}{cs:List AV}{v}(B:x.H id=some (.box g e cs))(w:AX x (.ptr id g 0 k) v) :
  ∃b l,x.β id=some (b,1)∧v=.pointer (some ⟨b,k,none⟩)∧x.w.heap[b]?=some (.cells l e (0,0))∧l.size=cs.length ∧
   ∀(j:Nat) (a:AV),cs[j]?=some a→∃u:Value,l[j]?=some u∧u.oneCell'=true∧AX x a u:=by
 obtain⟨_,b,l,C,E,F,I⟩:=q.obj _ _ B
 cases w with
 | ptr _ _ w=>
  obtain⟨M,cap,A,J⟩:=w _ B rfl
  rw[C] at A
  simp only[wP,wV] at A
  obtain⟨rfl,rfl⟩:=A
  exact⟨b,l,C,by rw[J,zk,wY],E,F,I⟩
theorem U2{t}{x}{id g k}{e}{cs}{a}(C:o.op=.load t x)(E:Bh P t)(F:Ev c R x (.ptr id g 0 k))(I:c=true→hget h id=some (.box g e cs))
 (J:c=true→cs[k]?=some a):AU P c o R h a := by
  intro l z w q M O
  have j:z.H id=some (.box g e cs) := by rw[M];exact I l
  obtain⟨b, A, T, U, V, h4, X⟩ := IX q j (F.rep O l)
  obtain⟨u, Y, _, Z⟩ := X _ _ (J l)
  refine⟨u, λw2 B => ?_, Z⟩
  unfold execOp
  rw[C]
  simp[U, Vv E ((B.cellO j T).trans ((cell_of_row _ b k A e _ V).trans Y))]
theorem oz{t}{x}{id g}{e}{sz}{cs:List AV}(J:o.op=.load t x)(M:Bj P t sz)(O:Ev c R x (.ptr id g 0 0))(T:c=true→hget h id=some (.box g e cs))
 (U:cs.length=sz):AU P c o R h (.agg cs) := by
  intro I z w C V X
  have q:z.H id=some (.box g e cs) := by rw[V];exact T I
  obtain⟨b, l, Y, Z, h3, h4, h5⟩ := IX C q (O.rep X I)
  have A:∀j, j<sz→z.w.cell? ⟨b, 0+j, none⟩=some ((λj => l.getD j undef) j) := by
    intro j B
    have E:j<l.size := by omega
    rw[wY, cell_of_row _ b j l e _ h3]
    simp[E]
  refine⟨.agg ((List.range sz).map λj => l.getD j undef).toArray, λw2 F => ?_, MU U _ λj a B => ?_⟩
  · unfold execOp
    rw[J]
    simp[Z, Nt M _ (λj B => (F.cellO q Y).trans (A j B))]
  · obtain⟨u, h6, _, h7⟩ := h5 _ _ B
    obtain⟨h8, h9⟩ := ww.1 h6
    simpa[h8, h9] using h7
theorem VK{w:World}{e}{sz n cap b}{us}(h:w.ownsRow 0 e sz (.slice (some ⟨b,0,none⟩) n cap) n us){j}{u}(l:us[j]?=some u):w.cell? ⟨b,j,none⟩=some u:=by
 have:=h.cells (g:=b) rfl j u l
 rwa [Addr.add_lit,wY] at this
theorem Ti{x:Cx}(j:x.ok){id g i k}{e}{sz}{xs:List (List RV)}{v}(w:x.H id=some (.arr g e sz xs))(_hi:i<xs.length)(l:AX x (.ptr id g i k) v) :
  ∃b cap us,x.β id=some (b,cap)∧v=.pointer (some ⟨b,i * sz+k,none⟩)∧x.w.ownsRow 0 e sz (.slice (some ⟨b,0,none⟩) xs.length cap) xs.length us∧(∀row∈xs,row.length=sz) ∧
   ∀i row c d,xs[i]?=some row→row[c]?=some d→∃u,us[i * sz+c]?=some u∧Bl x.w x.S d u:=by
 obtain⟨_,J,B,C,us,q,E,F⟩:=j.obj _ _ w
 cases l with
 | ptr _ _ l=>
  obtain⟨b,cap,A,I⟩:=l _ w rfl
  rw[A] at q
  simp only[EQ] at q
  subst q
  exact⟨b,cap,us,A,I,E,B,F⟩
theorem bV{t}{x}{id g i k}{e}{sz}{xs}{row}{d}(C:o.op=.load t x)(E:Bh P t)(F:Ev c R x (.ptr id g i k))(I:c=true→hget h id=some (.arr g e sz xs))
 (j:c=true→xs[i]?=some row) (J:c=true→row[k]?=some d):AU P c o R h (.r d) := by
  intro q z w A M O
  have l:z.H id=some (.arr g e sz xs) := by rw[M];exact I q
  obtain⟨b, cap, us, T, U, V, _, X⟩ := Ti A l (wA.1 (j q)).1 (F.rep O q)
  obtain⟨u, Y, Z⟩ := X _ _ _ _ (j q) (J q)
  refine⟨u, λw2 B => ?_, .r Z⟩
  unfold execOp
  rw[C]
  simp[U, Vv E ((B.cellO l T).trans (VK V Y))]
theorem jB{t}{x}{id g i}{e}{sz}{xs}{row:List RV}(O:o.op=.load t x)(T:Bj P t sz)(U:Ev c R x (.ptr id g i 0))(V:c=true→hget h id=some (.arr g e sz xs))
 (l:c=true→xs[i]?=some row):AU P c o R h (.agg (row.map .r)) := by
  intro B z w F X Y
  have q:z.H id=some (.arr g e sz xs) := by rw[X];exact V B
  obtain⟨b, cap, J, Z, h2, h3, h4, M⟩ := Ti F q (wA.1 (l B)).1 (U.rep Y B)
  have hl := h4 row (wj (l B))
  have A:∀j, j<sz→z.w.cell? ⟨b, i * sz+0+j, none⟩=some ((λj => J.getD (i * sz+j) undef) j) := by
    intro j C
    obtain⟨u, E, _⟩ := M i row j (row[j]'(by omega)) (l B) (wB _)
    rw[xM, VK h3 E]
    simp[List.getD, E]
  refine⟨.agg ((List.range sz).map λj => J.getD (i * sz+j) undef).toArray, λw2 I => ?_, MU (by simp[hl]) _ λj a C => ?_⟩
  · unfold execOp
    rw[O]
    simp only[h2, Nt T _ (λj C => (I.cellO q Z).trans (A j C)), Sem.run_bind, Result.andThen_ok, Sem.run_pure]
  · simp only[wd, wW] at C
    obtain⟨d, E, rfl⟩ := C
    obtain⟨u, h7, h8⟩ := M i row j d (l B) E
    simpa[List.getD, h7] using AX.r h8
theorem gL{x}{vs}{i}{a}(B:o.op=.extract x i)(C:Ev c R x (.tup vs))(q:vs[i]?=some a):AU P c o R h a:=by
 intro E z w _ _ F
 have u:=C.rep F E
 generalize I:w.eval x=v at u
 cases u with
 | @tup _ l M j=>
  have A:i<l.size:=by have:=(wA.1 q).1;omega
  refine⟨l[i],λO J=>?_,j i a l[i] q (wl A)⟩
  unfold execOp
  rw[B]
  simp[I,Instr.extract,wl A]
theorem te{x}{row}{k}(q:o.op=.nilCheck x)(A:Ev c R x (.rop row k)):AU P c o R h (.rop row k):=by
 intro B z w _ _ C
 have j:=A.rep C B
 refine⟨w.eval x,λJ E=>?_,j⟩
 generalize F:w.eval x=v at j
 cases j with
 | @rop _ _ b l u M I O=>
  unfold execOp
  rw[q]
  simp[F]
theorem B1{x}{id g i k}{ob:A9}(q:o.op=.nilCheck x)(u:Ev c R x (.ptr id g i k))(A:c=true→hget h id=some ob)(hg:ob.gen=g):AU P c o R h (.ptr id g i k):=by
 intro l z w _ B C
 have j:=u.rep C l
 refine⟨w.eval x,λJ E=>?_,j⟩
 generalize F:w.eval x=v at j
 cases j with
 | ptr I _ hp=>
  obtain⟨b,cap,M,rfl⟩:=hp ob (by rw[B];exact A l) hg
  unfold execOp
  rw[q]
  simp[F]
theorem D2{t q}{x}{k j:IntKind}{n}{d}(u:o.op=.convert t q x)(A:P.underlying t=some d)(l:P.underlying q=some (.int j))(B:Ev c R x (.r (.int k n))) :
  AU P c o R h (.r (.int j (j.wrap n))):=by
 intro C z w _ _ E
 refine⟨.int j (j.wrap n),λI F=>?_,.r (.int _ _)⟩
 unfold execOp
 rw[u]
 simp[Cw (B.rep E C),convert,run_underlying A,run_underlying l,Conv.intToInt]
theorem Ku{j}{x y}{k}{m n}(u:o.op=.call { callee:=.builtin .min,args:=#[x,y],argTypes:=j })(A:Ev c R x (.r (.int k m)))(B:Ev c R y (.r (.int k n))) :
  AU P c o R h (.r (.int k (min m n))):=by
 intro l z w _ _ q
 refine⟨.int k (if n<m then n else m),λE C=>?_,?_⟩
 ·unfold execOp
  rw[u]
  simp[resolve,invoke,builtin,Cw (A.rep q l),Cw (B.rep q l),Builtin.min_,Builtin.min2]
 ·have:(if n<m then n else m)=min m n:=by omega
  rw[this];exact .r (.int _ _)
theorem Xi{j}{x y}{k}{m n}(u:o.op=.call { callee:=.builtin .max,args:=#[x,y],argTypes:=j })(A:Ev c R x (.r (.int k m)))(B:Ev c R y (.r (.int k n))) :
  AU P c o R h (.r (.int k (max m n))):=by
 intro l z w _ _ q
 refine⟨.int k (if n > m then n else m),λE C=>?_,?_⟩
 ·unfold execOp
  rw[u]
  simp[resolve,invoke,builtin,Cw (A.rep q l),Cw (B.rep q l),Builtin.max_,Builtin.max2]
 ·have:(if n > m then n else m)=max m n:=by omega
  rw[this];exact .r (.int _ _)
end
section
variable{P:Program}{c:Bool}{o:Oper}{R:Ab}{h:AS}{n:Nat}
theorem FU id ob h:(λi=>if id=i then some ob else hget h i)=hget ((id,some ob)::h):=by
 funext i;rw[DC]
def Bm:AV→List AV
 | .agg j=>j
 | a=>[a]
theorem Qr{x}{a}{v:Value}(J:AX x a v)(E:∀b∈Bm a,b.one=true) :
  v.cells.size=(Bm a).length∧(∀(j:Nat) (b:AV),(Bm a)[j]?=some b→∃u:Value,v.cells[j]?=some u∧u.oneCell'=true∧AX x b u)∧∀u∈v.cells.toList,u.oneCell'=true:=by
 have key:∀(A:List AV) (w:Array Value),A.length=w.size→(∀(i:Nat) (c:AV) (u:Value),A[i]?=some c→w[i]?=some u→AX x c u)→(∀b∈A,b.one=true) →
   w.size=A.length∧(∀(j:Nat) (b:AV),A[j]?=some b→∃u:Value,w[j]?=some u∧u.oneCell'=true∧AX x b u)∧∀u∈w.toList,u.oneCell'=true:=by
  intro A w M l B
  refine⟨M.symm,λj b C=>?_,λu F=>?_⟩
  ·have q:j<w.size:=by have:=(wA.1 C).1;omega
   exact⟨w[j],wl q,(l j b w[j] C (wl q)).one (B b (wj C)),l j b w[j] C (wl q)⟩
  ·obtain⟨j,C⟩:=yq.1 F
   have q:j<A.length:=by have:=(wA.1 C).1;simp at this;omega
   have E:=l j A[j] u (wB q) (by simpa using C)
   exact E.one (B _ (xz q))
 cases a with
 | agg A=>
  cases J with
  | agg M l=>exact key _ _ M l E
 | _=>
  have O:=J.one (E _ (by simp[Bm]))
  have T:v.cells = #[v]:=by cases v<;>first | rfl | (simp[Value.oneCell'] at O)
  rw[T]
  refine key _ _ rfl (λi c u I F=>?_) E
  simp only[Bm,List.getElem?_singleton] at I
  split at I
  ·rename_i U;subst U
   cases I;simp at F;subst F;exact J
  ·cases I
theorem Yl{x:Cx}(w:x.ok)(id:Nat)(e:TypeId)(a:AV){v:Value}(C:AX x a v)(E:∀b∈Bm a,b.one=true) :
  ∃y:Cx,x.le y∧y.ok∧y.w=x.w.alloc (.cells v.cells e)∧y.H=(λi=>if id=i then some (.box x.n e (Bm a)) else x.H i)∧y.n=x.n+1 ∧
   AX y (.ptr id x.n 0 0) (.pointer (some ⟨x.w.heap.size,0,none⟩)):=by
 obtain⟨F,l,_⟩:=Qr C E
 have:=GL w id (.box x.n e (Bm a)) (x.w.alloc (.cells v.cells e)) (some (x.w.heap.size,1)) (x.n+1) (by simp) rfl rfl rfl
  (λb A _=>heap_alloc_old _ _ A) (λb k A=>by cases A;simp) (by omega) (by simp[A9.gen]) (λhg=>absurd hg (by simp[A9.gen]))
  (λB=>⟨x.w.heap.size,v.cells,rfl,heap_alloc_new _ _,F,λj b I=>by
   obtain⟨u,J,M,O⟩:=l j b I
   exact⟨u,J,M,O.mono B⟩⟩)
 refine⟨_,this.1,this.2,rfl,rfl,rfl,.ptr (by simp) rfl λT q _=>?_⟩
 simp only[vx] at q
 cases q
 exact⟨x.w.heap.size,1,by simp,by simp⟩
theorem Zu{t}{v:Value}{w:World} : (newVar t v).run P w=.ok ⟨w.heap.size,0,none⟩ (w.alloc (.cells v.cells t)):=by
 simp[newVar,newRow]
def CS(P:Program)(t:TypeId)(z:Value):Prop:=∃i,P.info? t=some i∧i.zero=some z
def HA(z:Value):AV:=
 match z with
 | .agg j=>.agg (j.toList.map IV)
 | v=>IV v
theorem bE x z:AX x (HA z) z:=by
 cases z with
 | agg q=>
  refine .agg (by simp) λi a u l w=>?_
  have j:q.toList[i]?=some u:=by simpa using w
  simp only[wd,j,xi,wP] at l
  subst l;exact RI x u
 | _=>simp only[HA];exact RI x _
theorem ee{t:TypeId}{x:Operand}{a:AV}(id:Nat)(q:o.op=.box t x)(u:Ev c R x a)(A:(Bm a).all AV.one=true):BV P c o R h n (.ptr id n 0 0) ((id,some (.box n t (Bm a)))::h) (n+1):=by
 intro B z w j C l E K Q F
 obtain⟨y,I,J,M,O,T,U⟩:=Yl j id t a (u.rep E B) (λb V=>wT.1 A b V)
 unfold Oper.wp execOp
 rw[q]
 simp only[Instr.box,Sem.run_bind,Zu,Result.andThen_ok,Sem.run_pure]
 have:=F (.pointer (some ⟨z.w.heap.size,0,none⟩)) y I J (by rw[O,C,l,FU]) (by rw[T,l]) (by rw[← l];exact U)
 rw[M] at this
 exact this
theorem Z4{t:TypeId}{j:Value}(id:Nat)(A:o.op=.alloc t)(l:CS P t j)(B:(Bm (HA j)).all AV.one=true) :
  BV P c o R h n (.ptr id n 0 0) ((id,some (.box n t (Bm (HA j))))::h) (n+1):=by
 intro X z w q C u Y K Q E
 obtain⟨i,F,l⟩:=l
 obtain⟨y,I,J,M,O,T,U⟩:=Yl q id t (HA j) (bE z j) (λb V=>wT.1 B b V)
 unfold Oper.wp execOp
 rw[A]
 simp only[Instr.alloc,zeroValue,typeInfo,Sem.run_bind,run_program,Result.andThen_ok,F,Sem.run_pure,l,Zu]
 have:=E (.pointer (some ⟨z.w.heap.size,0,none⟩)) y I J (by rw[O,C,u,FU]) (by rw[T,u]) (by rw[← u];exact U)
 rw[M] at this
 exact this
theorem W6{t}{i:TypeInfo}(q:P.info? t=some i){w:World}{b k}{e}{j:Array Value}(A:w.heap[b]?=some (.cells j e (0, 0))){v:Value}(B:v.cells.size=i.size)
 (C:∀u ∈ v.cells.toList, u.oneCell'=true) (l:k+v.cells.size≤j.size) :
    (Instr.storeAt t (.pointer (some ⟨b, k, none⟩)) v).run P w=.ok () (w.setRow b (j.toList.take k++v.cells.toList++j.toList.drop (k+v.cells.size)).toArray) := by
  have := run_storeCells_at P b k e v.cells.toList 0 j w A (by simpa using l) C
  simp only[xM, xG] at this
  simp[Instr.storeAt, Instr.sureAddr, storeVar, Ei q, B, this]
theorem Mg{α:Type}(l vs:List α) k j(u:k+vs.length≤l.length):(l.take k++vs++l.drop (k+vs.length))[j]?=if k≤j∧j<k+vs.length then vs[j-k]? else l[j]?:=by
 by_cases q:j<k
 ·rw[ne (by omega),wJ,wi (by simp;omega),xh,vx q]
 ·by_cases w:j<k+vs.length
  ·rw[vx (by omega),wJ,we (by simp;omega),wi (by simp;omega)]
   congr 1
   simp only[xl]
   omega
  ·rw[ne (by omega),we (by simp;omega)]
   simp only[wG,xl,xW]
   congr 1<;>omega
def GX(cs:List AV)(k:Nat)(vs:List AV):List AV:=cs.take k++vs++cs.drop (k+vs.length)
theorem gn{t}{x y}{id g k}{e}{cs:List AV}{a}{sz}(ho:o.op=.store t x y)(ht:∃i, P.info? t=some i∧i.size=sz)(hx:Ev c R x (.ptr id g 0 k))
 (hh:hget h id=some (.box g e cs)) (hy:Ev c R y a) (hsz:(Bm a).length=sz) (h1:(Bm a).all AV.one=true) (I:Nat.ble (k+sz) cs.length=true) :
    BV P c o R h n .any ((id, some (.box g e (GX cs k (Bm a))))::h) n := by
  intro hc z w q hH hn he K Q hK
  obtain⟨ii, hi, a7⟩ := ht
  have l:z.H id=some (.box g e cs) := by rw[hH];exact hh
  have V:k+sz≤cs.length := wx I
  obtain⟨b, E, U, X, B, a8, A⟩ := IX q l (hx.rep he hc)
  obtain⟨Y, Z, a0⟩ := Qr (hy.rep he hc) (λb hb => wT.1 h1 b hb)
  have J := W6 (P := P) (k := k) hi B (v := w.eval y) (by omega) a0 (by omega)
  have a1 := (q.obj _ _ l).1
  have hl:(GX cs k (Bm a)).length=cs.length := by simp[GX];omega
  have M := GL q id (.box g e (GX cs k (Bm a))) (z.w.setRow b (E.toList.take k++(w.eval y).cells.toList++E.toList.drop (k+(w.eval y).cells.size)).toArray) (some (b, 1)) z.n (by simp[World.setRow]) rfl rfl rfl
    (λb' _ a2 => setRow_other _ _ _ _ (λe => a2 _ 1 l (by rw[e];exact U))) (λb' k' hb => by
      cases hb
      exact⟨by simpa[World.setRow] using(q.own id _ b 1 l U).1, .inr ⟨_, _, l, U⟩⟩) (wL _) a1
    (λ_ => ⟨_, l, rfl, by simp[A9.shape, hl], U.symm⟩)
    (λO => ⟨b, _, rfl, setRow_heap _ _ _ _ _ _ B, by simp;omega, λj d T => by
      have a6 := Mg cs (Bm a) k j (by omega)
      have C := Mg E.toList (w.eval y).cells.toList k j (by simp;omega)
      rw[xG] at C
      rw[List.getElem?_toArray, C]
      unfold GX at T
      rw[a6, ← Y] at T
      split at T
      · rename_i F
        obtain⟨u, k1, k2, k3⟩ := Z _ _ T
        exact⟨u, by rw[vx F];simpa using k1, k2, k3.mono O⟩
      · rename_i F
        obtain⟨u, k1, k2, k3⟩ := A _ _ T
        exact⟨u, by rw[ne F];simpa using k1, k2, k3.mono O⟩⟩)
  unfold Oper.wp execOp
  rw[ho]
  simp only[X, Sem.run_bind, J, Result.andThen_ok, Sem.run_pure]
  exact hK undef _ M.1 M.2 (by simp only[hH];exact FU _ _ _) hn (.any _)
end
section
variable{P:Program}{c:Bool}{o:Oper}{R:Ab}{h:AS}{n:Nat}
def Bn(P:Program)(t e:TypeId)(sz j:Nat):Prop:=
 P.underlying t=some (.slice e)∧∃i z,P.info? e=some i∧i.size=sz∧i.bytes=j∧i.zero=some z∧z.cells.size=sz∧(∀u∈z.cells.toList,u.oneCell'=true)∧0<sz
theorem Bn.slice{t e}{sz b}(h:Bn P t e sz b):Fv P t e sz:=by
 obtain⟨j,i,z,l,q,_⟩:=h
 exact⟨j,i,l,q⟩
def Pj:Value→Option (Nat × Nat)
 | .slice (some a) _ cap=>some (a.block,cap)
 | _=>none
theorem qI{xs:List (List RV)}{sz:Nat}(l:∀row∈xs,row.length=sz){us:List Value}{Q:RV→Value→Prop}
  (I:us.length=xs.length * sz) (J:∀j u,us[j]?=some u→∃row d,xs[j / sz]?=some row∧row[j % sz]?=some d∧Q d u) (hsz:0<sz) {i k:Nat} {row:List RV} {d:RV} (w:xs[i]?=some row) (A:row[k]?=some d) :
  ∃u,us[i * sz+k]?=some u∧Q d u:=by
 have M:i<xs.length:=(wA.1 w).1
 have B:k<sz:=by rw[← l row (wj w)];exact(wA.1 A).1
 have q:i * sz+k<us.length:=by
  rw[I]
  calc i * sz+k<i * sz+sz:=by omega
   _=(i+1) * sz:=by rw[yM,yp]
   _≤xs.length * sz:=xg _ M
 refine⟨us[i * sz+k],wB q,?_⟩
 obtain⟨C,V,E,F,O⟩:=J _ _ (wB q)
 have T:(i * sz+k) / sz=i:=by rw[yU,yz hsz,yv B,xM]
 have U:(i * sz+k) % sz=k:=by rw[yU,Nat.mul_add_mod,zK B]
 rw[T,w] at E
 cases E
 rw[U,A] at F
 cases F
 exact O
def Tj(x:Cx)(v:Value)(sz:Nat)(q:List (List RV)):Prop:=
 (q=[]∧∃c,v=.slice none 0 c)∨∃(a:Addr) (cap:Nat) (l:List Value),v=.slice (some a) q.length cap∧l.length=q.length * sz∧(∀j u,l[j]?=some u→x.w.cell? (Addr.add a j)=some u)∧(∀u∈l,u.oneCell'=true) ∧
  ∀i row k d,q[i]?=some row→row[k]?=some d→∃u,l[i * sz+k]?=some u∧Bl x.w x.S d u
theorem pf{x:Cx}{v:Value}{q:List (List RV)}{sz:Nat}(hv:AX x (.r (.sl q)) v)(hsz:∀row∈q,row.length=sz)(M:0<sz):Tj x v sz q:=by
 rcases TT hv with ⟨rfl,rfl | ⟨a,rfl⟩⟩ | ⟨b,off,cap,size,u,rfl,hS,X,hm,l,C,B⟩
 ·exact .inl ⟨rfl,0,rfl⟩
 ·exact .inr ⟨_,0,[],rfl,by simp,by simp,by simp,by simp⟩
 ·by_cases Y:q=[]
  ·subst Y
   exact .inr ⟨_,cap,[],rfl,by simp,by simp,by simp,by simp⟩
  ·have hs:size=sz:=by
    obtain⟨row,Z⟩:=List.exists_mem_of_ne_nil _ Y
    rw[← l row Z,hsz row Z]
   subst hs
   have hget:∀j,j<q.length * size→∃row d,q[j / size]?=some row∧row[j % size]?=some d:=by
    intro j A
    have O:j / size<q.length:=by rw[Nat.div_lt_iff_lt_mul M];exact A
    have T:j % size<(q[j / size]).length:=by rw[l _ (xz _)];exact Nat.mod_lt _ M
    exact⟨_,_,wB O,wB T⟩
   have U:∀j,j / size * size+j % size=j:=λj=>Nat.div_add_mod' j size
   refine .inr ⟨⟨b,off,none⟩,cap,(List.range (q.length * size)).map λj=>u (j / size) (j % size),rfl,by simp,λj w A=>?_,λw hw=>?_,λi row k d O T=>?_⟩
   ·simp only[wd,wW] at A
    obtain⟨j',V,rfl⟩:=A
    obtain⟨I,J⟩:=wA.1 V
    simp only[zb] at J;subst J
    simp only[List.length_range] at I
    obtain⟨row,d,E,F⟩:=hget _ I
    rw[Addr.add_lit,← C _ _ _ _ E F,yF,U]
   ·simp only[xY,wh] at hw
    obtain⟨j,A,rfl⟩:=hw
    obtain⟨row,d,E,F⟩:=hget _ A
    exact(B _ _ _ _ E F).one
   ·refine qI l (Q:=λd u=>Bl x.w x.S d u) (by simp) (λj w A=>?_) M O T
    simp only[wd,wW] at A
    obtain⟨j',V,rfl⟩:=A
    obtain⟨I,J⟩:=wA.1 V
    simp only[zb] at J;subst J
    simp only[List.length_range] at I
    obtain⟨row,d,E,F⟩:=hget _ I
    exact⟨row,d,E,F,B _ _ _ _ E F⟩
theorem lC{x:Cx}{sz}{xs:List (List RV)}{us:List Value}(C:us.length=xs.length * sz)(w:0<sz)(l:∀row ∈ xs, row.length=sz)
 (hc:∀i row k d, xs[i]?=some row→row[k]?=some d→∃u, us[i * sz+k]?=some u∧Bl x.w x.S d u):∀u ∈ us, u.oneCell'=true := by
  intro u E
  obtain⟨j, A⟩ := yq.1 E
  have q:j<xs.length * sz := by rw[← C];exact(wA.1 A).1
  have F:j / sz<xs.length := by rw[Nat.div_lt_iff_lt_mul w];exact q
  have I:j % sz<(xs[j / sz]).length := by rw[l _ (xz _)];exact Nat.mod_lt _ w
  obtain⟨v, B, J⟩ := hc _ _ _ _ (wB F) (wB I)
  rw[Nat.div_add_mod', A] at B
  cases B
  exact J.one
theorem pW{x:Cx}(u:x.ok){id g}{e}{sz}{w}{v}(B:x.H id=some (.arr g e sz w))(C:AX x (.own id g) v):Tj x v sz w:=by
 obtain⟨E,l,F,hd,j,A⟩:=RB u B C
 have q:=lC j.1 E l A
 unfold EQ at hd
 split at hd
 ·have I:w=[]:=xf hd.1
  exact .inl ⟨I,0,hd.2⟩
 ·subst hd
  exact .inr ⟨_,_,F,rfl,j.1,j.cells (by rfl),q,A⟩
theorem bY{x:Cx}(af:x.ok){t e}{sz T}(ht:Bn P t e sz T)(id:Nat){xs E:List (List RV)}{us:List Value}{v u:Value}(B:x.w.ownsRow 0 e sz v xs.length us)
 (hβ:∀b, v.ownBlock=some b→∃Z k, x.H id=some Z∧x.β id=some (b, k)) (a0:∀row ∈ xs, row.length=sz)
 (hc:∀i row k d, xs[i]?=some row→row[k]?=some d→∃u, us[i * sz+k]?=some u∧Bl x.w x.S d u)
 (a1:Tj x u sz E) (U:∀row ∈ E, row.length=sz) (hm:xs.length+E.length≤maxLen) (hb:(xs.length+E.length) * T≤140737488355328) (ty:TypeId) :
    ∃w y, (Builtin.append_ #[t, t] ty #[v, u]).run P x.w=.ok w y.w∧x.le y∧y.ok∧y.H=(λi => if id=i then some (.arr x.n e sz (xs++E)) else x.H i)∧y.n=x.n+1∧AX y (.own id x.n) w := by
  obtain⟨V, ii, z, hi, a2, a6, hz, ag, _, h0⟩ := ht
  have key:∃(w:Value) (w':World) (j:List Value), (Builtin.append_ #[t, t] ty #[v, u]).run P x.w=.ok w w'∧w'.ownsRow 0 e sz w (xs.length+E.length) (us++j)∧x.w.grownBy w' v.ownBlock ∧
      (w.ownBlock=v.ownBlock∨w.ownBlock=some x.w.heap.size)∧j.length=E.length * sz∧∀i row k d, E[i]?=some row→row[k]?=some d→∃u, j[i * sz+k]?=some u∧Bl x.w x.S d u := by
    rcases a1 with ⟨hy, cc, rfl⟩ | ⟨a, cap, j, rfl, hl, J, a7, a8⟩
    · subst hy
      refine⟨v, x.w, [], ?_, by simpa using B, ⟨rfl, rfl, rfl, wL _, λ_ _ _ => rfl⟩, .inl rfl, by simp, by simp⟩
      rcases B.2 with ⟨rfl, A⟩ | ⟨g, cap, aa, rfl, _, _, ah, _⟩
      · simp[Builtin.append_, run_underlying V, sizeOf, typeInfo, hi, Builtin.lenOf, Builtin.firstCells]
      · simp[Builtin.append_, run_underlying V, sizeOf, typeInfo, hi, Builtin.lenOf, Builtin.firstCells, ah, storeCells]
    · obtain⟨w, w', F, k1, k2, _, k4⟩ := run_append_own_at (P := P) x.w 0 t ty e ii z sz T V hi hz a2 a6 ag h0 v xs.length us B a E.length cap j hl J a7 hm hb (yS _)
      exact⟨w, w', j, F, k1, k2, k4, hl, a8⟩
  obtain⟨w, w', j, F, q, I, ab, ar, X⟩ := key
  have ai := q.lt
  have M:EQ (Pj w) (xs++E).length w := by
    rcases q.2 with ⟨rfl, A⟩ | ⟨g, cap, aa, rfl, _⟩
    · exact⟨by rw[wG];exact A, rfl⟩
    · simp[EQ, Pj]
  have aj:∀b k, Pj w=some (b, k)→w.ownBlock=some b := by
    intro b k C
    cases w with
    | slice a l cp =>
      cases a with
      | none => cases C
      | some a => simp only[Pj, wP, wV] at C;simp[Value.ownBlock, C.1]
    | _ => cases C
  have ac := GL af id (.arr x.n e sz (xs++E)) w' (Pj w) (x.n+1) I.size I.os I.tape I.output
    (λb ak al => I.block b ak (λheq => by
      obtain⟨Z, k, A, O⟩ := hβ b heq.symm
      exact al Z k A O))
    (λb k C => by
      have A := aj b k C
      refine⟨(ai b A).2, ?_⟩
      rcases ab with O | O
      · rw[O] at A
        obtain⟨Z, k', Y, h4⟩ := hβ b A
        exact .inr ⟨Z, k', Y, h4⟩
      · rw[O] at A;cases A;exact .inl (wL _))
    (by omega) (by simp[A9.gen]) (λhg => absurd hg (by simp[A9.gen]))
    (λan => by
      have ad:∀b, x.S b→w'.heap[b]?=x.w.heap[b]? := λb hb => an.blk b (.inl hb)
      refine⟨h0, λrow hr => (wn.1 hr).elim (a0 row) (U row), w, us++j, M, by rw[wG];exact q, λi row k d A O => ?_⟩
      have ao := B.1
      by_cases aq:i<xs.length
      · rw[wi aq] at A
        obtain⟨u, Y, h4⟩ := hc i row k d A O
        refine⟨u, ?_, h4.mono ad (λ_ h => h)⟩
        rw[wi ((wA.1 Y).1)]
        exact Y
      · rw[we (by omega)] at A
        obtain⟨u, Y, h4⟩ := X _ row k d A O
        refine⟨u, ?_, h4.mono ad (λ_ h => h)⟩
        have e1:i * sz+k=us.length+((i - xs.length) * sz+k) := by
          rw[ao, Nat.sub_mul]
          have:xs.length * sz≤i * sz := xg _ (by omega)
          omega
        rw[e1, we (by omega), Nat.add_sub_cancel_left]
        exact Y)
  refine⟨w, _, F, ac.1, ac.2, rfl, rfl, .own (by simp) ?_ λo' ae _ => ?_⟩
  · rcases q.2 with ⟨rfl, _⟩ | ⟨g, cap, aa, rfl, _⟩<;>rfl
  · simp only[vx] at ae ⊢
    cases ae
    simpa[A9.shape] using M
end
section
variable{P:Program}{c:Bool}{o:Oper}{R:Ab}{h:AS}{n:Nat}
def Mr(c:Bool)(R:Ab)(h:AS)(x:Operand)(sz:Nat)(j:List (List RV)):Prop:=
 (Ev c R x (.r (.sl j))∧(c=true→∀row∈j,row.length=sz))∨(∃id g e,Ev c R x (.own id g)∧hget h id=some (.arr g e sz j))∨(Ev c R x (.cst (.slice none 0 0))∧j=[])
theorem Mr.src{x}{sz}{w}(B:Mr c R h x sz w)(C:0<sz)(hc:c=true){z:Cx}{a:Act}(u:z.ok)(E:z.H=hget h)(A:CK z R a) :
  Tj z (a.eval x) sz w∧∀row∈w,row.length=sz:=by
 rcases B with ⟨q,l⟩ | ⟨id,g,e,q,l⟩ | ⟨q,rfl⟩
 ·exact⟨pf (q.rep A hc) (l hc) C,l hc⟩
 ·have j:z.H id=some (.arr g e sz w):=by rw[E];exact l
  exact⟨pW u j (q.rep A hc),(RB u j (q.rep A hc)).2.1⟩
 ·have l:=q.rep A hc
  generalize a.eval x=v at l ⊢
  cases l
  exact⟨.inl ⟨rfl,0,rfl⟩,by simp⟩
theorem ip{t e}{sz A}{s x}{id g}{xs J:List (List RV)}(V:o.op=.call { callee := .builtin .append, args := #[s, x], argTypes := #[t, t] })(X:Bn P t e sz A)
 (Y:Ev c R s (.own id g)) (Z:hget h id=some (.arr g e sz xs)) (hx:Mr c R h x sz J) (hm:(xs.length+J.length) * A≤140737488355328) (a0:xs.length+J.length≤9223372036854775807) :
    BV P c o R h n (.own id n) ((id, some (.arr n e sz (xs++J)))::h) (n+1) := by
  intro T z w l M O U K Q hK
  have j:z.H id=some (.arr g e sz xs) := by rw[M];exact Z
  obtain⟨h0, B, us, hd, C, q⟩ := RB l j (Y.rep U T)
  obtain⟨E, u⟩ := hx.src h0 T l M U
  obtain⟨v', y, F, k1, k2, k3, k4, k5⟩ := bY l X id C (λb I => by
    refine⟨_, ?_, j, ?_⟩
    · exact match z.β id with | some p => p.2 | none => 0
    · unfold EQ at hd
      split at hd
      · rw[hd.2] at I;cases I
      · rename_i heq;rw[hd] at I;simp only[Value.ownBlock, wP] at I;subst I;simp[heq]) B q E u (by unfold maxLen;omega) hm o.type
  unfold Oper.wp execOp
  simp only[V, resolve, invoke, builtin, Sem.run_bind, Sem.run_pure, Result.andThen_ok, List.map_toArray, wS, yD, F]
  exact hK v' y k1 k2 (by rw[k3, M, O, FU]) (by rw[k4, O]) (by rw[← O];exact k5)
theorem ZP{t e}{sz l}{s x}(id:Nat){B:List (List RV)}(U:o.op=.call { callee := .builtin .append, args := #[s, x], argTypes := #[t, t] })(I:Bn P t e sz l)
 (V:Ev c R s (.cst (.slice none 0 0))) (X:Mr c R h x sz B) (Y:B.length * l≤140737488355328) (Z:B.length≤9223372036854775807) :
    BV P c o R h n (.own id n) ((id, some (.arr n e sz B))::h) (n+1) := by
  intro J z w q M C O K Q hK
  have E := I
  obtain⟨_, _, _, _, _, _, _, _, _, h0⟩ := E
  obtain⟨u, j⟩ := X.src h0 J q M O
  have F:w.eval s=.slice none 0 0 := by
    have T := V.rep O J
    generalize w.eval s=v at T ⊢
    cases T;rfl
  obtain⟨v', y, A, k1, k2, k3, k4, k5⟩ := bY (xs := []) q I id (World.ownsRow_nil z.w 0 e sz) (λb hb => by cases hb) (by simp) (by simp) u j (by unfold maxLen;simp;omega) (by simpa using Y) o.type
  unfold Oper.wp execOp
  simp only[U, resolve, invoke, builtin, Sem.run_bind, Sem.run_pure, Result.andThen_ok, List.map_toArray, wS, yD, F, A]
  exact hK v' y k1 k2 (by rw[k3, M, C, FU, yk]) (by rw[k4, C]) (by rw[← C];exact k5)
theorem gZ off:∀(vs:List Value) (j:Nat) (cells:Array Value),off+j+vs.length≤cells.size →
  ((vs.zipIdx j).foldl (λcs p=>cs.setIfInBounds (off+p.2) p.1) cells).size=cells.size ∧
  ∀k,((vs.zipIdx j).foldl (λcs p=>cs.setIfInBounds (off+p.2) p.1) cells)[k]?=if off+j≤k∧k<off+j+vs.length then vs[k-(off+j)]? else cells[k]?
 | [],j,cells,_=>⟨rfl,λk=>by simp;omega⟩
 | v::vs,j,cells,u=>by
  simp only[wK] at u
  obtain⟨w,A⟩:=gZ off vs (j+1) (cells.setIfInBounds (off+j) v) (by simp;omega)
  simp only[List.zipIdx_cons,wg]
  refine⟨by rw[w];simp,λk=>?_⟩
  rw[A]
  by_cases q:k=off+j
  ·subst q
   rw[ne (by omega),vx (by simp)]
   simp[show off+j<cells.size by omega]
  ·by_cases l:off+j≤k∧k<off+j+(v::vs).length
   ·rw[vx l,vx (by simp only[wK] at l;omega)]
    rw[show k-(off+j)=(k-(off+(j+1)))+1 by omega,yH]
   ·rw[ne l,ne (by simp only[wK] at l;omega)]
    simp[show off+j≠k from λe=>q e.symm]
theorem Yq off(v:Value)(cells:Array Value)(l:off+v.cells.size≤cells.size) :
  (v.cells.zipIdx.foldl (λcs (c,j)=>cs.setIfInBounds (off+j) c) cells).size=cells.size ∧
  ∀k,(v.cells.zipIdx.foldl (λcs (c,j)=>cs.setIfInBounds (off+j) c) cells)[k]?=if off≤k∧k<off+v.cells.size then v.cells[k-off]? else cells[k]?:=by
 have:=gZ off v.cells.toList 0 cells (by simpa using l)
 simp only[xM,xG] at this
 rw[← Array.foldl_toList,Array.toList_zipIdx]
 refine⟨this.1,λk=>?_⟩
 rw[← xv] at *
 simpa using this.2 k
theorem Vg size:∀(l:List (Nat × Value)) (start:Nat) (us:Array Value),(∀j p,l[j]?=some p→p.1=start+j∧p.2.cells.size=size)→(start+l.length) * size≤us.size →
  ∃u,Instr.fill (λi=>some (i * size,size)) us l=some u∧u.size=us.size∧(∀k,k<start * size→u[k]?=us[k]?) ∧
   ∀j p k,l[j]?=some p→k<size→u[(start+j) * size+k]?=p.2.cells[k]?
 | [],start,us,_,_=>⟨us,rfl,rfl,λ_ _=>rfl,by simp⟩
 | p::l,start,us,hp,C=>by
  obtain⟨i,v⟩:=p
  obtain⟨E,A⟩:=hp 0 (i,v) rfl
  simp only[xM] at E A
  subst E
  have B:i * size+size≤us.size:=by
   have:(i+1) * size≤(i+(l.length+1)) * size:=xg _ (by omega)
   simp only[wK] at C
   rw[yM,yp] at this
   omega
  obtain⟨F,I⟩:=Yq (i * size) v us (by rw[A];exact B)
  obtain⟨u,O,T,J,U⟩:=Vg size l (i+1) _ (λj q w=>by
   have:=hp (j+1) q (by simpa using w)
   exact⟨by omega,this.2⟩) (by rw[F];simp only[wK] at C;rwa [show i+1+l.length=i+(l.length+1) by omega])
  refine⟨u,?_,T.trans F,λk M=>?_,λj q k w M=>?_⟩
  ·simp only[Instr.fill]
   rw[ne (by simp[A];omega)]
   exact O
  ·rw[J k (by rw[yM];omega),I,ne (by omega)]
  ·cases j with
   | zero=>
    cases w
    rw[xM,J _ (by rw[yM];omega),I,vx (by omega)]
    congr 1;omega
   | succ j=>
    have:=U j q k (by simpa using w) M
    rwa [show i+1+j=i+(j+1) by omega] at this
def KA:AV→Option RV
 | .r d=>some d
 | .cst (.slice none 0 0)=>some (.sl [])
 | _=>none
def Qg:List AV→Option (List RV)
 | []=>some []
 | a::l=>match KA a,Qg l with
  | some d,some r=>some (d::r)
  | _,_=>none
def H2(a:AV):Option (List RV):=Qg (Bm a)
theorem Uw{x:Cx}{a}{d}{v}(h:KA a=some d)(j:AX x a v):Bl x.w x.S d v:=by
 unfold KA at h
 split at h
 ·cases h;cases j with | r l=>exact l
 ·cases h;cases j;exact .snil
 ·cases h
theorem bS{l:List AV}{row:List RV}(h:Qg l=some row):row.length=l.length∧∀(j:Nat) (d:RV),row[j]?=some d→∃a:AV,l[j]?=some a∧KA a=some d:=by
 induction l generalizing row with
 | nil=>simp only[Qg,wP] at h;subst h;simp
 | cons a l u=>
  simp only[Qg] at h
  split at h
  ·rename_i d r w A
   cases h
   obtain⟨B,C⟩:=u A
   refine⟨by simp[B],λj E q=>?_⟩
   cases j with
   | zero=>simp at q;subst q;exact⟨a,rfl,w⟩
   | succ j=>simpa using C j E (by simpa using q)
  ·cases h
theorem Wv{a:AV}{d}(h:KA a=some d):a.one=true:=by
 unfold KA at h
 split at h<;>first | rfl | cases h
theorem OV{x:Cx}{a}{row:List RV}{v:Value}(h:H2 a=some row)(F:AX x a v):v.cells.size=row.length∧∀(k:Nat) (d:RV),row[k]?=some d→∃u:Value,v.cells[k]?=some u∧Bl x.w x.S d u:=by
 obtain⟨B,C⟩:=bS h
 have l:∀b∈Bm a,b.one=true:=by
  intro b I
  obtain⟨j,E⟩:=yq.1 I
  have w:j<row.length:=by rw[B];exact(wA.1 E).1
  obtain⟨U,q,A⟩:=C j _ (wB w)
  rw[E] at q;cases q
  exact Wv A
 obtain⟨q,A,_⟩:=Qr F l
 refine⟨by rw[q,B],λk d hd=>?_⟩
 obtain⟨b,J,M⟩:=C k d hd
 obtain⟨u,O,_,T⟩:=A k b J
 exact⟨u,O,Uw M T⟩
def KJ(c:Bool)(R:Ab):Nat→List (Nat × Operand)→List (List RV)→Prop
 | _,[],[]=>True
 | i,(j,x)::r,row::l=>j=i∧(∃a,Ev c R x a∧H2 a=some row)∧KJ c R (i+1) r l
 | _,_,_=>False
theorem KJ.get{u:List (Nat × Operand)}{l:List (List RV)} : ∀ {i:Nat},KJ c R i u l→u.length=l.length∧∀(j:Nat) (p:Nat × Operand),u[j]?=some p→p.1=i+j∧∃row a,l[j]?=some row∧Ev c R p.2 a∧H2 a=some row:=by
 induction u generalizing l with
 | nil=>intro i h;cases l with | nil=>exact⟨rfl,by simp⟩ | cons _ _=>exact h.elim
 | cons p u A=>
  intro i h
  cases l with
  | nil=>exact h.elim
  | cons row l=>
   obtain⟨M,⟨a,B,C⟩,E⟩:=h
   obtain⟨F,I⟩:=A E
   refine⟨by simp[F],λj q w=>?_⟩
   cases j with
   | zero=>simp at w;subst w;exact⟨by omega,row,a,rfl,B,C⟩
   | succ j=>
    obtain⟨O,J⟩:=I j q (by simpa using w)
    exact⟨by omega,by simpa using J⟩
theorem Xu{x:Cx}(A:x.ok) id e sz(xs:List (List RV))(cells:Array Value)(E:0<sz)(j:∀row ∈ xs, row.length=sz)(B:cells.size=xs.length * sz)(F:xs.length≤maxLen)
 (hc:∀i row k d, xs[i]?=some row→row[k]?=some d→∃u, cells[i * sz+k]?=some u∧Bl x.w x.S d u) :
    ∃y:Cx, x.le y∧y.ok∧y.w=x.w.alloc (.cells cells e)∧y.H=(λi => if id=i then some (.arr x.n e sz xs) else x.H i)∧y.n=x.n+1 ∧
      AX y (.own id x.n) (.slice (some ⟨x.w.heap.size, 0, none⟩) xs.length xs.length) := by
  have l := GL A id (.arr x.n e sz xs) (x.w.alloc (.cells cells e)) (some (x.w.heap.size, xs.length)) (x.n+1) (by simp) rfl rfl rfl
    (λb q _ => heap_alloc_old _ _ q) (λb k q => by cases q;simp) (by omega) (by simp[A9.gen]) (λhg => absurd hg (by simp[A9.gen]))
    (λC => ⟨E, j, _, cells.toList, rfl, ⟨by simpa using B, .inr ⟨x.w.heap.size, xs.length, cells, rfl, yS _, heap_alloc_new _ _, wL _, F, B, by rw[← B, ← xG];exact xp⟩⟩, λi row k d I J => by
      obtain⟨u, M, O⟩ := hc i row k d I J
      exact⟨u, by simpa using M, O.mono (λb q => C.blk b (.inl q)) (λ_ h => h)⟩⟩)
  refine⟨_, l.1, l.2, rfl, rfl, rfl, .own (by simp) rfl λT w _ => ?_⟩
  simp only[vx] at w
  cases w
  show EQ (if id=id then _ else _) _ _
  rw[vx rfl]
  rfl
theorem dX{t e}{sz a0 len}{parts:Array (Nat × Operand)}(id:Nat){l:List (List RV)}(ho:o.op=.buildSlice t len parts)(ht:Bn P t e sz a0)
 (hp:KJ c R 0 parts.toList l) (B:l.length=len) (C:∀row ∈ l, row.length=sz) (E:Nat.ble (len * sz) 16777216=true) :
    BV P c o R h n (.own id n) ((id, some (.arr n e sz l))::h) (n+1) := by
  intro hc z w a1 hH hn he K Q hK
  obtain⟨J, ii, zv, hi, F, _, hz, a7, _, h0⟩ := ht
  have a8:len * sz≤16777216 := wx E
  have aa:len≤len * sz := Nat.le_mul_of_pos_right _ h0
  obtain⟨M, O⟩ := hp.get
  have I:∃init:Array Value, init.size=len * sz∧∀W, (Instr.buildSlice t len (parts.map λ(i, x) => (i, w.eval x))).run P W =
      match Instr.fill (λi => some (i * sz, sz)) init (parts.toList.map λ(i, x) => (i, w.eval x)) with
      | some cells => .ok (.slice (some ⟨W.heap.size, 0, none⟩) len len) (W.alloc (.cells cells e))
      | none => .halt (.stuck "buildSlice: a part of the wrong size") W := by
    refine⟨(Array.range (len * sz)).map (λi => (if len * sz=0 then #[] else zv.cells)[i % (if len * sz=0 then #[] else zv.cells).size]!), by simp, λW => ?_⟩
    have T:¬ 2 ^ 24<len * sz := by omega
    by_cases U:len * sz=0
    · simp only[Instr.buildSlice, Sem.run_bind, run_underlying J, Result.andThen_ok, Ei hi, F, U]
      simp
      split<;>simp_all [newRow, Instr.fill]
    · simp only[Instr.buildSlice, Sem.run_bind, run_underlying J, Result.andThen_ok, Ei hi, F]
      simp only[T, U, zeroValue, typeInfo, ya, Sem.run_bind, run_program, Result.andThen_ok, hi, hz, Sem.run_pure, zL]
      generalize Instr.fill _ _ _=r
      cases r<;>simp[newRow]
  obtain⟨init, A, V⟩ := I
  obtain⟨a2, f1, f2, _, f4⟩ := Vg sz (parts.toList.map λ(i, x) => (i, w.eval x)) 0 init (λj p hj => by
    simp only[wd, wW] at hj
    obtain⟨q, hq, rfl⟩ := hj
    obtain⟨X, row, a, Z, h3, h4⟩ := O j q hq
    refine⟨by simpa using X, ?_⟩
    rw[(OV h4 (h3.rep he hc)).1]
    exact C row (wj Z)) (by rw[A];simp only[wN, M, B, wY];exact wL _)
  obtain⟨y, k1, k2, k3, k4, k5, k6⟩ := Xu a1 id e sz l a2 h0 C (by rw[f2, A, B]) (by unfold maxLen;omega) (λi row k d X Z => by
    have Y:i<parts.toList.length := by rw[M];exact(wA.1 X).1
    obtain⟨_, a6, a, h3, h4, h5⟩ := O i _ (wB Y)
    rw[X] at h3;cases h3
    obtain⟨u, h6, h7⟩ := (OV h5 (h4.rep he hc)).2 k d Z
    refine⟨u, ?_, h7⟩
    have hk:k<sz := by rw[← C row (wj X)];exact(wA.1 Z).1
    have := f4 i (parts.toList[i].1, w.eval parts.toList[i].2) k (by simp[wd, wB Y]) hk
    rw[wY] at this
    rw[this];exact h6)
  unfold Oper.wp execOp
  simp only[ho, Sem.run_bind, V, f1, Result.andThen_ok, Sem.run_pure]
  have := hK _ y k1 k2 (by rw[k4, hH, hn, FU]) (by rw[k5, hn]) (by rw[← hn];exact k6)
  rw[k3, B] at this
  exact this
end
section
variable{P:Program}{c:Bool}{o:Oper}{R:Ab}{h:AS}{n:Nat}
def Jv(P:Program)(e:TypeId)(j:List RV):Prop:=∃i l,P.info? e=some i∧i.zero=some l∧H2 (HA l)=some j
theorem Yi{t e}{sz C}{l k}(id:Nat){m:Int}{j:List RV}(ho:o.op=.makeSlice t l k)(ht:Bn P t e sz C)(hz:Jv P e j)
 (hl:Ev c R l (.r (.int .i64 m))) (hk:Ev c R k (.r (.int .i64 m))) (h0:0≤m) (hb:m * C≤281474976710656) (hm:m≤9223372036854775807) :
    BV P c o R h n (.own id n) ((id, some (.arr n e sz (List.replicate m.toNat j)))::h) (n+1) := by
  intro hc z w Z hH hn he K Q hK
  obtain⟨a0, ii, B, hi, q, E, F, I, _, J⟩ := ht
  obtain⟨i2, a7, M, O, a1⟩ := hz
  rw[hi] at M;cases M
  rw[F] at O;cases O
  have T := run_make (P := P) z.w t e ii B a0 hi F .i64 .i64 m m h0 (za _) (by rw[E, Int.mul_comm];exact hb) hm
  obtain⟨k1, k2⟩ := OV a1 (bE z B)
  have U:j.length=sz := by rw[← k1, I]
  obtain⟨y, e1, e2, e3, e4, e5, e6⟩ := Xu Z id e sz (List.replicate m.toNat j) (madeCells B.cells (m.toNat * ii.size)) J (λrow hr => by rw[(List.mem_replicate.1 hr).2];exact U)
    (by rw[size_madeCells, q];simp) (by unfold maxLen;simp;omega) (λi row k d h1 h2 => by
      obtain⟨V, A⟩ := wA.1 h1
      simp only[wu] at V
      rw[List.getElem_replicate] at A
      subst A
      have a2:k<sz := by rw[← U];exact(wA.1 h2).1
      obtain⟨u, h3, h4⟩ := k2 k d h2
      refine⟨u, ?_, h4⟩
      have a6:i * sz+k<m.toNat * sz := by
        calc i * sz+k<i * sz+sz := by omega
          _=(i+1) * sz := by rw[yM, yp]
          _≤m.toNat * sz := xg _ V
      have X:(i * sz+k) % B.cells.size=k := by rw[I, yU, Nat.mul_add_mod, zK a2]
      simp only[madeCells, q]
      rw[Array.getElem?_map, Array.getElem?_range, vx a6]
      simp only[xi, X]
      rw[← h3]
      have Y:k<B.cells.size := by omega
      rw[wD B.cells k Y, wl Y])
  unfold Oper.wp execOp
  simp only[ho, Cw (hl.rep he hc), Cw (hk.rep he hc), Sem.run_bind, T, Result.andThen_ok, Sem.run_pure]
  have := hK _ y e1 e2 (by rw[e4, hH, hn, FU]) (by rw[e5, hn]) (by rw[← hn];exact e6)
  rw[e3, wu] at this
  exact this
theorem km{t}{x y}{id g i k:Nat}{e}{sz}{xs:List (List RV)}{row:List RV}{a:AV}{d}(ho:o.op=.store t x y)(ht:∃i, P.info? t=some i∧i.size=1)
 (hx:Ev c R x (.ptr id g i k)) (hh:hget h id=some (.arr g e sz xs)) (I:xs[i]?=some row) (hk:k<row.length) (hy:Ev c R y a) (hd:KA a=some d) (h1:(Bm a).length=1) :
    BV P c o R h n .any ((id, some (.arr g e sz (xs.set i (row.set k d))))::h) n := by
  intro hc z w J hH hn he K Q hK
  obtain⟨ii, hi, ab⟩ := ht
  have q:z.H id=some (.arr g e sz xs) := by rw[hH];exact hh
  have a2:i<xs.length := (wA.1 I).1
  obtain⟨b, cap, us, hβ, al, ac, B, V⟩ := Ti J q a2 (hx.rep he hc)
  have an := (J.obj _ _ q).1
  obtain⟨b1, a6⟩ := ac
  rcases a6 with ⟨hv, _⟩ | ⟨Y, ay, E, hv, _, Z, ad, ao, ae, a7⟩
  · cases hv
  simp only[Value.slice.injEq, wP, Addr.mk.injEq, true_and, and_true] at hv
  obtain⟨rfl, rfl⟩ := hv
  have hsz:0<sz := (J.obj _ _ q).2.1
  have af := B row (wj I)
  have M:a.one=true := Wv hd
  have b2:Bm a=[a] := by cases a<;>first | rfl | (simp[AV.one] at M)
  have a8 := hy.rep he hc
  have X:(w.eval y).cells = #[w.eval y] := by
    have h2 := a8.one M
    generalize w.eval y=v at h2 ⊢
    cases v<;>first | rfl | (simp[Value.oneCell'] at h2)
  have aq:i * sz+sz≤xs.length * sz := by
    have:(i+1) * sz≤xs.length * sz := xg _ a2
    rwa [yM, yp] at this
  have az:xs.length * sz≤E.size := by rw[ae];exact xg _ ad
  have O := W6 (P := P) (k := i * sz+k) hi Z (v := w.eval y) (by rw[X, ab];rfl) (by rw[X];simpa using a8.one M) (by rw[X];simp;omega)
  rw[X] at O
  simp only[yc, wm] at O
  have a0 := λj => Mg E.toList [w.eval y] (i * sz+k) j (by simp;omega)
  simp only[wm] at a0
  let l:Array Value := (E.toList.take (i * sz+k)++[w.eval y]++E.toList.drop (i * sz+k+1)).toArray
  have C:l.size=E.size := by simp[l];omega
  have ag := GL J id (.arr g e sz (xs.set i (row.set k d))) (z.w.setRow b l) (some (b, cap)) z.n (by simp[World.setRow]) rfl rfl rfl
    (λY _ ar => setRow_other _ _ _ _ (λe => ar _ cap q (by rw[e];exact hβ))) (λY k' hb => by
      cases hb
      exact⟨by simpa[World.setRow] using(J.own id _ b cap q hβ).1, .inr ⟨_, _, q, hβ⟩⟩) (wL _) an
    (λ_ => ⟨_, q, rfl, by simp[A9.shape], hβ.symm⟩)
    (λav => by
      have ah:∀Y, z.S Y→(z.w.setRow b l).heap[Y]?=z.w.heap[Y]? := λY hb => av.blk Y (.inl hb)
      refine⟨hsz, λr hr => ?_, .slice (some ⟨b, 0, none⟩) xs.length cap, l.toList.take (xs.length * sz), by simp[EQ], ⟨by simp[C];omega, .inr ⟨b, cap, l, by simp, yS _, setRow_heap _ _ _ _ _ _ Z, by simpa using ad, ao, by rw[C, ae], by simp⟩⟩, λA a1 F d' T k2 => ?_⟩
      · rcases yQ hr with hr | rfl
        · exact B r hr
        · simpa using af
      · have ai:A<xs.length := by simpa using(wA.1 T).1
        have b0:F<sz := by
          have := (wA.1 k2).1
          rw[yE] at T
          split at T
          · cases T;simpa[af] using this
          · rw[← B a1 (wj T)];exact this
        have aj:A * sz+F<xs.length * sz := by
          calc A * sz+F<A * sz+sz := by omega
            _=(A+1) * sz := by rw[yM, yp]
            _≤xs.length * sz := xg _ ai
        have hget:(l.toList.take (xs.length * sz))[A * sz+F]?=if i * sz+k≤A * sz+F∧A * sz+F<i * sz+k+1 then [w.eval y][A * sz+F - (i * sz+k)]? else E.toList[A * sz+F]? := by
          rw[xh, vx aj]
          simp only[l]
          exact a0 _
        have aa:i * sz+k=A * sz+F→i=A∧k=F := by
          intro heq
          have e1:(i * sz+k) / sz=i := by rw[yU, yz hsz, yv (by omega), xM]
          have e2:(A * sz+F) / sz=A := by rw[yU, yz hsz, yv (by omega), xM]
          have:i=A := by rw[← e1, ← e2, heq]
          subst this
          exact⟨rfl, by omega⟩
        by_cases heq:i * sz+k=A * sz+F
        · obtain⟨rfl, rfl⟩ := aa heq
          rw[yE, vx rfl, vx a2] at T
          cases T
          rw[yE, vx rfl, vx hk] at k2
          cases k2
          refine⟨w.eval y, by rw[hget, vx (by omega)];simp, (Uw hd a8).mono ah (λ_ h => h)⟩
        · have ak:∃U, xs[A]?=some U∧U[F]?=some d' := by
            rw[yE] at T
            split at T
            · rename_i aw;subst aw
              cases T
              rw[yE] at k2
              split at k2
              · rename_i ax;subst ax;exact absurd rfl heq
              · exact⟨row, I, k2⟩
            · exact⟨a1, T, k2⟩
          obtain⟨U, k3, k4⟩ := ak
          obtain⟨u, k5, k6⟩ := V _ _ _ _ k3 k4
          refine⟨u, ?_, k6.mono ah (λ_ h => h)⟩
          rw[hget, ne (by omega), ← k5, ← a7, xh, vx aj])
  unfold Oper.wp execOp
  rw[ho]
  simp only[al, Sem.run_bind, O, Result.andThen_ok, Sem.run_pure]
  exact hK undef _ ag.1 ag.2 (by simp only[hH];exact FU _ _ _) hn (.any _)
end
section
variable{P:Program}{c:Bool}{o:Oper}{R:Ab}{h:AS}{n:Nat}
def Om(c:Bool)(R:Ab)(j:Nat):Option Operand→Nat→Prop
 | none,m=>m=j
 | some x,m=>∃k z,Ev c R x (.r (.int k z))∧(c=true→0≤z)∧z.toNat=m
theorem Qd{k:IntKind}{z:Int}{y:Nat}(j:0≤z)(l:z≤y)(code:BoundsCode)(w:World):(Instr.sliceBound (.int k z) y code).run P w=.ok z.toNat w:=by
 simp[Instr.sliceBound,asIntOf,j,l]
theorem ef{t e:TypeId}{sz:Nat}{x:Operand}{U hi:Option Operand}{xs:List (List RV)}{l m:Nat}(ho:o.op=.slice t x U hi none)(ht:Fv P t e sz)(hx:Ev c R x (.r (.sl xs)))
  (X:Om c R 0 U l) (B:Om c R xs.length hi m) (h1:c=true→l≤m) (h2:c=true→m≤xs.length) (Y:∀row∈xs,row.length=sz):AU P c o R h (.r (.sl ((xs.drop l).take (m-l)))):=by
 intro F z w _ _ he
 obtain⟨I,ii,J,a6⟩:=ht
 have ad:=h1 F
 have Z:=h2 F
 have j:∀(len cap:Nat),len=xs.length→xs.length≤cap→∀W,(Instr.sliceBounds true len cap (U.map w.eval) (hi.map w.eval) none).run P W=.ok (l,m,cap) W:=by
  intro len cap q C W
  have hL:∀W,(∃y,U=some y∧(Instr.sliceBound (w.eval y) m .sliceB).run P W=.ok l W)∨U=none∧l=0:=by
   intro W
   cases U with
   | none=>exact .inr ⟨rfl,X⟩
   | some v=>
    obtain⟨k,zz,e1,e2,e3⟩:=X
    refine .inl ⟨v,rfl,?_⟩
    rw[Cw (e1.rep he F),Qd (e2 F) (by have:=e2 F;omega),e3]
  cases hi with
  | none=>
   simp only[Om] at B
   rcases hL W with ⟨y,rfl,V⟩ | ⟨rfl,rfl⟩
   ·rw[B] at V;simp[Instr.sliceBounds,q,V,B]
   ·simp[Instr.sliceBounds,q,B]
  | some v=>
   obtain⟨k,zz,e1,e2,e3⟩:=B
   have hH:(Instr.sliceBound (w.eval v) cap .sliceAcap).run P W=.ok m W:=by
    rw[Cw (e1.rep he F),Qd (e2 F) (by have:=e2 F;omega),e3]
   rcases hL W with ⟨y,rfl,V⟩ | ⟨rfl,rfl⟩
   ·simp[Instr.sliceBounds,hH,V]
   ·simp[Instr.sliceBounds,hH]
 rcases TT (hx.rep he F) with ⟨rfl,O⟩ | ⟨b,off,cap,size,u,O,hS,C,hm,hsz,T,a1⟩
 ·simp only[yJ,Nat.le_zero] at Z
  subst Z
  have a7:l=0:=by omega
  subst a7
  rcases O with O | ⟨a0,O⟩
  ·refine⟨.slice none 0 0,λw2 a2=>?_,by simpa using AX.r .snil⟩
   unfold execOp
   rw[ho]
   simp[O,Instr.sliceAt,Instr.slice,run_underlying I,Ei J,j 0 0 rfl (wL _)]
  ·refine⟨.slice (some a0) 0 0,λw2 a2=>?_,by simpa using AX.r (.sl0 a0)⟩
   unfold execOp
   rw[ho]
   simp[O,Instr.sliceAt,Instr.slice,run_underlying I,Ei J,j 0 0 rfl (wL _)]
 ·let k0:=if cap=l then 0 else l * sz
  refine⟨.slice (some ⟨b,off+k0,none⟩) ((xs.drop l).take (m-l)).length (cap-l),λw2 a2=>?_,.r (.sl b (off+k0) _ (cap-l) size (λi k=>u (l+i) k) (λa8=>hS (by rintro rfl;simp at a8)) ?_ (by omega) ?_ (λi row k d M k2=>?_) (λi row k d M k2=>?_))⟩
  ·unfold execOp
   rw[ho]
   have q:((xs.drop l).take (m-l)).length=m-l:=by simp;omega
   by_cases E:cap=l
   ·have aa:k0=0:=vx E
    have ab:=j _ cap rfl C w2
    rw[aa,q]
    simp only[O,Instr.sliceAt,Instr.slice,Sem.run_bind,run_underlying I,Result.andThen_ok,Option.map_none,ab,Ei J,Sem.run_pure,vx E,xM]
   ·simp[O,Instr.sliceAt,Instr.slice,run_underlying I,Ei J,a6,j _ cap rfl C,E,k0,Addr.add_lit]
    omega
  ·simp;omega
  ·exact λrow V=>hsz row (yA (yC V))
  ·have A:xs[l+i]?=some row:=by
    rw[xh] at M
    split at M
    ·rwa [xW] at M
    ·cases M
   have E:cap≠l:=by have:=(wA.1 A).1;omega
   have ac:size=sz:=by rw[← hsz row (wj A),Y row (wj A)]
   rw[← T _ _ _ _ A k2]
   simp only[k0,ne E,ac,yM,yF]
  ·have A:xs[l+i]?=some row:=by
    rw[xh] at M
    split at M
    ·rwa [xW] at M
    ·cases M
   exact a1 _ _ _ _ A k2
theorem vU{s:St} t id e sz(M:0<sz)(O:get s.e t=.cst (.slice none 0 0)):Ak s ⟨(t,.own id s.n)::s.e,(id,some (.arr s.n e sz []))::s.h,s.n+1,s.N⟩:=by
 intro X a w ⟨_,A,hsz,y,C,B,E,T,j,l⟩
 have q:=GL E id (.arr s.n e sz []) y.w none (y.n+1) (wL _) rfl rfl rfl (λ_ _ _=>rfl) (λb k U=>by cases U) (by omega) (by simp[A9.gen,j]) (λhg=>absurd hg (by simp[A9.gen,j]))
  (λB=>⟨M,by simp,.slice none 0 0,[],⟨rfl,rfl⟩,World.ownsRow_nil _ _ _ _,by simp⟩)
 refine⟨_,A,hsz,{ y with H:=λi=>if id=i then some (.arr s.n e sz []) else y.H i,β:=λi=>if id=i then none else y.β i,n:=y.n+1 },C,B.trans q.1,q.2,by simp only[T];exact FU _ _ _,by simp[j],λV=>?_⟩
 rw[D6]
 split
 ·rename_i F;subst F
  have I:=l t
  rw[O] at I
  generalize a.tmps.getD t undef=u at I ⊢
  cases I
  refine .own (by simp[j]) rfl λo J _=>?_
  simp only[vx] at J ⊢
  cases J
  exact⟨rfl,rfl⟩
 ·exact(l V).mono q.1
theorem Sb{y:Cx}(E:y.ok){id g}{e}{sz}{xs:List (List RV)}{v}(M:y.H id=some (.arr g e sz xs))(O:AX y (.own id g) v){S'}
 (T:∀b, y.S b→S' b) (F:∀b k, y.β id=some (b, k)→S' b):Bl y.w S' (.sl xs) v := by
  obtain⟨Y, w, C, hd, l, U⟩ := RB E M O
  unfold EQ at hd
  split at hd
  · have:xs=[] := xf hd.1
    subst this
    rw[hd.2];exact .snil
  · rename_i b cap heq
    subst hd
    have A:xs.length≤cap∧cap≤maxLen := by
      rcases l.2 with ⟨j, _⟩ | ⟨Z, J, V, j, _, _, q, I, _⟩
      · cases j
      · simp only[Value.slice.injEq] at j;rw[j.2.2];exact⟨q, I⟩
    have B:∀i row k d, xs[i]?=some row→row[k]?=some d→C[i * sz+k]?=some (C.getD (i * sz+k) undef)∧Bl y.w y.S d (C.getD (i * sz+k) undef) := by
      intro i row k d j q
      obtain⟨u, I, X⟩ := U i row k d j q
      simp only[List.getD, I, yg]
      exact⟨trivial, X⟩
    refine .sl b 0 xs cap sz (λi k => C.getD (i * sz+k) undef) (λ_ => F b cap heq) A.1 A.2 w (λi row k d j q => ?_) (λi row k d j q => (B i row k d j q).2.mono (λ_ _ => rfl) T)
    rw[wY]
    exact VK l (B i row k d j q).1
theorem AN.weak{ops}{rest}{s s'}{K}(j:Ak s s')(h:AN P ops rest s' K):AN P ops rest s K:=λl a w q=>h l a w (j _ _ _ q)
def O8 (P : Program) (f : FuncId) : Prop := ∃ fn, P.funcs[f]? = some fn ∧ fn.body.isNone = false ∧ (fn.name == "runtime.NumGoroutine") = false
mutual
def AV.closed:AV→Bool
 | .r _=>true
 | .cst _=>true
 | .any=>true
 | .rop _ _=>true
 | .agg cs=>Du cs
 | .tup cs=>Du cs
 | .fn _ cs=>Du cs
 | .own _ _=>false
 | .ptr _ _ _ _=>false
 | .mref _ _=>false
 | .yld _ _=>false
 | .full _=>false
 | .whn _ _=>false
def Du:List AV→Bool
 | []=>true
 | a::l=>a.closed&&Du l
end
theorem LV{cs:List AV}(h:Du cs=true){i:Nat}{a:AV}(j:cs[i]?=some a):a.closed=true:=by
 induction cs generalizing i with
 | nil=>simp at j
 | cons b l q=>
  simp only[Du,v7] at h
  cases i with
  | zero=>simp at j;subst j;exact h.1
  | succ i=>exact q h.2 (by simpa using j)
theorem qD(row:List RV):Du (row.map AV.r)=true:=by
 induction row with
 | nil=>rfl
 | cons d l j=>simp[Du,AV.closed,j]
theorem nJ(row:List RV):(AV.agg (row.map AV.r)).closed=true:=by simp[AV.closed,qD]
theorem Jj{x y:Cx}(F:y.w=x.w)(C:∀b,x.S b→y.S b){a:AV}{v}(J:AX x a v)(q:a.closed=true):AX y a v:=by
 have I:∀b,x.S b→y.w.heap[b]?=x.w.heap[b]?:=λ_ _=>by rw[F]
 induction J with
 | r h=>exact .r (h.mono I C)
 | cst v=>exact .cst v
 | any v=>exact .any v
 | rop u l w M=>exact .rop u (λh=>C _ (l h)) (λj d E=>by rw[F];exact w j d E) (λj d E=>(M j d E).mono I C)
 | agg A _ B=>simp only[AV.closed] at q;exact .agg A λi c u l w=>B i c u l w (LV q l)
 | tup A _ B=>simp only[AV.closed] at q;exact .tup A λi c u l w=>B i c u l w (LV q l)
 | fn A _ B=>simp only[AV.closed] at q;exact .fn A λi c u l w=>B i c u l w (LV q l)
 | _=>simp[AV.closed] at q
def IJ(x:Cx)(j:List AV)(vs:List Value):Prop:=vs.length=j.length∧∀(i:Nat) (a:AV) (u:Value),j[i]?=some a→vs[i]?=some u→AX x a u
def AO(P:Program)(f:FuncId)(args:List AV)(r:AV):Prop:=
 O8 P f∧r.closed=true∧∀(x:Cx) (j:Array Value),x.ok→(x.H=λ_=>none)→IJ x args j.toList →
  Calls P f j x.w λe w'=>∃u y,e=.returned u∧y.w=w'∧x.le y∧y.ok∧AX y r u
inductive IS(h:AS):AV→AV→Prop
 | closed (a:AV) (ha:a.closed=true):IS h a a
 | own {id g:Nat} {e:TypeId} {sz:Nat} {xs:List (List RV)} (hh:hget h id=some (.arr g e sz xs)):IS h (.own id g) (.r (.sl xs))
 | nil:IS h (.cst (.slice none 0 0)) (.r (.sl []))
 | full {xs:List (List RV)} : IS h (.full xs) (.r (.sl xs))
def QQ(h:AS):List AV→List AV→Prop
 | [],[]=>True
 | a::l,b::m=>IS h a b∧QQ h l m
 | _,_=>False
inductive Fz(h:AS):AV→AV→Prop
 | one {a b:AV} (h1:IS h a b):Fz h a b
 | agg {cs ds:List AV} (h1:QQ h cs ds):Fz h (.agg cs) (.agg ds)
def Cx.frozen(y:Cx):Cx:={ w:=y.w,S:=λb=>y.S b∨∃id o k,y.H id=some o∧y.β id=some (b,k),F:=y.F,H:=λ_=>none,β:=λ_=>none,n:=y.n }
theorem Yc{y:Cx} : y.le y.frozen:=⟨wL _,rfl,rfl,rfl,λ_ _=>rfl,λ_ h=>.inl h,rfl,wL _,λ_ _ h=>by cases h⟩
theorem Uq{y:Cx}(j:y.ok):y.frozen.ok:=by
 refine⟨λb l=>?_,j.F_lt,λb l=>?_,(λ_ _ h=>by cases h),(λ_ _ _ _ h=>by cases h),(λ_ _ _ _ _ _ _ h=>by cases h),j.tabs.le Yc⟩
 ·rcases l with l | ⟨id,o,k,q,u⟩
  ·exact j.S_lt b l
  ·exact(j.own id o b k q u).1
 ·rcases l with l | ⟨id,o,k,q,u⟩
  ·exact j.SF b l
  ·exact(j.own id o b k q u).2.2
theorem IS.rep{y:Cx}(q:y.ok){h}(u:y.H=hget h){a b}(w:IS h a b){v}(l:AX y a v):AX y.frozen b v:=by
 cases w with
 | closed _ A=>exact Jj (x:=y) (y:=y.frozen) rfl (λb h=>Or.inl h) l A
 | @own id g e sz B C=>
  have j:y.H id=some (.arr g e sz B):=by rw[u];exact C
  exact .r (Sb q j l (λ_ h=>.inl h) λb k E=>.inr ⟨_,_,k,j,E⟩)
 | nil=>cases l;exact .r .snil
 | full=>cases l with | full h _=>exact(AX.r h).mono Yc
theorem QQ.get{h}{cs ds:List AV}(j:QQ h cs ds):cs.length=ds.length∧∀(i:Nat) (b:AV),ds[i]?=some b→∃a,cs[i]?=some a∧IS h a b:=by
 induction cs generalizing ds with
 | nil=>cases ds with | nil=>exact⟨rfl,by simp⟩ | cons _ _=>exact j.elim
 | cons a l u=>
  cases ds with
  | nil=>exact j.elim
  | cons b m=>
   obtain⟨w,A⟩:=u j.2
   refine⟨by simp[w],λi c q=>?_⟩
   cases i with
   | zero=>simp at q;subst q;exact⟨a,rfl,j.1⟩
   | succ i=>simpa using A i c (by simpa using q)
theorem Fz.rep{y:Cx}(j:y.ok){h}(w:y.H=hget h){a b}(B:Fz h a b){v}(A:AX y a v):AX y.frozen b v:=by
 cases B with
 | one q=>exact q.rep j w A
 | agg q=>
  obtain⟨O,C⟩:=q.get
  cases A with
  | agg T l=>
   refine .agg (by omega) λi c u E F=>?_
   obtain⟨I,J,M⟩:=C i c E
   exact M.rep j w (l i I u J F)
end
section
variable{P:Program}{c:Bool}{o:Oper}{R:Ab}{h:AS}{n:Nat}
theorem OU{f}(u:O8 P f){q}{xs:Array Operand}{j}(A:o.op=.call { callee := .value q, args := xs, argTypes := j }){ρ}{us}
 (l:ρ q=.func (.func f) #[] us) (w:World):(execOp ρ o).run P w=.ok (.enter f (xs.map ρ++us)) w := by
  obtain⟨fn, B, C, E⟩ := u
  unfold execOp
  rw[A]
  simp only[resolve, l, Deferred.ofValue, Sem.run_bind, Sem.run_pure, Result.andThen_ok, invoke, callFunc, run_program, B, E, C]
  simp
def Hw(c:Bool)(R:Ab)(h:AS):List Operand→List AV→Prop
 | [],[]=>True
 | x::j,b::l=>(∃a,Ev c R x a∧Fz h a b)∧Hw c R h j l
 | _,_=>False
theorem Hw.get{xs:List Operand}{bs:List AV}(j:Hw c R h xs bs):xs.length=bs.length∧∀(i:Nat) (b:AV),bs[i]?=some b→∃x a,xs[i]?=some x∧Ev c R x a∧Fz h a b:=by
 induction xs generalizing bs with
 | nil=>cases bs with | nil=>exact⟨rfl,by simp⟩ | cons _ _=>exact j.elim
 | cons x l u=>
  cases bs with
  | nil=>exact j.elim
  | cons b m=>
   obtain⟨w,A⟩:=u j.2
   obtain⟨a,B,C⟩:=j.1
   refine⟨by simp[w],λi c q=>?_⟩
   cases i with
   | zero=>simp at q;subst q;exact⟨x,a,rfl,B,C⟩
   | succ i=>simpa using A i c (by simpa using q)
def AV.flat:AV→Bool
 | .r (.int _ _) | .r (.bool _) | .r (.str _)=>true
 | .tup j=>j.all fun | .r (.int _ _) | .r (.bool _) | .r (.str _)=>true | _=>false
 | _=>false
theorem gC{x y}{d}(hd:(AV.r d).flat=true){v}(j:AX x (.r d) v):AX y (.r d) v:=by
 cases j with
 | r h=>cases h<;>first | exact .r (.int _ _) | exact .r (.bool _) | exact .r (.str _) | (simp[AV.flat] at hd)
theorem sI{x y}{a:AV}(l:a.flat=true){v}(q:AX x a v):AX y a v:=by
 cases a with
 | r d=>exact gC l q
 | tup E=>
  cases q with
  | tup A j=>
   refine .tup A λi c u w B=>?_
   have C:=wT.1 l c (wj w)
   cases c with
   | r d=>exact gC (by cases d<;>simp_all [AV.flat]) (j i _ u w B)
   | _=>simp at C
 | _=>simp[AV.flat] at l
theorem ER{f}{fo}{xs:Array Operand}{a0}{caps bs:List AV}{r:AV}(ho:o.op=.call { callee := .value fo, args := xs, argTypes := a0 })(a1:Ev c R fo (.fn f caps))(E:Du caps=true)
 (hx:Hw c R h xs.toList bs) (hr:c=true→AO P f (bs++caps) r) (a2:r.flat=true):BV P c o R h n r h n := by
  intro hc z w l hH hn he K Q hK
  obtain⟨F, _, O⟩ := hr hc
  obtain⟨q, hget⟩ := hx.get
  have hv := a1.rep he hc
  generalize a6:w.eval fo=v at hv
  cases hv with
  | @fn _ _ us hl T =>
    have U := OU F ho a6 z.w
    have I:IJ z.frozen (bs++caps) (xs.map w.eval++us).toList := by
      refine⟨by simp[hl];simpa using q, λi a u J h2 => ?_⟩
      have A:((xs.toList.map w.eval)++us.toList)[i]?=some u := by simpa using h2
      by_cases hi:i<bs.length
      · rw[wi hi] at J
        obtain⟨x, b, V, X, k3⟩ := hget i a J
        rw[wi (by simp at q ⊢;omega), wd, V] at A
        simp only[xi, wP] at A
        subst A
        exact k3.rep l hH (X.rep he hc)
      · rw[we (by omega)] at J
        rw[we (by simp at q ⊢;omega)] at A
        have a7:(xs.toList.map w.eval).length=bs.length := by simpa using q
        rw[a7] at A
        exact Jj (x := z) (y := z.frozen) rfl (λb h => Or.inl h) (T _ a u J (by simpa using A)) (LV E J)
    unfold Oper.wp
    rw[U]
    refine(O z.frozen _ (Uq l) rfl I).mono λe w' ⟨u, y, he', a8, j, Y, aa⟩ => ?_
    subst he'
    subst a8
    have C:z.le { y with S := z.S, H := z.H, β := z.β, n := z.n } ∧ ({ y with S := z.S, H := z.H, β := z.β, n := z.n } : Cx).ok := by
      have B:z.le { y with S := z.S, H := z.H, β := z.β, n := z.n } :=
        ⟨j.size, j.os, j.tape, j.output, λb M => j.blk b (M.imp (λh => Or.inl h) id), λ_ h => h, j.F, wL _, λid o h _ => ⟨o, h, rfl, rfl, rfl⟩⟩
      refine⟨B, λb M => wZ (l.S_lt b M) j.size, Y.F_lt, λb M => ?_, λid ob Z => ?_, λid ob b k J h2 => ?_, l.inj, l.tabs.le B⟩
      · rw[show({ y with S := z.S, H := z.H, β := z.β, n := z.n } : Cx).F=z.F from j.F];exact l.SF b M
      · obtain⟨V, X⟩ := l.obj id ob Z
        exact⟨V, X.mono B λb k M => j.blk b (.inl (.inr ⟨id, ob, k, Z, M⟩))⟩
      · obtain⟨V, X, k3⟩ := l.own id ob b k J h2
        exact⟨wZ V j.size, X, by rw[show({ y with S := z.S, H := z.H, β := z.β, n := z.n } : Cx).F=z.F from j.F];exact k3⟩
    exact hK u { y with S := z.S, H := z.H, β := z.β, n := z.n } C.1 C.2 hH hn (sI a2 aa)
def PU(c:Bool)(R:Ab):List Operand→List AV→Prop
 | [],[]=>True
 | x::j,b::l=>((Ev c R x b∧b.closed=true)∨(Ev c R x (.cst (.slice none 0 0))∧b=.r (.sl [])))∧PU c R j l
 | _,_=>False
theorem PU.get{xs:List Operand}{bs:List AV}(j:PU c R xs bs):xs.length=bs.length∧∀(i:Nat) (b:AV),bs[i]?=some b→∃x,xs[i]?=some x∧((Ev c R x b∧b.closed=true)∨(Ev c R x (.cst (.slice none 0 0))∧b=.r (.sl []))):=by
 induction xs generalizing bs with
 | nil=>cases bs with | nil=>exact⟨rfl,by simp⟩ | cons _ _=>exact j.elim
 | cons x l u=>
  cases bs with
  | nil=>exact j.elim
  | cons b m=>
   obtain⟨w,A⟩:=u j.2
   refine⟨by simp[w],λi c q=>?_⟩
   cases i with
   | zero=>simp at q;subst q;exact⟨x,rfl,j.1⟩
   | succ i=>simpa using A i c (by simpa using q)
def Cx.aside(z:Cx):Cx:={ w:=z.w,S:=z.S,F:=λb=>z.F b∨∃id o k,z.H id=some o∧z.β id=some (b,k),H:=λ_=>none,β:=λ_=>none,n:=z.n }
theorem vO{z:Cx}(j:z.ok):z.aside.ok:=by
 refine⟨j.S_lt,λb l=>?_,λb l q=>?_,(λ_ _ h=>by cases h),(λ_ _ _ _ h=>by cases h),(λ_ _ _ _ _ _ _ h=>by cases h),j.tabs.same rfl (λ_ h=>h)⟩
 ·rcases l with l | ⟨id,o,k,u,w⟩
  ·exact j.F_lt b l
  ·exact(j.own id o b k u w).1
 ·rcases q with q | ⟨id,o,k,u,w⟩
  ·exact j.SF b l q
  ·exact(j.own id o b k u w).2.1 l
theorem CB{f}{fo}{xs:Array Operand}{a2}{caps bs:List AV}{r}(ho:o.op=.call { callee := .value fo, args := xs, argTypes := a2 })(a6:Ev c R fo (.fn f caps))(J:Du caps=true)
 (hx:PU c R xs.toList bs) (hr:c=true→AO P f (bs++caps) r):BV P c o R h n r h n := by
  intro hc z w q hH hn he K Q hK
  obtain⟨M, U, V⟩ := hr hc
  obtain⟨l, hget⟩ := hx.get
  have hv := a6.rep he hc
  generalize a7:w.eval fo=v at hv
  cases hv with
  | @fn _ _ us hl X =>
    have Y := OU M ho a7 z.w
    have O:IJ z.aside (bs++caps) (xs.map w.eval++us).toList := by
      refine⟨by simp[hl];simpa using l, λi a u E h2 => ?_⟩
      have A:((xs.toList.map w.eval)++us.toList)[i]?=some u := by simpa using h2
      by_cases hi:i<bs.length
      · rw[wi hi] at E
        obtain⟨x, Z, F⟩ := hget i a E
        rw[wi (by simp at l ⊢;omega), wd, Z] at A
        simp only[xi, wP] at A
        subst A
        rcases F with ⟨F, k3⟩ | ⟨F, rfl⟩
        · exact Jj (x := z) (y := z.aside) rfl (λb h => h) (F.rep he hc) k3
        · have := F.rep he hc
          generalize w.eval x=v at this ⊢
          cases this;exact .r .snil
      · rw[we (by omega)] at E
        rw[we (by simp at l ⊢;omega)] at A
        have a8:(xs.toList.map w.eval).length=bs.length := by simpa using l
        rw[a8] at A
        exact Jj (x := z) (y := z.aside) rfl (λb h => h) (X _ a u E (by simpa using A)) (LV J E)
    unfold Oper.wp
    rw[Y]
    refine(V z.aside _ (vO q) rfl O).mono λe w' ⟨u, y, he', aa, j, B, ab⟩ => ?_
    subst he'
    subst aa
    have a0:y.F=z.aside.F := j.F
    have I:z.le { y with F := z.F, H := z.H, β := z.β, n := z.n } ∧ ({ y with F := z.F, H := z.H, β := z.β, n := z.n } : Cx).ok := by
      have C:z.le { y with F := z.F, H := z.H, β := z.β, n := z.n } :=
        ⟨j.size, j.os, j.tape, j.output, λb T => j.blk b (T.imp id (λh => Or.inl h)), λb h => j.S b h, rfl, wL _, λid o h _ => ⟨o, h, rfl, rfl, rfl⟩⟩
      refine⟨C, B.S_lt, λb T => wZ (q.F_lt b T) j.size, λb T hf => ?_, λid ob a1 => ?_, λid ob b k E h2 => ?_, q.inj, q.tabs.le C⟩
      · exact B.SF b T (by rw[a0];exact .inl hf)
      · obtain⟨Z, F⟩ := q.obj id ob a1
        exact⟨Z, F.mono C λb k T => j.blk b (.inr (.inr ⟨id, ob, k, a1, T⟩))⟩
      · obtain⟨Z, F, k3⟩ := q.own id ob b k E h2
        refine⟨wZ Z j.size, λhs => ?_, k3⟩
        exact B.SF b hs (by rw[a0];exact .inr ⟨id, ob, k, E, h2⟩)
    exact hK u { y with F := z.F, H := z.H, β := z.β, n := z.n } I.1 I.2 hH hn (Jj (x := y) (y := { y with F := z.F, H := z.H, β := z.β, n := z.n }) rfl (λ_ h => h) ab U)
def Db:Nat→List AV→Ab
 | _,[]=>[]
 | i,a::l=>(i,a)::Db (i+1) l
theorem SR l:∀(i t:Nat),get (Db i l) t=.any∨∃j a,t=i+j∧l[j]?=some a∧get (Db i l) t=a:=by
 induction l with
 | nil=>intro i t;exact .inl rfl
 | cons a l u=>
  intro i t
  simp only[Db,D6]
  split
  ·rename_i w;subst w;exact .inr ⟨0,a,rfl,rfl,rfl⟩
  ·rcases u (i+1) t with q | ⟨j,b,q,A,B⟩
   ·exact .inl q
   ·exact .inr ⟨j+1,b,by omega,by simpa using A,B⟩
end
section
variable{P:Program}{c:Bool}{o:Oper}{R:Ab}{h:AS}{n:Nat}
end
section
variable{P:Program}{ops:Array Oper}{rest:List Oper}{s:St}{K:St→Prop}{o:Oper}
def CC(y:Cx)(j:World):Prop:=∃z:Cx,z.w=j∧y.le z∧z.ok∧z.H=y.H∧z.β=y.β∧z.n=y.n∧z.S=y.S∧E4 y j
def AQ(P:Program)(ops:Array Oper)(rest:List Oper)(s:St)(K:St→Prop):Prop:=
 ∀(y:Cx) (a:Act),y.ok→y.H=hget s.h→y.n=s.n→a.tmps.size=s.N→CK y s.e a→∀q:Act→Prop,
  (∀j l,K j→j.h=s.h→j.n=s.n→j.N=s.N→l.tmps.size=s.N→l.defers=a.defers→CK y j.e l→q l)→wpQuiet P ops (CC y) q rest a
theorem AQ.nil(h:K s):AQ P ops [] s K:=λ_ a _ _ _ j l _ q=>wpQuiet_nil (q s a h rfl rfl rfl j rfl l)
theorem vG{y z:Cx}{j}(q:z.H=y.H)(u:z.β=y.β)(w:z.S=y.S)(A:E4 y z.w)(B:E4 z j):E4 y j:=by
 intro b l
 refine(B b ?_).trans (A b l)
 rw[q,u,w];exact l
theorem AQ.step{d}{v}(hg:o.guard=none)(hd:o.dst=some d)(F:Nat.blt d s.N=true)(I:AU P true o s.e s.h v)
 (J:AQ P ops rest { e := (d, v)::s.e, h := s.h, n := s.n, N := s.N } K):AQ P ops (o::rest) s K := by
  intro y a j C M hsz E O T
  obtain⟨u, l, U⟩ := I rfl y a j C E
  have q:d<a.tmps.size := by rw[hsz];exact C3 F
  refine wpQuiet_step λK' w => ?_
  rw[vx (by simp[Region.wanted, hg])]
  refine⟨u, λV A => ?_, w _ ?_⟩
  · obtain⟨z, hz, _, _, _, _, _, _, B⟩ := A
    unfold Oper.quietAt
    rw[l V B]
    exact⟨rfl, rfl⟩
  · rw[hd]
    refine J y (a.put (some d) u) j C M (by simpa[Act.put] using hsz) (E.put q U) O λX Y Z k2 k3 k4 k5 k6 k7 => T X Y Z k2 k3 k4 k5 k6 k7
theorem eR{a:Act}{j u}{l b}(hg:o.guard=some (j,l))(w:(ops[j]?).bind (·.dst)=some u)(q:a.tmps.getD u undef=.bool b):Region.wanted o (yielded ops a.tmps)=(b==l):=by
 simp only[Region.wanted,hg,yielded]
 cases A:ops[j]? with
 | none=>rw[A] at w;cases w
 | some C=>
  rw[A] at w
  simp only[zM] at w
  simp only[w,zM]
  have:a.tmps[u]?=some (.bool b):=by
   have B:u<a.tmps.size:=by
    rcases yV u a.tmps.size with h | h
    ·exact h
    ·simp[Array.getD,Nat.not_lt.2 h] at q;cases q
   rw[wl B]
   simpa[Array.getD,B] using q
  simp[this]
def Iz:AV→Option Value
 | .r (.int k n)=>some (.int k n)
 | .r (.bool b)=>some (.bool b)
 | .r (.str s)=>some (.string ⟨s.toArray⟩)
 | _=>none
def JN:List AV→Option (List Value)
 | []=>some []
 | a::l=>match Iz a,JN l with
  | some v,some r=>some (v::r)
  | _,_=>none
def PG:AV→Option Value
 | .tup j=>(JN j).map λl=>.tuple l.toArray
 | a=>Iz a
theorem dP{x}{r}{v u}(h:Iz r=some v)(j:AX x r u):u=v:=by
 unfold Iz at h
 split at h
 ·cases h;exact Cw j
 ·cases h;exact HC j
 ·cases h;exact Hy j
 ·cases h
theorem fO{x}{r}{v}(h:Iz r=some v):AX x r v:=by
 unfold Iz at h
 split at h
 ·cases h;exact .r (.int _ _)
 ·cases h;exact .r (.bool _)
 ·cases h;exact .r (.str ⟨_⟩)
 ·cases h
theorem Ur:∀ {vs:List AV} {l:List Value},JN vs=some l→vs.length=l.length∧∀(i:Nat) (a:AV),vs[i]?=some a→∃v:Value,l[i]?=some v∧Iz a=some v
 | [],l,h=>by cases h;exact⟨rfl,by simp⟩
 | a::vs,l,h=>by
  unfold JN at h
  split at h
  ·rename_i v r q u
   cases h
   obtain⟨w,A⟩:=Ur u
   refine⟨by simp[w],λi b j=>?_⟩
   cases i with
   | zero=>cases j;exact⟨v,rfl,q⟩
   | succ i=>simpa using A i b (by simpa using j)
  ·cases h
theorem lG{x}{r}{v u}(h:PG r=some v)(C:AX x r u):u=v:=by
 cases r with
 | tup q=>
  change (JN q).map (λl=>Value.tuple l.toArray)=some v at h
  cases A:JN q with
  | none=>rw[A] at h;cases h
  | some l=>
   rw[A] at h
   simp only[xi,wP] at h
   subst h
   obtain⟨V,F⟩:=Ur A
   cases C with
   | @tup _ I X j=>
    congr 1
    apply Array.ext
    ·simp;omega
    ·intro i J M
     obtain⟨w,E,O⟩:=F i (q[i]'(by omega)) (wB (by omega))
     have T:=j i _ I[i] (wB (by omega)) (wl J)
     have U:=dP O T
     have B:i<l.length:=by simpa using M
     rw[wB B] at E
     cases E
     simpa using U
 | _=>first | exact dP (show Iz _=some v from h) C | cases h
theorem fy{x}{r}{v}(h:PG r=some v):AX x r v:=by
 cases r with
 | tup A=>
  change (JN A).map (λl=>Value.tuple l.toArray)=some v at h
  cases q:JN A with
  | none=>rw[q] at h;cases h
  | some l=>
   rw[q] at h
   simp only[xi,wP] at h
   subst h
   obtain⟨B,C⟩:=Ur q
   refine .tup (by simpa using B) λi c u E F=>?_
   obtain⟨w,I,J⟩:=C i c E
   have j:l[i]?=some u:=by simpa using F
   rw[I] at j;cases j
   exact fO J
 | _=>first | exact fO (show Iz _=some v from h) | cases h
theorem AQ.call{c}{f}{fo}{xs:Array Operand}{a7}{caps bs:List AV}{r}{v}{a:Act}{y:Cx}{R}{h}(ho:o.op=.call { callee := .value fo, args := xs, argTypes := a7 })
 (a8:Ev c R fo (.fn f caps)) (F:Du caps=true) (hx:Hw c R h xs.toList bs) (hr:c=true→AO P f (bs++caps) r) (aa:PG r=some v) (hc:c=true) (_hok:y.ok) (hH:y.H=hget h) (he:CK y R a) :
    ∀w2, CC y w2→o.quietAt P a (CC y) w2 v := by
  rintro w2 ⟨z, rfl, O, j, I, T, ab, U, V⟩
  obtain⟨J, _, X⟩ := hr hc
  obtain⟨w, hget⟩ := hx.get
  have Y := he.mono O
  have ac:z.H=Al.hget h := I.trans hH
  have hv := a8.rep Y hc
  generalize ad:a.eval fo=vv at hv
  cases hv with
  | @fn _ _ us hl Z =>
    have a0 := OU J ho ad z.w
    have M:IJ z.frozen (bs++caps) (xs.map a.eval++us).toList := by
      refine⟨by simp[hl];simpa using w, λi b u C h2 => ?_⟩
      have A:((xs.toList.map a.eval)++us.toList)[i]?=some u := by simpa using h2
      by_cases hi:i<bs.length
      · rw[wi hi] at C
        obtain⟨x, b', k1, k2, k3⟩ := hget i b C
        rw[wi (by simp at w ⊢;omega), wd, k1] at A
        simp only[xi, wP] at A
        subst A
        exact k3.rep j ac (k2.rep Y hc)
      · rw[we (by omega)] at C
        rw[we (by simp at w ⊢;omega)] at A
        have ae:(xs.toList.map a.eval).length=bs.length := by simpa using w
        rw[ae] at A
        exact Jj (x := z) (y := z.frozen) rfl (λb h => Or.inl h) (Z _ b u C (by simpa using A)) (LV F C)
    unfold Oper.quietAt
    rw[a0]
    refine⟨rfl, (X z.frozen _ (Uq j) rfl M).mono λe w' ⟨u, q, he', af, l, a1, ag⟩ => ?_⟩
    subst af
    refine⟨by rw[he', lG aa ag], ?_⟩
    have B:z.le { q with S := z.S, H := z.H, β := z.β, n := z.n } :=
      ⟨l.size, l.os, l.tape, l.output, λb E => l.blk b (E.imp (λh => Or.inl h) id), λ_ h => h, l.F, wL _, λid o h _ => ⟨o, h, rfl, rfl, rfl⟩⟩
    have a2:({ q with S := z.S, H := z.H, β := z.β, n := z.n } : Cx).F=z.F := l.F
    refine⟨{ q with S := z.S, H := z.H, β := z.β, n := z.n }, rfl, O.trans B, ⟨λb E => wZ (j.S_lt b E) l.size, a1.F_lt, λb E => ?_, λid ob a6 => ?_, λid ob b k C h2 => ?_, j.inj, j.tabs.le B⟩, I, T, ab, U, ?_⟩
    · rw[a2];exact j.SF b E
    · obtain⟨k1, k2⟩ := j.obj id ob a6
      exact⟨k1, k2.mono B λb k E => l.blk b (.inl (.inr ⟨id, ob, k, a6, E⟩))⟩
    · obtain⟨k1, k2, k3⟩ := j.own id ob b k C h2
      exact⟨wZ k1 l.size, k2, by rw[a2];exact k3⟩
    · refine vG I T U V λb E => l.blk b (.inl (E.imp id ?_))
      exact λ⟨id, o, k, C, h2⟩ => ⟨id, o, k, C, h2⟩
theorem Ep{d}{f}{C}{xs:Array Operand}{u}{caps bs}{r}{v}(hg:o.guard=none)(hd:o.dst=some d)(I:Nat.blt d s.N=true)
 (J:o.op=.call { callee := .value C, args := xs, argTypes := u }) (w:Ev true s.e C (.fn f caps)) (j:Du caps=true) (M:Hw true s.e s.h xs.toList bs) (O:true=true→AO P f (bs++caps) r) (l:PG r=some v)
 (T:AQ P ops rest { e := (d, r)::s.e, h := s.h, n := s.n, N := s.N } K):AQ P ops (o::rest) s K := by
  intro y a q E U hsz F V X
  have A:d<a.tmps.size := by rw[hsz];exact C3 I
  refine wpQuiet_step λK' B => ?_
  rw[vx (by simp[Region.wanted, hg])]
  refine⟨v, AQ.call J w j M O l rfl q E F, B _ ?_⟩
  rw[hd]
  exact T y (a.put (some d) v) q E U (by simpa[Act.put] using hsz) (F.put A (fy l)) V λY Z k1 k2 k3 k4 k5 k6 k7 => X Y Z k1 k2 k3 k4 k5 k6 k7
theorem iz{id}{l:List Oper}{Q}(hm:P.follows .mixedOrders=true)(hB:Region.lexB .any l.toArray=true)(h:AQ P l.toArray l s (Q .normal)):AW P (.region id l.toArray true) Q s:=by
 intro z0 J c0 a w ⟨_,B,hsz,y,M,O,j,Y,Z,he⟩
 subst M
 have T:∀u:World,u.heap=y.w.heap→u.os=y.w.os→u.tape=y.w.tape→u.output=y.w.output→CC y u:=by
  intro u A h2 h3 h4
  have q:y.le { y with w:=u }:=⟨by rw[A];exact wL _,h2,h3,h4,λb _=>by rw[A],λ_ h=>h,rfl,wL _,λid o h _=>⟨o,h,rfl,rfl,rfl⟩⟩
  refine⟨{ y with w:=u },rfl,q,⟨λb U=>by rw[A];exact j.S_lt b U,λb U=>by rw[A];exact j.F_lt b U,j.SF,λid o ho=>?_,λid o b k C E=>by rw[A];exact j.own id o b k C E,j.inj,j.tabs.le q⟩,rfl,rfl,rfl,rfl,λb _=>by rw[A]⟩
  obtain⟨C,E⟩:=j.obj id o ho
  exact⟨C,E.mono q λb k _=>by rw[A]⟩
 refine mE KN (C:=CC y) hm hB J (T _ rfl rfl rfl rfl) ?_
 refine h y a j Y Z hsz he _ λs' a' C E k3 k4 k5 k6 k7 u ⟨z,hz,F,I,V,_,X,_,_⟩=>?_
 subst hz
 exact⟨by simp,s',C,_,k6.trans B,by rw[k5,k4],z,rfl,O.trans F,I,by rw[V,Y,E],by rw[X,Z,k3],k7.mono F⟩
end
section
variable{P:Program}{c:Bool}{o:Oper}{R:Ab}{h:AS}{n:Nat}
theorem kD{x}(j : -9223372036854775808≤x)(l:x≤9223372036854775807):IntKind.i64.wrap x=x:=by
 rw[IntKind.wrap_i64];omega
def DV(P:Program)(t:TypeId)(j:List (Nat × Nat))(z:List Value):Prop:=
 ∃l:Array Field,P.underlying t=some (.struct l)∧(∀w,(l.mapM (m:=Sem) λf=>do pure (f.offset,← sizeOf f.type)).run P w=.ok j.toArray w)∧∃i,P.info? t=some i∧i.zero=some (.agg z.toArray)
def N5:List AV→List (Nat × AV)→List AV
 | j,[]=>j
 | j,(off,a)::r=>N5 (GX j off (Bm a)) r
def Ra(c:Bool)(R:Ab)(j:List (Nat × Nat))(len:Nat):List (Nat × Operand)→List (Nat × AV)→Prop
 | [],[]=>True
 | (i,x)::r,(off,a)::q=>j[i]?=some (off,(Bm a).length)∧Nat.ble (off+(Bm a).length) len=true∧(Bm a).all AV.one=true∧Ev c R x a∧Ra c R j len r q
 | _,_=>False
theorem VC{x}{a:Act}{w}(hc:c=true)(T:CK x R a):∀(I:List (Nat × Operand)) (q:List (Nat × AV)) (us:Array Value) (cs:List AV),us.size=cs.length →
  (∀(j:Nat) (b:AV) (u:Value),cs[j]?=some b→us[j]?=some u→AX x b u)→Ra c R w cs.length I q →
  ∃A,Instr.fill (w[·]?) us (I.map λ(i,y)=>(i,a.eval y))=some A∧A.size=(N5 cs q).length∧∀(j:Nat) (b:AV) (u:Value),(N5 cs q)[j]?=some b→A[j]?=some u→AX x b u
 | [],[],us,cs,J,B,_=>⟨us,rfl,J,B⟩
 | [],_::_,_,_,_,_,hp=>hp.elim
 | _::_,[],_,_,_,_,hp=>hp.elim
 | (i,y)::I,(off,b)::q,us,cs,J,B,hp=>by
  obtain⟨X,Y,Z,h4,h5⟩:=hp
  have M:off+(Bm b).length≤cs.length:=wx Y
  obtain⟨U,k2,_⟩:=Qr (h4.rep T hc) (λd hd=>wT.1 Z d hd)
  have E:(GX cs off (Bm b)).length=cs.length:=by simp[GX];omega
  obtain⟨f1,f2⟩:=Yq off (a.eval y) us (by omega)
  obtain⟨A,g1,g2,g3⟩:=VC hc T I q _ (GX cs off (Bm b)) (by rw[f1,J,E]) (λj d u F C=>by
   have O:=Mg cs (Bm b) off j M
   unfold GX at F
   rw[O] at F
   rw[f2] at C
   rw[U] at C
   split at F
   ·rename_i l
    rw[vx l] at C
    obtain⟨u',V,_,m2⟩:=k2 _ _ F
    rw[C] at V;cases V;exact m2
   ·rename_i l
    rw[ne l] at C
    exact B j d u F C) (by rw[E];exact h5)
  refine⟨A,?_,g2,g3⟩
  simp only[wS,Instr.fill,X]
  rw[ne (by simp[U];omega)]
  exact g1
theorem Bg{t}{parts:Array (Nat × Operand)}{l:List (Nat × Nat)}{z:List Value}{q}{cs}(F:o.op=.build t parts)(I:DV P t l z)
 (hp:Ra c R l z.length parts.toList q) (A:N5 (z.map IV) q=cs):AU P c o R h (.agg cs) := by
  intro J y a _ _ M
  subst A
  obtain⟨fs, O, T, i, U, V⟩ := I
  obtain⟨B, X, Y, Z⟩ := VC J M parts.toList q z.toArray (z.map IV) (by simp) (λj b u w C => by
    have E:z[j]?=some u := by simpa using C
    rw[wd, E] at w
    simp only[xi, wP] at w
    subst w;exact RI y u) (by rw[wN];exact hp)
  refine⟨.agg B, λw2 _ => ?_, .agg Y.symm λj b u w C => Z j b u w C⟩
  unfold execOp
  rw[F]
  simp only[Instr.build, zeroValue, typeInfo, Sem.run_bind, run_program, Result.andThen_ok, U, Sem.run_pure, V, run_underlying O, T, Value.cells, zL]
  have:(λx:Nat => l.toArray[x]?)=(l[·]?) := by funext x;simp
  rw[this, X]
  rfl
def F4(P:Program)(t:TypeId)(f off:Nat):Prop:=∃(l:Array Field) (j:Field) (d:TypeDesc),P.underlying t=some (.struct l)∧l[f]?=some j∧j.offset=off∧P.underlying j.type=some d∧Gm d=true
theorem Ou{t}{x}{f off}{cs}{a}(B:o.op=.field t x f)(C:F4 P t f off)(E:Ev c R x (.agg cs))(q:cs[off]?=some a):AU P c o R h a:=by
 intro F z w _ _ I
 obtain⟨X,Y,d,J,M,O,T,U⟩:=C
 have u:=E.rep I F
 generalize V:w.eval x=v at u
 cases u with
 | @agg _ l Z j=>
  have A:off<l.size:=by have:=(wA.1 q).1;omega
  refine⟨l[off],λw2 _=>?_,j off a l[off] q (wl A)⟩
  unfold execOp
  rw[B]
  simp[V,Instr.field,run_underlying J,M,asAgg,part,KT T,U,O,wl A]
end
section
variable{P:Program}{t e:TypeId}{z:Value}{sz b:Nat}
theorem Jz(h:(P.info? t).map (λi=>(i.zero,i.size,i.bytes))=some (some z,sz,b)):∃i,P.info? t=some i∧i.zero=some z∧i.size=sz∧i.bytes=b:=by
 cases j:P.info? t with
 | none=>rw[j] at h;cases h
 | some i=>
  rw[j] at h
  simp only[xi,wP,wV] at h
  exact⟨i,rfl,h.1,h.2.1,h.2.2⟩
theorem Bn.of(j:P.underlying t=some (.slice e))(l:(P.info? e).map (λi=>(i.zero,i.size,i.bytes))=some (some z,sz,b))(q:z.cells.size=sz)(w:z.cells.toList.all Value.oneCell'=true)(A:0<sz):Bn P t e sz b:=by
 obtain⟨i,B,C,E,F⟩:=Jz l
 exact⟨j,i,z,B,E,F,C,q,λu I=>wT.1 w u I,A⟩
theorem Bh.of{d}(j:P.underlying t=some d)(l:Gm d=true)(q:(P.info? t).map (λi=>(i.zero,i.size,i.bytes))=some (some z,1,b)):Bh P t:=by
 obtain⟨i,u,_,w,_⟩:=Jz q
 exact⟨d,i,j,l,u,w⟩
theorem Bj.of{d}(j:P.underlying t=some d)(l:Gm d=false)(q:(P.info? t).map (λi=>(i.zero,i.size,i.bytes))=some (some z,sz,b)):Bj P t sz:=by
 obtain⟨i,u,_,w,_⟩:=Jz q
 exact⟨d,i,j,l,u,w⟩
theorem DG(j:(P.info? t).map (λi=>(i.zero,i.size,i.bytes))=some (some z,sz,b)):∃i,P.info? t=some i∧i.size=sz:=by
 obtain⟨i,l,_,q,_⟩:=Jz j
 exact⟨i,l,q⟩
theorem CS.of(j:(P.info? t).map (λi=>(i.zero,i.size,i.bytes))=some (some z,sz,b)):CS P t z:=by
 obtain⟨i,l,q,_,_⟩:=Jz j
 exact⟨i,l,q⟩
theorem Jv.of{j}(l:(P.info? t).map (λi=>(i.zero,i.size,i.bytes))=some (some z,sz,b))(h:H2 (HA z)=some j):Jv P t j:=by
 obtain⟨i,q,u,_,_⟩:=Jz l
 exact⟨i,z,q,u,h⟩
theorem AY.of{l}{j:Field}{f off}(q:P.underlying t=some (.struct l))(u:l[f]?=some j)(w:j.offset=off)(A:(P.info? j.type).map (λi=>(i.zero,i.size,i.bytes))=some (some z,sz,b))(B:sz≠0):AY P t f off:=by
 obtain⟨i,C,_,E,_⟩:=Jz A
 exact⟨l,j,i,q,u,w,C,by rw[E];exact B⟩
theorem F4.of{l}{j:Field}{d}{f off}(q:P.underlying t=some (.struct l))(u:l[f]?=some j)(w:j.offset=off)(A:P.underlying j.type=some d)(B:Gm d=true):F4 P t f off:=⟨l,j,d,q,u,w,A,B⟩
theorem DV.of{l:Array Field}{j:List (Nat × Nat)}{q:List Value}(u:P.underlying t=some (.struct l))(A:∀w,(l.mapM (m:=Sem) λf=>do pure (f.offset,← sizeOf f.type)).run P w=.ok j.toArray w)
  (B:(P.info? t).map (λi=>(i.zero,i.size,i.bytes))=some (some (.agg q.toArray),sz,b)):DV P t j q:=by
 obtain⟨i,C,E,_,_⟩:=Jz B
 exact⟨l,u,A,i,C,E⟩
end
theorem m9{P}{c}{o:Oper}{R}{h}{α:Type}{t}{e}{sz}{x}{l:List α}{f}(j:o.op=.call { callee := .builtin .len, args := #[x], argTypes := #[t] })(q:Fv P t e sz)
 (u:Ev c R x (.r (.sl (l.map f)))):AU P c o R h (.r (.int .i64 l.length)) := by
  have := fp (h := h) j q u
  rwa [wN] at this
theorem rV{P}{c}{o:Oper}{R}{h}{α:Type}{t}{e e'}{sz j}{x}{id g}{l:List α}{f}(q:o.op=.call { callee := .builtin .len, args := #[x], argTypes := #[t] })
 (u:Fv P t e sz) (w:Ev c R x (.own id g)) (A:hget h id=some (.arr g e' j (l.map f))):AU P c o R h (.r (.int .i64 l.length)) := by
  have := iN q u w A
  rwa [wN] at this
theorem aH{x}{b}{v}(h:AX x (.r (.bool b)) v):v=.bool b:=by
 cases h with
 | r h=>cases h;rfl
theorem aL{P}{c}{o:Oper}{R}{h}{op}{t q}{x y}{m n}{v}{u}(A:o.op=.binOp op t x y q)(B:Ev c R x (.r (.bool m)))(C:Ev c R y (.r (.bool n)))
 (E:∀w, (binOp op t (.bool m) (.bool n)).run P w=.ok u w) (F:∀w S, Bl w S v u):AU P c o R h (.r v) := by
  intro j z a _ _ l
  refine⟨u, λJ I => ?_, .r (F _ _)⟩
  unfold execOp
  rw[A]
  simp only[aH (B.rep l j), aH (C.rep l j), eqGuard_at_bool]
  simp[E]
theorem hY{P:Program}{c}{o:Oper}{R}{h}{t j}{x y}{m n}(l:o.op=.binOp .eql t x y j)(q:P.underlying t=some .bool)(u:Ev c R x (.r (.bool m)))(A:Ev c R y (.r (.bool n))) :
  AU P c o R h (.r (.bool (m==n))):=aL l u A (λw=>by simp[binOp,run_equal_bool _ t m n q]) (λ_ _=>.bool _)
theorem ex{P:Program}{c}{o:Oper}{R}{h}{t j}{x y}{m n}(l:o.op=.binOp .neq t x y j)(q:P.underlying t=some .bool)(u:Ev c R x (.r (.bool m)))(A:Ev c R y (.r (.bool n))) :
  AU P c o R h (.r (.bool (!(m==n)))):=aL l u A (λw=>by simp[binOp,run_equal_bool _ t m n q]) (λ_ _=>.bool _)
open Go.ChangeShapes Go.WideShapes Go.Deep Go.WideElems
def Cx.start(W:World):Cx:={ w:=W,S:=λb=>b<W.heap.size,F:=λ_=>False,H:=λ_=>none,β:=λ_=>none,n:=0 }
theorem vi(W:World)(j:GB (Cx.start W)):(Cx.start W).ok:=
 ⟨λ_ h=>h,λ_ h=>h.elim,λ_ _ h=>h,(λ_ _ h=>by cases h),(λ_ _ _ _ h=>by cases h),(λ_ _ _ _ _ _ _ h=>by cases h),j⟩
theorem U6{W:World}{y:Cx}(h:(Cx.start W).le y){b}(j:b<W.heap.size):y.w.heap[b]?=W.heap[b]?:=h.blk b (.inl j)
section
variable{H:Type}{enc:TypeId × Value→H}{P:Program}{W:World}
def Rd(W:World)(cs:List Value)(l:List RV):Prop:=
 cs.length=l.length∧∀(j:Nat) (d:RV) (u:Value),l[j]?=some d→cs[j]?=some u→Bl W (· < W.heap.size) d u
theorem Rd.one{d}{u}(h:Bl W (· < W.heap.size) d u):Rd W [u] [d]:=by
 refine⟨rfl,λj w A l q=>?_⟩
 cases j with
 | zero=>simp at l q;subst l;subst q;exact h
 | succ j=>simp at l
theorem YE{α:Type}{Q:Nat→α→Prop}(n:Nat)(h:∀i,i<n→∃b,Q i b):∃l:List α,l.length=n∧∀i b,l[i]?=some b→Q i b:=by
 induction n with
 | zero=>exact⟨[],rfl,λi b h=>by simp at h⟩
 | succ k w=>
  obtain⟨l,u,A⟩:=w (λi E=>h i (by omega))
  obtain⟨b,B⟩:=h k (by omega)
  refine⟨l++[b],by simp[u],λi C j=>?_⟩
  rcases yV i l.length with q | q
  ·rw[wi q] at j;exact A i C j
  ·rw[we q] at j
   have:i=l.length:=by
    have:=(wA.1 j).1
    simp at this;omega
   subst this
   simp at j;subst j
   rw[u];exact B
theorem ej(C:laidOutB P=true){E}{l} : ∀ {A:List TypeId} {vs:List Value} {ds:List (DataW H)} {w:List MemPlace},(∀t∈A,P.readableRec t=true∧t<P.types.size) →
  DataW.TrodAll enc P W 0 (λ_=>true) true A vs ds w→(∀p∈w,W.sameAt E p)→(∀p∈w,l p.block=true)→DataW.TrodAll enc P E 0 l true A vs ds w
 | [],[],[],_,_,h,_,_=>h
 | t::_,_::_,_::_,_,B,⟨p,q,I,J,e⟩,F,u=>
  ⟨p,q,Trod_stays C (B t (wM.2 (.inl rfl))).1 (B t (wM.2 (.inl rfl))).2 I (λx j=>F x (by rw[e];exact yG _ j)) (λx j=>u x (by rw[e];exact yG _ j)),
   ej C (λt M=>B t (wM.2 (.inr M))) J (λx j=>F x (by rw[e];exact zO _ j)) (λx j=>u x (by rw[e];exact zO _ j)),e⟩
theorem rX{y:Cx}(h:(Cx.start W).le y){p:MemPlace}(hp:p.block<W.heap.size):W.sameAt y.w p:=by
 cases p with
 | cell b off=>exact World.cell?_of_block (U6 h hp)
 | map b=>exact U6 h hp
theorem ql{y:Cx}(h:(Cx.start W).le y) j:W.keptBut y.w j:=by
 refine⟨h.os,h.output,λi l=>?_⟩
 have:=(World.keptBut_refl W j).2.2 i l
 rw[U6 h l]
 exact this
theorem pz{f:Func}{s:ChangeSpec}{args:Array Value}{v:Value}{ds E}{j}{y:Cx}(T:laidOutB P=true)(F:∀t ∈ f.params.toList, P.readableRec t=true∧t<P.types.size)(w:s.vars=[])
 (M:DataW.Whole enc P f.params.toList s.vars false W args.toList ds E j) (A:(Cx.start W).le y) (l:(s.fn H (ds++E)).args=ds) (u:(s.fn H (ds++E)).vars=[])
 (B:∀(b:Nat) (U:Nat→Bool) (hd:Bool), DataW.TrodAll enc P y.w b U hd f.resultTypes.toList (v.resultList f.resultTypes.size) (s.fn H (ds++E)).results []):s.post enc P f false true false false W args v y.w := by
  have I := M
  obtain⟨p, q, hA, O, rfl, _, _⟩ := M
  rw[w] at O
  obtain⟨rfl, rfl⟩ := trodVars_none O
  have C:∀x ∈ p, x.block<W.heap.size := DataW.TrodAll.lt hA
  refine⟨ds, [], p++[], [], p, [], I, B _ _ _, ?_, ?_, ql A _, λh => by cases h⟩
  · rw[l]
    exact ej T F hA (λx J => rX A (C x J)) (λx J => by simpa using C x J)
  · rw[w, u];rfl
end
end Go.Proofs.YtdafahjmopdleaaGreatDoor.Al

namespace Go.Proofs.YtdafahjmopdleaaGreatDoor.Al
def Dd(L:List Nat)(i:Nat):Nat:=L.getD (i-1000) 0
mutual
def ren(L:List Nat):AV→AV
 | .own id g=>.own (Dd L id) g
 | .ptr id g i k=>.ptr (Dd L id) g i k
 | .mref id g=>.mref (Dd L id) g
 | .yld id g=>.yld (Dd L id) g
 | .full xs=>.full xs
 | .agg cs=>.agg (FF L cs)
 | .tup cs=>.tup (FF L cs)
 | .fn f cs=>.fn f (FF L cs)
 | .r d=>.r d
 | .rop row k=>.rop row k
 | .cst v=>.cst v
 | .whn b v=>.whn b v
 | .any=>.any
def FF(L:List Nat):List AV→List AV
 | []=>[]
 | a::l=>ren L a::FF L l
end
mutual
def AV.canon(k:Nat):AV→Bool
 | .own id _=>Nat.ble 1000 id&&Nat.blt id (1000+k)
 | .ptr id _ _ _=>Nat.ble 1000 id&&Nat.blt id (1000+k)
 | .agg cs=>GU k cs
 | .tup cs=>GU k cs
 | .fn _ cs=>GU k cs
 | .whn _ _=>false
 | .mref _ _=>false
 | .yld _ _=>false
 | .full _=>false
 | .r _=>true
 | .rop _ _=>true
 | .cst _=>true
 | .any=>true
def GU(k:Nat):List AV→Bool
 | []=>true
 | a::l=>a.canon k&&GU k l
end
def A9.ren(L:List Nat):A9→A9
 | .arr g e sz l=>.arr g e sz l
 | .box g e u=>.box g e (FF L u)
 | .hot g e l k id w=>.hot g e l k id w
 | .it g s pos=>.it g s pos
 | .mp g ks A clock=>.mp g ks A clock
 | .mi g q B j Ce last=>.mi g q B j Ce last
 | .lp g e N C a b E p=>.lp g e N C a b E p
def A9.canon(k:Nat):A9→Bool
 | .arr _ _ _ _=>true
 | .box _ _ j=>GU k j
 | .hot _ _ _ _ _ _=>false
 | .it _ _ _=>false
 | .mp _ _ _ _=>false
 | .mi _ _ _ _ _ _=>false
 | .lp _ _ _ _ _ _ _ _=>false
theorem H6 L(l:List AV):(FF L l).length=l.length:=by
 induction l with
 | nil=>rfl
 | cons a l j=>simp[FF,j]
theorem IU(L:List Nat)(l:List AV)(i:Nat):(FF L l)[i]?=(l[i]?).map (ren L):=by
 induction l generalizing i with
 | nil=>simp[FF]
 | cons a l j=>cases i with
  | zero=>simp[FF]
  | succ i=>simp[FF,j]
theorem I9{k:Nat}{cs:List AV}(h:GU k cs=true){i:Nat}{a:AV}(j:cs[i]?=some a):a.canon k=true:=by
 induction cs generalizing i with
 | nil=>simp at j
 | cons b l q=>
  simp only[GU,v7] at h
  cases i with
  | zero=>simp at j;subst j;exact h.1
  | succ i=>exact q h.2 (by simpa using j)
theorem L9 L(o:A9):(o.ren L).gen=o.gen:=by cases o<;>rfl
theorem Up L(o:A9):(o.ren L).shape=o.shape:=by cases o<;>simp[A9.ren,A9.shape,H6]
def ND(x:Cx)(i:Nat)(y:Cx)(j:Nat):Prop:=∀o,x.H i=some o→∃o2,y.H j=some o2∧o2.gen=o.gen∧o2.shape=o.shape∧y.β j=x.β i
theorem aQ{x y:Cx}{L}{k}(Y:y.w=x.w)(J:∀b,x.S b→y.S b)(Z:x.n≤y.n)(hH:∀id,1000≤id→id<1000+k→ND y (Dd L id) x id){a:AV}{v}(hv:AX x a v)(l:a.canon k=true) :
  AX y (ren L a) v:=by
 have hb:∀b,x.S b→y.w.heap[b]?=x.w.heap[b]?:=λ_ _=>by rw[Y]
 induction hv with
 | r h=>exact .r (h.mono hb J)
 | cst v=>exact .cst v
 | any v=>exact .any v
 | rop u q B A=>exact .rop u (λh=>J _ (q h)) (λj d M=>by rw[Y];exact B j d M) (λj d M=>(A j d M).mono hb J)
 | agg E _ F=>
  simp only[AV.canon] at l
  refine .agg (by rw[H6];exact E) λi c u q B=>?_
  rw[IU,wW] at q
  obtain⟨I,A,rfl⟩:=q
  exact F i I u A B (I9 l A)
 | tup E _ F=>
  simp only[AV.canon] at l
  refine .tup (by rw[H6];exact E) λi c u q B=>?_
  rw[IU,wW] at q
  obtain⟨I,A,rfl⟩:=q
  exact F i I u A B (I9 l A)
 | fn E _ F=>
  simp only[AV.canon] at l
  refine .fn (by rw[H6];exact E) λi c u q B=>?_
  rw[IU,wW] at q
  obtain⟨I,A,rfl⟩:=q
  exact F i I u A B (I9 l A)
 | own hg q O=>
  simp only[AV.canon,v7,zS,zT] at l
  refine .own (wZ hg Z) q λo C w=>?_
  obtain⟨o2,T,U,V,X⟩:=hH _ l.1 l.2 o C
  rw[← X,← V]
  exact O o2 T (U.trans w)
 | ptr hg q O=>
  simp only[AV.canon,v7,zS,zT] at l
  refine .ptr (wZ hg Z) q λo C w=>?_
  obtain⟨o2,T,U,V,X⟩:=hH _ l.1 l.2 o C
  rw[← X,← V]
  exact O o2 T (U.trans w)
 | whn _ _ _=>simp[AV.canon] at l
 | mref _ _ _=>simp[AV.canon] at l
 | yld _ _ _=>simp[AV.canon] at l
 | full _ _=>simp[AV.canon] at l
theorem Z0{x y:Cx}{L}{k}(X:y.w=x.w)(I:∀b,x.S b→y.S b)(Y:x.n≤y.n)(Z:∀id,1000≤id→id<1000+k→ND y id x (Dd L id)){b}{v}(hv:AX x b v) :
  ∀a:AV,ren L a=b→a.canon k=true→AX y a v:=by
 have hb:∀b,x.S b→y.w.heap[b]?=x.w.heap[b]?:=λ_ _=>by rw[X]
 induction hv with
 | r h=>intro a l q;cases a<;>simp only[ren,reduceCtorEq] at l<;>cases l;exact .r (h.mono hb I)
 | cst v=>intro a l q;cases a<;>simp only[ren,reduceCtorEq] at l<;>cases l;exact .cst v
 | any v=>intro a l q;cases a<;>simp only[ren,reduceCtorEq] at l;exact .any v
 | rop u w C h3=>
  intro a l q;cases a<;>simp only[ren,reduceCtorEq] at l<;>cases l
  exact .rop u (λh=>I _ (w h)) (λj d J=>by rw[X];exact C j d J) (λj d J=>(h3 j d J).mono hb I)
 | agg B _ F=>
  intro a l q;cases a<;>simp only[ren,reduceCtorEq] at l<;>cases l
  rename_i cs
  simp only[AV.canon] at q
  rw[H6] at B
  exact .agg B λi c u w C=>F i _ u (by rw[IU,w];rfl) C c rfl (I9 q w)
 | tup B _ F=>
  intro a l q;cases a<;>simp only[ren,reduceCtorEq] at l<;>cases l
  rename_i cs
  simp only[AV.canon] at q
  rw[H6] at B
  exact .tup B λi c u w C=>F i _ u (by rw[IU,w];rfl) C c rfl (I9 q w)
 | fn B _ F=>
  intro a l q;cases a<;>simp only[ren,reduceCtorEq] at l<;>cases l
  rename_i cs
  simp only[AV.canon] at q
  rw[H6] at B
  exact .fn B λi c u w C=>F i _ u (by rw[IU,w];rfl) C c rfl (I9 q w)
 | own hg w M=>
  intro a l q;cases a<;>simp only[ren,reduceCtorEq] at l<;>cases l
  simp only[AV.canon,v7,zS,zT] at q
  refine .own (wZ hg Y) w λo E A=>?_
  obtain⟨o2,O,T,U,V⟩:=Z _ q.1 q.2 o E
  rw[← V,← U]
  exact M o2 O (T.trans A)
 | ptr hg w M=>
  intro a l q;cases a<;>simp only[ren,reduceCtorEq] at l<;>cases l
  simp only[AV.canon,v7,zS,zT] at q
  refine .ptr (wZ hg Y) w λo E A=>?_
  obtain⟨o2,O,T,U,V⟩:=Z _ q.1 q.2 o E
  rw[← V,← U]
  exact M o2 O (T.trans A)
 | whn _ _ _=>intro a l q;cases a<;>simp only[ren,reduceCtorEq] at l<;>cases l;simp[AV.canon] at q
 | mref _ _ _=>intro a l q;cases a<;>simp only[ren,reduceCtorEq] at l<;>cases l;simp[AV.canon] at q
 | yld _ _ _=>intro a l q;cases a<;>simp only[ren,reduceCtorEq] at l<;>cases l;simp[AV.canon] at q
 | full _ _=>intro a l q;cases a<;>simp only[ren,reduceCtorEq] at l<;>cases l;simp[AV.canon] at q
def HN(h:AS)(L:List Nat):AS→Prop
 | []=>True
 | (id,some o)::r=>(Nat.ble 1000 id&&Nat.blt id (1000+L.length))=true∧hget h (Dd L id)=some (o.ren L)∧o.canon L.length=true∧HN h L r
 | (_,none)::_=>False
theorem HN.get{h}{L:List Nat}{hc}(q:HN h L hc){id}{o:A9}(j:hget hc id=some o):1000≤id∧id<1000+L.length∧hget h (Dd L id)=some (o.ren L)∧o.canon L.length=true:=by
 induction hc with
 | nil=>cases j
 | cons p r u=>
  obtain⟨d,v⟩:=p
  rw[DC] at j
  cases v with
  | none=>exact q.elim
  | some C=>
   obtain⟨l,w,A,B⟩:=q
   split at j
   ·rename_i hd;subst hd;cases j
    simp only[v7,zS,zT] at l
    exact⟨l.1,l.2,w,A⟩
   ·exact u B j
def I4(k:Nat):AS→Bool
 | []=>true
 | (id,some o)::r=>Nat.ble 1000 id&&Nat.blt id (1000+k)&&o.canon k&&I4 k r
 | (_,none)::r=>I4 k r
theorem lc{k}{h}(l:I4 k h=true){id}{o:A9}(j:hget h id=some o):1000≤id∧id<1000+k∧o.canon k=true:=by
 induction h with
 | nil=>cases j
 | cons p r q=>
  obtain⟨d,v⟩:=p
  rw[DC] at j
  cases v with
  | none=>
   split at j
   ·cases j
   ·exact q l j
  | some u=>
   simp only[I4,v7,zS,zT] at l
   split at j
   ·rename_i hd;subst hd;cases j;exact⟨l.1.1.1,l.1.1.2,l.1.2⟩
   ·exact q l.2 j
def BY(P:Program)(f:FuncId)(k:Nat)(args:List AV)(h:AS)(j:AV→AS→Prop):Prop:=
 O8 P f∧∀(x:Cx) (q:Array Value),x.ok→x.H=hget h→IJ x args q.toList →
  Calls P f q x.w λe w'=>∃u y r l,e=.returned u∧y.w=w'∧x.le y∧y.ok∧y.H=hget l∧AX y r u∧r.canon k=true∧I4 k l=true∧j r l
def Ga(L:List Nat)(hc:AS):Nat→List Nat→AS
 | _,[]=>[]
 | j,id::r=>(id,(hget hc j).map (A9.ren L))::Ga L hc (j+1) r
theorem ig L hc h(M:List Nat):∀(j i:Nat),hget (Ga L hc j M++h) i=if i∈M then(hget hc (j+M.idxOf i)).map (A9.ren L) else hget h i:=by
 induction M with
 | nil=>intro j i;simp[Ga]
 | cons m M u=>
  intro j i
  simp only[Ga,wO,DC,wM]
  by_cases l:m=i
  ·subst l;simp
  ·rw[ne l,u]
   have q:¬ i=m:=λe=>l e.symm
   simp only[q,zX]
   split
   ·rw[List.idxOf_cons,show(m==i)=false from by simpa using l,cond_false,show j+1+M.idxOf i=j+(M.idxOf i+1) by omega]
   ·rfl
def E9(L:List Nat)(i:Nat):Nat:=1000+L.idxOf i
theorem Rs{L}{i}(h:i∈L):Dd L (E9 L i)=i:=by
 have j:=List.idxOf_lt_length_of_mem h
 simp[Dd,E9,List.getD,wB j]
theorem bD{L:List Nat}{i}(l:1000≤i)(q:i<1000+L.length):Dd L i∈L:=by
 have j:i-1000<L.length:=by omega
 simp only[Dd,List.getD,wB j,yg]
 exact xz j
theorem UV{L:List Nat}(j:L.Nodup){i}(q:1000≤i)(u:i<1000+L.length):E9 L (Dd L i)=i:=by
 have l:i-1000<L.length:=by omega
 simp only[Dd,List.getD,wB l,yg,E9]
 rw[j.idxOf_getElem]
 omega
def Cx.view(z:Cx)(L:List Nat)(hc:AS):Cx:=
 { w:=z.w,S:=z.S,F:=λb=>z.F b∨∃id o k,id ∉ L∧z.H id=some o∧z.β id=some (b,k),H:=hget hc,β:=λi=>z.β (Dd L i),n:=z.n }
theorem jJ{x y:Cx}{L}{k}(l:y.w=x.w)(O:∀b,x.S b→y.S b)(V:x.n≤y.n)(X:∀id,1000≤id→id<1000+k→ND y id x (Dd L id)){β}{o:A9}(T:E6 x β (o.ren L))(hc:o.canon k=true):E6 y β o:=by
 have Y:∀b,x.S b→y.w.heap[b]?=x.w.heap[b]?:=λ_ _=>by rw[l]
 cases o with
 | arr g e sz Z=>
  obtain⟨h0,q,w,us,A,B,C⟩:=T
  exact⟨h0,q,w,us,A,by rw[l];exact B,λi row c d E F=>by obtain⟨u,I,k4⟩:=C i row c d E F;exact⟨u,I,k4.mono Y O⟩⟩
 | box g e cs=>
  obtain⟨b,J,q,A,B,C⟩:=T
  refine⟨b,J,q,by rw[l];exact A,by rw[B,H6],λj c U=>?_⟩
  obtain⟨u,E,F,I⟩:=C j (ren L c) (by rw[IU,U];rfl)
  exact⟨u,E,F,Z0 l O V X I c rfl (I9 hc U)⟩
 | hot g e Z k id g'=>cases hc
 | it g s pos=>cases hc
 | mp g ks vs clock=>cases hc
 | mi g a0 mg M Ce last=>cases hc
 | lp g e N ps a b st p=>cases hc
theorem tr{x y:Cx}{L}{k}(q:y.w=x.w)(T:∀b,x.S b→y.S b)(V:x.n≤y.n)(X:∀id,1000≤id→id<1000+k→ND y (Dd L id) x id){β}{o:A9}(U:E6 x β o)(hc:o.canon k=true):E6 y β (o.ren L):=by
 have Y:∀b,x.S b→y.w.heap[b]?=x.w.heap[b]?:=λ_ _=>by rw[q]
 cases o with
 | arr g e sz Z=>
  obtain⟨h0,w,A,us,B,C,E⟩:=U
  exact⟨h0,w,A,us,B,by rw[q];exact C,λi row c d F I=>by obtain⟨u,J,k4⟩:=E i row c d F I;exact⟨u,J,k4.mono Y T⟩⟩
 | box g e cs=>
  obtain⟨b,M,w,B,C,E⟩:=U
  refine⟨b,M,w,by rw[q];exact B,by rw[C,H6],λj c l=>?_⟩
  rw[IU,wW] at l
  obtain⟨c0,l,rfl⟩:=l
  obtain⟨u,F,I,J⟩:=E j c0 l
  exact⟨u,F,I,aQ q T V X J (I9 hc l)⟩
 | hot g e Z k id g'=>cases hc
 | it g s pos=>cases hc
 | mp g ks vs clock=>cases hc
 | mi g a0 mg O Ce last=>cases hc
 | lp g e N ps a b st p=>cases hc
theorem aK{z:Cx}{h}{L:List Nat}{hc}(j:z.H=hget h)(l:HN h L hc):∀id,1000≤id→id<1000+L.length→ND (z.view L hc) id z (Dd L id):=by
 intro id _ _ o q
 obtain⟨_,_,u,_⟩:=l.get q
 exact⟨o.ren L,by rw[j];exact u,L9 L o,Up L o,rfl⟩
theorem re{z:Cx}{h}{L:List Nat}{hc}(j:z.ok)(w:z.H=hget h)(B:HN h L hc)(C:L.Nodup):(z.view L hc).ok:=by
 refine⟨j.S_lt,λb l=>?_,λb l E=>?_,λid o F=>?_,λid o b k F l=>?_,λid a0 o o' b k I F J l M=>?_,j.tabs.same rfl (λ_ h=>h)⟩
 ·rcases l with l | ⟨id,o,k,_,q,u⟩
  ·exact j.F_lt b l
  ·exact(j.own id o b k q u).1
 ·rcases E with E | ⟨id,o,k,_,q,u⟩
  ·exact j.SF b l E
  ·exact(j.own id o b k q u).2.1 l
 ·obtain⟨q,u,A,Z⟩:=B.get F
  obtain⟨O,T⟩:=j.obj _ _ (by rw[w];exact A)
  exact⟨by rwa [L9] at O,jJ (x:=z) (y:=z.view L hc) (k:=L.length) rfl (λ_ h=>h) (wL _) (aK w B) T Z⟩
 ·obtain⟨q,u,A,Z⟩:=B.get F
  obtain⟨O,T,k3⟩:=j.own _ _ b k (by rw[w];exact A) l
  refine⟨O,T,?_⟩
  rintro(E | ⟨i2,o2,I,U,e1,e2⟩)
  ·exact k3 E
  ·exact U (j.inj _ _ _ _ b k I (by rw[w];exact A) e1 l e2 ▸ bD q u)
 ·obtain⟨q,u,A,_⟩:=B.get F
  obtain⟨V,X,Y,_⟩:=B.get J
  have:=j.inj _ _ _ _ b k I (by rw[w];exact A) (by rw[w];exact Y) l M
  rw[← UV C q u,this,UV C V X]
def Cx.back(z y:Cx)(L:List Nat)(hc h:AS):Cx:=
 { w:=y.w,S:=y.S,F:=z.F,H:=hget (Ga L hc 1000 L++h),β:=λi=>if i∈L then y.β (E9 L i) else z.β i,n:=y.n }
theorem Z5{z y:Cx}{h hc}{L:List Nat}(j:L.Nodup)(q:y.H=hget hc):∀id,1000≤id→id<1000+L.length→ND (z.back y L hc h) (Dd L id) y id:=by
 intro id u w o B
 have A:=bD u w
 have l:hget (Ga L hc 1000 L++h) (Dd L id)=some o:=B
 rw[ig,vx A,show 1000+L.idxOf (Dd L id)=E9 L (Dd L id) from rfl,UV j u w,wW] at l
 obtain⟨o2,C,rfl⟩:=l
 refine⟨o2,by rw[q];exact C,(L9 L o2).symm,(Up L o2).symm,?_⟩
 show y.β id=if Dd L id∈L then y.β (E9 L (Dd L id)) else _
 rw[vx A,UV j u w]
theorem th{z y:Cx}{h hc l}{L:List Nat}(J:z.ok)(V:z.H=hget h)(hs:HN h L hc)(a2:L.Nodup)(q:(z.view L hc).le y)(u:y.ok)(B:y.H=hget l)(a1:I4 L.length l=true) :
  z.le (z.back y L l h)∧(z.back y L l h).ok:=by
 have a0:y.F=(z.view L hc).F:=q.F
 have w:∀i o,hget (Ga L l 1000 L++h) i=some o→(i∈L∧∃o2,hget l (E9 L i)=some o2∧o=o2.ren L)∨(i ∉ L∧hget h i=some o):=by
  intro i o ho
  rw[ig] at ho
  split at ho
  ·rename_i j
   rw[wW] at ho
   obtain⟨o2,A,k2⟩:=ho
   exact .inl ⟨j,o2,A,k2.symm⟩
  ·rename_i j;exact .inr ⟨j,ho⟩
 have M:∀id O b k,id ∉ L→z.H id=some O→z.β id=some (b,k)→y.F b:=λid O b k h1 E h3=>by rw[a0];exact .inr ⟨id,O,k,h1,E,h3⟩
 have T:z.le (z.back y L l h):=by
  refine⟨q.size,q.os,q.tape,q.output,λb hb=>q.blk b (hb.imp id (λh=>Or.inl h)),λb h=>q.S b h,rfl,q.n,λid o' a6 hg=>?_⟩
  rcases w id o' a6 with ⟨j,o2,A,rfl⟩ | ⟨j,A⟩
  ·rw[L9] at hg
   obtain⟨o,X,e2,e3,e4⟩:=q.H (E9 L id) o2 (by rw[B];exact A) hg
   obtain⟨_,_,e5,_⟩:=hs.get X
   rw[Rs j] at e5
   refine⟨o.ren L,by rw[V];exact e5,by rw[L9,L9];exact e2,by rw[Up,Up];exact e3,?_⟩
   show(if id∈L then y.β (E9 L id) else z.β id)=z.β id
   rw[vx j,e4]
   show z.β (Dd L (E9 L id))=z.β id
   rw[Rs j]
  ·refine⟨o',by rw[V];exact A,rfl,rfl,?_⟩
   show(if id∈L then y.β (E9 L id) else z.β id)=z.β id
   rw[ne j]
 refine⟨T,u.S_lt,λb hb=>wZ (J.F_lt b hb) q.size,λb hb hf=>?_,λid O a7=>?_,λid O b k h1 E=>?_,λid I o o' b k k' h1 a8 E C=>?_,J.tabs.le T⟩
 ·exact u.SF b hb (by rw[a0];exact .inl hf)
 ·rcases w id O a7 with ⟨j,o2,A,rfl⟩ | ⟨j,A⟩
  ·obtain⟨X,e2⟩:=u.obj (E9 L id) o2 (by rw[B];exact A)
   have hβ:(z.back y L l h).β id=y.β (E9 L id):=vx j
   rw[hβ,L9]
   exact⟨X,tr (x:=y) (y:=z.back y L l h) (k:=L.length) rfl (λ_ h=>h) (wL _) (Z5 a2 B) e2 (lc a1 A).2.2⟩
  ·obtain⟨X,e2⟩:=J.obj id O (by rw[V];exact A)
   have hβ:(z.back y L l h).β id=z.β id:=ne j
   rw[hβ]
   exact⟨wZ X q.n,e2.mono T λb k hb=>q.blk b (.inr (.inr ⟨id,O,k,j,by rw[V];exact A,hb⟩))⟩
 ·rcases w id O h1 with ⟨j,o2,A,rfl⟩ | ⟨j,A⟩
  ·have hβ:(z.back y L l h).β id=y.β (E9 L id):=vx j
   rw[hβ] at E
   obtain⟨X,e2,e3⟩:=u.own (E9 L id) o2 b k (by rw[B];exact A) E
   exact⟨X,e2,λhf=>e3 (by rw[a0];exact .inl hf)⟩
  ·have hβ:(z.back y L l h).β id=z.β id:=ne j
   rw[hβ] at E
   obtain⟨X,e2,e3⟩:=J.own id O b k (by rw[V];exact A) E
   exact⟨wZ X q.size,λaa=>u.SF b aa (M id O b k j (by rw[V];exact A) E),e3⟩
 ·have Y:∀i,i∈L→(z.back y L l h).β i=y.β (E9 L i):=λi j=>vx j
  have Z:∀i,i ∉ L→(z.back y L l h).β i=z.β i:=λi j=>ne j
  rcases w id o h1 with ⟨j,o2,A,rfl⟩ | ⟨j,A⟩<;>rcases w I o' a8 with ⟨F,ab,U,rfl⟩ | ⟨F,U⟩
  ·rw[Y id j] at E;rw[Y I F] at C
   have:=u.inj _ _ _ _ b k k' (by rw[B];exact A) (by rw[B];exact U) E C
   rw[← Rs j,this,Rs F]
  ·rw[Y id j] at E;rw[Z I F] at C
   exact absurd (M I o' b k' F (by rw[V];exact U) C) (u.own _ _ b k (by rw[B];exact A) E).2.2
  ·rw[Z id j] at E;rw[Y I F] at C
   exact absurd (M id o b k j (by rw[V];exact A) E) (u.own _ _ b k' (by rw[B];exact U) C).2.2
  ·rw[Z id j] at E;rw[Z I F] at C
   exact J.inj _ _ _ _ b k k' (by rw[V];exact A) (by rw[V];exact U) E C
section
variable{P:Program}{ops:Array Oper}{rest:List Oper}{s:St}{K:St→Prop}{o:Oper}
def JZ(R:Ab)(L:List Nat):List Operand→List AV→Prop
 | [],[]=>True
 | x::j,b::l=>((Ev true R x (ren L b)∧b.canon L.length=true)∨(Ev true R x (.cst (.slice none 0 0))∧b=.r (.sl [])))∧JZ R L j l
 | _,_=>False
theorem JZ.get{R}{L:List Nat}{xs:List Operand}{bs:List AV}(j:JZ R L xs bs) :
  xs.length=bs.length∧∀(i:Nat) (b:AV),bs[i]?=some b→∃x,xs[i]?=some x∧((Ev true R x (ren L b)∧b.canon L.length=true)∨(Ev true R x (.cst (.slice none 0 0))∧b=.r (.sl []))):=by
 induction xs generalizing bs with
 | nil=>cases bs with | nil=>exact⟨rfl,by simp⟩ | cons _ _=>exact j.elim
 | cons x l u=>
  cases bs with
  | nil=>exact j.elim
  | cons b m=>
   obtain⟨w,A⟩:=u j.2
   refine⟨by simp[w],λi c q=>?_⟩
   cases i with
   | zero=>simp at q;subst q;exact⟨x,rfl,j.1⟩
   | succ i=>simpa using A i c (by simpa using q)
theorem Wc{f}{fo}{xs:Array Operand}{a0}{caps bs:List AV}{L:List Nat}{hc}{w}{R}{h}{a:Act}{z:Cx}
 (ho:o.op=.call { callee := .value fo, args := xs, argTypes := a0 }) (a1:Ev true R fo (.fn f (FF L caps))) (a2:GU L.length caps=true) (hx:JZ R L xs.toList bs) (A:HN h L hc) (B:L.Nodup)
 (q:BY P f L.length (bs++caps) hc w) (T:z.ok) (hH:z.H=hget h) (he:CK z R a) (K:Act→World→Prop) (Q:Exit→Act→World→Prop)
 (hK:∀(u:Value) (y:Cx) (r:AV) (O:AS), z.le y→y.ok→y.H=hget (Ga L O 1000 L++h)→AX y (ren L r) u→w r O→K (a.put o.dst u) y.w):o.wp P a z.w K Q := by
  obtain⟨C, q⟩ := q
  obtain⟨j, E⟩ := hx.get
  have hv := a1.rep he rfl
  generalize a6:a.eval fo=v at hv
  cases hv with
  | @fn _ _ us hl U =>
    have V := OU C ho a6 z.w
    rw[H6] at hl
    have X:∀ {b:AV} {u:Value}, AX z (ren L b) u→b.canon L.length=true→AX (z.view L hc) b u := λ{b u} F h2 => Z0 (x := z) (y := z.view L hc) (L := L) (k := L.length) rfl (λ_ h => h) (wL _) (aK hH A) F b rfl h2
    have I:IJ (z.view L hc) (bs++caps) (xs.map a.eval++us).toList := by
      refine⟨by simp[hl];simpa using j, λi b u F h2 => ?_⟩
      have l:((xs.toList.map a.eval)++us.toList)[i]?=some u := by simpa using h2
      by_cases hi:i<bs.length
      · rw[wi hi] at F
        obtain⟨x, k1, J⟩ := E i b F
        rw[wi (by simp at j ⊢;omega), wd, k1] at l
        simp only[xi, wP] at l
        subst l
        rcases J with ⟨J, k3⟩ | ⟨J, rfl⟩
        · exact X (J.rep he rfl) k3
        · have := J.rep he rfl
          generalize a.eval x=v at this ⊢
          cases this;exact .r .snil
      · rw[we (by omega)] at F
        rw[we (by simp at j ⊢;omega)] at l
        have a7:(xs.toList.map a.eval).length=bs.length := by simpa using j
        rw[a7] at l
        exact X (U _ (ren L b) u (by rw[IU, F];rfl) (by simpa using l)) (I9 a2 F)
    unfold Oper.wp
    rw[V]
    refine(q (z.view L hc) _ (re T hH A B) rfl I).mono λe w' ⟨u, y, r, O, he', a8, aa, Y, Z, ab, ac, ad, M⟩ => ?_
    subst he'
    subst a8
    obtain⟨k1, J⟩ := th T hH A B aa Y Z ad
    exact hK u (z.back y L O h) r O k1 J rfl (aQ (x := y) (y := z.back y L O h) (L := L) (k := L.length) rfl (λ_ h => h) (wL _) (Z5 B Z) ab ac) M
theorem vX{d}{f}{fo}{xs:Array Operand}{F}{caps bs}(L:List Nat){hc}{j}(hg:o.guard=none)(hd:o.dst=some d)(hN:Nat.blt d s.N=true)
 (ho:o.op=.call { callee := .value fo, args := xs, argTypes := F }) (I:Ev true s.e fo (.fn f (FF L caps))) (J:GU L.length caps=true) (hx:JZ s.e L xs.toList bs) (M:HN s.h L hc) (O:L.Nodup)
 (q:BY P f L.length (bs++caps) hc j)
 (hr:∀r E n', j r E→AN P ops rest { e := (d, ren L r)::s.e, h := Ga L E 1000 L++s.h, n := n', N := s.N } K):AN P ops (o::rest) s K := by
  intro c0 a w ⟨_, A, hsz, y, T, U, V, hH, hn, he⟩ Q hQ
  subst T
  refine wpList_plain hg λK' X => ?_
  refine Wc ho I J hx M O q V hH he K' Q λu z r E B C Y Z l => ?_
  refine X _ _ ?_
  have a0:d<a.tmps.size := by rw[hsz];exact C3 hN
  rw[hd]
  exact hr r E z.n l c0 (a.put (some d) u) z.w ⟨_, A, by simpa[Act.put] using hsz, z, rfl, U.trans B, C, Y, rfl, (he.mono B).put a0 Z⟩ Q hQ
def I7(P:Program):ResultVar→St→AV→Prop
 | .tmp t,s,r=>get s.e t=r
 | .cell a t,s,r=>(Bh P t∧∃id g e,get s.e a=.ptr id g 0 0∧hget s.h id=some (.box g e [r]))∨∃j,r=.agg j∧Bj P t j.length∧∃id g e,get s.e a=.ptr id g 0 0∧hget s.h id=some (.box g e j)
def Mj(P:Program):List ResultVar→St→List AV→Prop
 | [],_,[]=>True
 | x::l,s,r::j=>I7 P x s r∧Mj P l s j
 | _,_,_=>False
def JO(P:Program)(j:List ResultVar)(s:St)(r:AV):Prop:=match j with
 | [x]=>I7 P x s r
 | _=>∃l,r=.tup l∧Mj P j s l
def SG(P:Program)(q:List ResultVar)(k:Nat)(j:AV→AS→Prop):Exit→St→Prop
 | .normal,s | .ret,s=>∃r l,JO P q s r∧Qc l s.h∧r.canon k=true∧I4 k l=true∧j r l
 | _,_=>False
def GD(tmps:Array Value):ResultVar→Sem Value
 | .tmp t=>pure (tmps.getD t undef)
 | .cell a t=>do loadVar t (← asAddr (tmps.getD a undef))
theorem Sk{fn:Func}{tmps}{w}(us:List Value)(q:∀(i:Nat) (x:ResultVar),fn.results[i]?=some x→∃u,us[i]?=some u∧(GD tmps x).run P w=.ok u w)(j:us.length=fn.results.size) :
  (results fn tmps).run P w=.ok (if h:us.toArray.size=1 then us.toArray[0] else .tuple us.toArray) w:=by
 have key:∀(l:List ResultVar) (us:List Value),us.length=l.length→(∀(i:Nat) (x:ResultVar),l[i]?=some x→∃u,us[i]?=some u∧(GD tmps x).run P w=.ok u w) →
   (l.mapM (m:=Sem) (GD tmps)).run P w=.ok us w:=by
  intro l
  induction l with
  | nil=>intro us j _;simp at j;subst j;rfl
  | cons x l C=>
   intro us j q
   cases us with
   | nil=>simp at j
   | cons u us=>
    obtain⟨O,A,E⟩:=q 0 x rfl
    simp at A
    subst A
    have F:=C us (by simpa using j) (λi y I=>by simpa using q (i+1) y (by simpa using I))
    simp only[List.mapM_cons,Sem.run_bind,Sem.run_pure,Result.andThen_ok,F,E]
 have J:=key fn.results.toList us (by simpa using j) (λi x M=>q i x (by simpa using M))
 have A:(results fn tmps)=(do
   let B ← fn.results.mapM (m:=Sem) (GD tmps)
   pure (if h:B.size=1 then B[0] else .tuple B)):=by
  unfold results
  congr 1
 rw[A,← Array.toArray_toList (xs:=fn.results),List.mapM_toArray]
 simp only[Sem.run_bind,Sem.run_map,J]
 rfl
theorem I7.rep{y:Cx}(hok:y.ok){s:St}(hH:y.H=hget s.h){a:Act}(he:CK y s.e a){x:ResultVar}{r:AV}(hr:I7 P x s r):∃u,AX y r u∧(GD a.tmps x).run P y.w=.ok u y.w:=by
 cases x with
 | tmp t=>exact⟨_,by have:=he t;rwa [show get s.e t=r from hr] at this,rfl⟩
 | cell c t=>
  rcases hr with ⟨ht,id,g,e,h1,h2⟩ | ⟨cs,rfl,ht,id,g,e,h1,h2⟩
  rotate_left
  ·have hHid:y.H id=some (.box g e cs):=by rw[hH];exact h2
   have h0:=he c
   rw[h1] at h0
   obtain⟨b,cur,k1,k2,k3,k4,k5⟩:=IX hok hHid h0
   have hcell:∀j,j<cs.length→y.w.cell? ⟨b,0+j,none⟩=some ((λj=>cur.getD j undef) j):=by
    intro j hj
    have hj':j<cur.size:=by omega
    rw[wY,cell_of_row _ b j cur e _ k3]
    simp[hj']
   refine⟨.agg ((List.range cs.length).map λj=>cur.getD j undef).toArray,MU rfl _ λj a hj=>?_,?_⟩
   ·obtain⟨u,h6,_,h7⟩:=k5 _ _ hj
    obtain⟨h8,h9⟩:=ww.1 h6
    simpa[h8,h9] using h7
   ·have hrun:=Nt (P:=P) ht (w:=y.w) (b:=b) (k:=0) (λj=>cur.getD j undef) hcell
    simp only[GD,k2]
    simpa[asAddr,Instr.loadAt,Instr.sureAddr] using hrun
  have hHid:y.H id=some (.box g e [r]):=by rw[hH];exact h2
  have h0:=he c
  rw[h1] at h0
  obtain⟨b,cur,k1,k2,k3,k4,k5⟩:=IX hok hHid h0
  obtain⟨u,h6,_,h7⟩:=k5 0 r rfl
  refine⟨u,h7,?_⟩
  obtain⟨d,i,e1,e2,_,_⟩:=ht
  have hcell:=(cell_of_row _ b 0 cur e _ k3).trans h6
  simp only[GD,k2]
  simp[asAddr,loadVar,KT e1,e2,hcell]
theorem Mj.get{j:List ResultVar}{s}{l:List AV}(h:Mj P j s l):j.length=l.length∧∀(i:Nat) (x:ResultVar),j[i]?=some x→∃r,l[i]?=some r∧I7 P x s r:=by
 induction j generalizing l with
 | nil=>cases l with | nil=>exact⟨rfl,by simp⟩ | cons _ _=>exact h.elim
 | cons x j u=>
  cases l with
  | nil=>exact h.elim
  | cons r l=>
   obtain⟨w,A⟩:=u h.2
   refine⟨by simp[w],λi y q=>?_⟩
   cases i with
   | zero=>simp at q;subst q;exact⟨r,rfl,h.1⟩
   | succ i=>simpa using A i y (by simpa using q)
theorem iE{fn:Func}{y:Cx}{s:St}{a:Act}{r}(J:y.ok)(hH:y.H=hget s.h)(he:CK y s.e a)(w:JO P fn.results.toList s r):∃u,(results fn a.tmps).run P y.w=.ok u y.w∧AX y r u:=by
 by_cases B:fn.results.toList.length=1
 ·obtain⟨x0,M⟩:=List.length_eq_one_iff.1 B
  rw[M] at w
  obtain⟨u,hr,C⟩:=I7.rep (P:=P) J hH he (show I7 P x0 s r from w)
  have q:=Sk (P:=P) (fn:=fn) (tmps:=a.tmps) (w:=y.w) [u] (λi x X=>by
   have j:fn.results.toList[i]?=some x:=by simpa using X
   rw[M] at j
   cases i with
   | zero=>simp at j;subst j;exact⟨u,rfl,C⟩
   | succ i=>simp at j) (by rw[← xG,B];rfl)
  exact⟨_,q,hr⟩
 ·have a0:∃l,r=.tup l∧Mj P fn.results.toList s l:=by
   revert w B
   generalize fn.results.toList=rs
   intro w B
   match rs,B,w with
   | [],_,w=>exact w
   | [_],B,_=>exact absurd rfl B
   | _::_::_,_,w=>exact w
  obtain⟨l,rfl,O⟩:=a0
  obtain⟨hl,hg⟩:=O.get
  have E:∀i,i<l.length→∃u,∀x r,fn.results.toList[i]?=some x→l[i]?=some r→AX y r u∧(GD a.tmps x).run P y.w=.ok u y.w:=by
   intro i X
   have T:i<fn.results.toList.length:=by omega
   obtain⟨r,Y,h3⟩:=hg i _ (wB T)
   obtain⟨u,h4,h5⟩:=I7.rep J hH he h3
   refine⟨u,λx r' U Z=>?_⟩
   rw[wB T] at U;cases U
   rw[Y] at Z;cases Z
   exact⟨h4,h5⟩
  obtain⟨I,F,V⟩:=YE l.length E
  have hsz:I.length=fn.results.size:=by rw[F,← hl,xG]
  have q:=Sk (P:=P) (fn:=fn) (tmps:=a.tmps) (w:=y.w) I (λi x X=>by
   have j:fn.results.toList[i]?=some x:=by simpa using X
   obtain⟨r,Y,_⟩:=hg i x j
   have A:i<I.length:=by rw[F];exact(wA.1 Y).1
   exact⟨I[i],wB A,(V i _ (wB A) x r j Y).2⟩) hsz
  have a1:¬ I.toArray.size=1:=by
   rw[yc,hsz]
   exact λe=>B (by rw[xG];exact e)
  rw[dif_neg a1] at q
  refine⟨_,q,.tup (by rw[yc,F]) λi c u U Z=>?_⟩
  have k3:I[i]?=some u:=by simpa using Z
  have A:i<fn.results.toList.length:=by rw[hl];exact(wA.1 U).1
  exact(V i u k3 _ c (wB A) U).1
theorem BY.mk {f} {fn : Func} {code} {args : List AV} {k N} {hc} {w} (hf : P.funcs[f]? = some fn) (hb : fn.body = some code) (I : (fn.name == "runtime.NumGoroutine") = false) (hN : fn.ntmps = N)
 (a1:args.length≤N) (hw:∀n0, AW P code (SG P fn.results.toList k w) ⟨Db 0 args, hc, n0, N⟩):BY P f k args hc w := by
  refine⟨⟨fn, hf, by rw[hb];rfl, I⟩, λx F M hH B => ?_⟩
  have a0:F.size=args.length := by simpa using B.1
  have O:ES x ⟨Db 0 args, hc, x.n, N⟩ { tmps := F++Array.replicate (fn.ntmps - F.size) undef, defers := [] } x.w := by
    refine⟨_, rfl, by simp;omega, x, rfl, .refl x, M, hH, rfl, λt => ?_⟩
    rcases SR args 0 t with Z | ⟨j, a, Z, h2, h3⟩
    · rw[Z];exact .any _
    · rw[h3]
      have hj:j<F.size := by rw[a0];exact(wA.1 h2).1
      have ht:t=j := by omega
      subst ht
      have:(F++Array.replicate (fn.ntmps - F.size) undef).getD t undef=F[t] := by
        simp[Array.getD, hj]
        omega
      rw[this]
      exact B.2 t a F[t] h2 (by simp[hj])
  have T:∀ {e:Exit} {a:Act} {y:Cx} {s:St}, (∃r A, JO P fn.results.toList s r∧Qc A s.h∧r.canon k=true∧I4 k A=true∧w r A)→x.le y→y.ok→y.H=hget s.h→y.n=s.n→CK y s.e a →
      ∃u, (results fn a.tmps).run P y.w=.ok u y.w∧∃u' U r A, Ending.returned u=.returned u'∧U.w=y.w∧x.le U∧U.ok∧U.H=hget A∧AX U r u'∧r.canon k=true∧I4 k A=true∧w r A := by
    intro e a y s ⟨r, A, Z, h2, h3, h4, h5⟩ E q C _ he
    obtain⟨u, V, hu⟩ := iE (P := P) q C he Z
    have X:∀id o, hget A id=some o→y.H id=some o := by
      intro id o ho
      rw[C]
      rcases h2.get id with e1 | e1
      · rw[e1] at ho;cases ho
      · rw[← e1];exact ho
    obtain⟨k1, k2⟩ := i0 q (hget A) X y.n (wL _)
    exact⟨u, V, u, { y with H := hget A, n := y.n }, r, A, rfl, rfl, E.trans k1, k2, rfl, hu.mono k1, h3, h4, h5⟩
  refine T8 hf hb M O (hw x.n) λe s a y J E q C Y he => ?_
  cases e with
  | normal => exact⟨.inl rfl, T (e := .normal) J E q C Y he⟩
  | ret => exact⟨.inr rfl, T (e := .ret) J E q C Y he⟩
  | exit id => exact J.elim
  | goto l => exact J.elim
  | panic ch => exact J.elim
  | outgrown => exact J.elim
end
section
variable{P:Program}{ops:Array Oper}{rest:List Oper}{s:St}{K:St→Prop}{o:Oper}
def AT(P:Program)(ops:Array Oper)(rest:List Oper)(s:St)(K:St→Prop):Prop:=
 ∀(y:Cx) (a:Act),y.ok→y.H=hget s.h→y.n=s.n→a.tmps.size=s.N→CK y s.e a→∀q:Act→Prop,
  (∀j l,K j→j.h=s.h→j.n=s.n→j.N=s.N→l.tmps.size=s.N→l.defers=a.defers→CK y j.e l→q l)→wpStill P ops y.w q rest a
theorem AT.nil(h:K s):AT P ops [] s K:=λ_ a _ _ _ j l _ q=>wpStill_nil (q s a h rfl rfl rfl j rfl l)
theorem AT.step{d}{v}(hg:o.guard=none)(hd:o.dst=some d)(C:Nat.blt d s.N=true)(E:AU P true o s.e s.h v)
 (F:AT P ops rest { e := (d, v)::s.e, h := s.h, n := s.n, N := s.N } K):AT P ops (o::rest) s K := by
  intro y a j A I hsz B J M
  obtain⟨u, l, O⟩ := E rfl y a j A B
  have q:d<a.tmps.size := by rw[hsz];exact C3 C
  refine wpStill_step λK' w => ?_
  rw[vx (by simp[Region.wanted, hg])]
  unfold Oper.still
  rw[l y.w λ_ _ => rfl, Oper.stillUpon_value]
  refine w _ ?_
  rw[hd]
  exact F y (a.put (some d) u) j A I (by simpa[Act.put] using hsz) (B.put q O) J λT U V X Y Z k5 k6 k7 => M T U V X Y Z k5 k6 k7
theorem Ro{y:Cx}(j:y.ok):y.le { y with w:={ y.w with drawn:=y.w.drawn+1 } } ∧ ({ y with w:={ y.w with drawn:=y.w.drawn+1 } } : Cx).ok:=by
 have l:y.le { y with w:={ y.w with drawn:=y.w.drawn+1 } }:=⟨wL _,rfl,rfl,rfl,λ_ _=>rfl,λ_ h=>h,rfl,wL _,λ_ o h _=>⟨o,h,rfl,rfl,rfl⟩⟩
 refine⟨l,j.S_lt,j.F_lt,j.SF,λid o q=>?_,j.own,j.inj,j.tabs.le l⟩
 obtain⟨u,w⟩:=j.obj id o q
 exact⟨u,w.mono l λ_ _ _=>rfl⟩
theorem MA{id}{l F I:List Oper}{Q} n(V:P.follows .mixedOrders=true)(hB:Region.lexTailB .any l.toArray n=true)(X:l.take n=F)(Y:l.drop n=I)
 (h:AT P l.toArray F s (λJ => AN P l.toArray I J (Q .normal))):AW P (.region id l.toArray true) Q s := by
  intro z0 q Z a w ⟨_, j, hsz, y, u, A, B, M, O, he⟩
  subst u
  subst X;subst Y
  obtain⟨T, U⟩ := Ro B
  refine pI KN n V hB q ?_
  refine h _ a U M O hsz (he.mono T) _ λJ a' k1 k2 k3 k4 k5 k6 k7 => ?_
  exact k1 Z a' _ ⟨_, k6.trans j, by rw[k5, k4], _, rfl, A.trans T, U, by rw[k2];exact M, by rw[k3];exact O, k7⟩ _ λC a0 a1 k E => ⟨by simp, C, k, E⟩
end
theorem FB{s:St} l j id e sz{g}{eb}{cs:List AV}(h0:0<sz)(hb:hget s.h l=some (.box g eb cs))(hj:cs[j]?=some (.cst (.slice none 0 0)))(O:id≠l) :
  Ak s ⟨s.e,(l,some (.box g eb (cs.set j (.own id s.n))))::(id,some (.arr s.n e sz []))::s.h,s.n+1,s.N⟩:=by
 intro c0 a w ⟨_,T,hsz,y,a2,U,a6,hH,J,V⟩
 have A:=GL a6 id (.arr s.n e sz []) y.w none (y.n+1) (wL _) rfl rfl rfl (λ_ _ _=>rfl) (λb k hb=>by cases hb) (by omega) (by simp[A9.gen,J]) (λhg=>absurd hg (by simp[A9.gen,J]))
  (λU=>⟨h0,by simp,.slice none 0 0,[],⟨rfl,rfl⟩,World.ownsRow_nil _ _ _ _,by simp⟩)
 generalize F:({ y with H:=λi=>if id=i then some (.arr s.n e sz []) else y.H i,β:=λi=>if id=i then none else y.β i,n:=y.n+1 } : Cx)=B at A
 have C:B.H=hget ((id,some (.arr s.n e sz []))::s.h):=by rw[← F];simp only[hH];exact FU _ _ _
 have q:B.H l=some (.box g eb cs):=by rw[C,DC,ne O];exact hb
 have Ch:B.H id=some (.arr s.n e sz []):=by rw[C,DC,vx rfl]
 have X:B.β id=none:=by rw[← F];simp
 have I:B.n=s.n+1:=by rw[← F];simp[J]
 have Y:B.w=y.w:=by rw[← F]
 obtain⟨a7,M⟩:=A.2.obj l _ q
 have E:=GL A.2 l (.box g eb (cs.set j (.own id s.n))) B.w (B.β l) B.n (wL _) rfl rfl rfl (λ_ _ _=>rfl)
  (λb k Z=>⟨(A.2.own l _ b k q Z).1,.inr ⟨_,k,q,Z⟩⟩) (wL _) a7 (λ_=>⟨_,q,rfl,by simp[A9.shape],rfl⟩)
  (λa0=>by
   obtain⟨b,a8,k1,k2,k3,k4⟩:=M
   refine⟨b,a8,k1,k2,by rw[k3];simp,λi c hi=>?_⟩
   by_cases a1:j=i
   ·subst a1
    obtain⟨u,e1,e2,e3⟩:=k4 j _ hj
    have aa:j<cs.length:=(wA.1 hj).1
    rw[List.getElem?_set_self aa] at hi
    cases hi
    cases e3
    refine⟨_,e1,e2,.own (by rw[I];omega) e2 λo ho _=>?_⟩
    simp only[ne (Ne.symm O)] at ho ⊢
    rw[Ch] at ho;cases ho
    rw[X]
    exact⟨rfl,rfl⟩
   ·rw[List.getElem?_set_ne a1] at hi
    obtain⟨u,e1,e2,e3⟩:=k4 i c hi
    exact⟨u,e1,e2,e3.mono a0⟩)
 refine⟨_,T,hsz,_,by show B.w=w;rw[Y];exact a2,(U.trans A.1).trans E.1,E.2,?_,by show B.n=s.n+1;exact I,λt=>((V t).mono A.1).mono E.1⟩
 simp only[C]
 exact FU _ _ _
def Hk(c:Bool)(R:Ab):List Operand→List AV→Prop
 | [],[]=>True
 | x::j,b::l=>Ev c R x b∧Hk c R j l
 | _,_=>False
theorem Hk.rep{c}{R}{x}{a:Act}(hc:c=true)(w:CK x R a){xs:List Operand}{bs:List AV}(h:Hk c R xs bs):bs.length=xs.length∧∀(i:Nat) (b:AV) (u:Value),bs[i]?=some b→(xs.map a.eval)[i]?=some u→AX x b u:=by
 induction xs generalizing bs with
 | nil=>cases bs with | nil=>exact⟨rfl,by simp⟩ | cons _ _=>exact h.elim
 | cons y l A=>
  cases bs with
  | nil=>exact h.elim
  | cons b m=>
   obtain⟨B,C⟩:=A h.2
   refine⟨by simp[B],λi E u j q=>?_⟩
   cases i with
   | zero=>simp at j q;subst j;subst q;exact h.1.rep w hc
   | succ i=>exact C i E u (by simpa using j) (by simpa using q)
theorem QL{P}{c}{o:Oper}{R}{h}{f}{xs:Array Operand}{bs}(j:o.op=.makeFunc (.func f) #[] xs)(l:Hk c R xs.toList bs):AU P c o R h (.fn f bs):=by
 intro q y a _ _ w
 obtain⟨A,B⟩:=l.rep q w
 refine⟨.func (.func f) #[] (xs.map a.eval),λF _=>?_,.fn (by simpa using A) λi b u C E=>B i b u C (by simpa using E)⟩
 unfold execOp
 rw[j]
 simp[show ∀W,(Instr.makeFunc (Fn.func f) #[] (xs.map a.eval)).run P W=.ok (.func (.func f) #[] (xs.map a.eval)) W from λ_=>rfl]
section
variable{P:Program}{ops:Array Oper}{rest:List Oper}{s:St}{K:St→Prop}{o:Oper}
inductive Cd(R:Ab)(ops:Array Oper)(o:Oper):Bool→Prop
 | one {j dj:Nat} {want b:Bool} (hg:o.guard=some (j,want)) (hj:(ops[j]?).bind (·.dst)=some dj) (hb:BR R (.tmp dj)=.r (.bool b)):Cd R ops o (b==want)
 | two {j dj:Nat} {want b c1:Bool} (hg:o.guard=some (j,want)) (hj:(ops[j]?).bind (·.dst)=some dj) (hb:BR R (.tmp dj)=.whn c1 (.r (.bool b))):Cd R ops o (c1&&(b==want))
theorem lI{a:Act}{j q}{l}(hg:o.guard=some (j,l))(w:(ops[j]?).bind (·.dst)=some q)(u:a.tmps.getD q undef=undef):Region.wanted o (yielded ops a.tmps)=false:=by
 simp only[Region.wanted,hg,yielded]
 rw[w]
 simp only[zM]
 by_cases hd:q<a.tmps.size
 ·have:a.tmps[q]?=some undef:=by
   rw[wl hd]
   simpa[Array.getD,hd] using u
  rw[this];rfl
 ·rw[zE (Nat.not_lt.1 hd)];rfl
theorem Cd.wanted{c}{y}{a:Act}(F:Cd s.e ops o c)(B:CK y s.e a):Region.wanted o (yielded ops a.tmps)=c:=by
 cases F with
 | @one j l u b hg w A=>
  have q:=B l
  rw[show get s.e l=.r (.bool b) from A] at q
  exact eR hg w (HC q)
 | @two j l u b C hg w A=>
  have q:=B l
  rw[show get s.e l=.whn C (.r (.bool b)) from A] at q
  generalize E:a.tmps.getD l undef=v at q
  cases q with
  | whn I J=>
   cases C with
   | true=>rw[eR hg w (E.trans (HC (I rfl)))];rfl
   | false=>rw[lI hg w (E.trans (J rfl))];rfl
theorem AN.stepW{d}{c}{v}(hG:Cd s.e ops o c)(hd:o.dst=some d)(hN:Nat.blt d s.N=true)(hs:BV P c o s.e s.h s.n v s.h s.n)
 (U:AN P ops rest { e := (d, .whn c v)::s.e, h := s.h, n := s.n, N := s.N } K):AN P ops (o::rest) s K := by
  intro V a w ⟨_, j, hsz, y, J, l, q, X, Y, F⟩ Q Z
  subst J
  have A:d<a.tmps.size := by rw[hsz];exact C3 hN
  refine wpList_step λK' B => ?_
  rw[hG.wanted F]
  split
  · rename_i I
    refine hs I y a q X Y F K' Q λu z C E M O T => ?_
    refine B _ _ ?_
    rw[hd]
    exact U V (a.put (some d) u) z.w ⟨_, j, by simpa[Act.put] using hsz, z, rfl, l.trans C, E, M, O, (F.mono C).put A (.whn (λ_ => T) (λh => by rw[I] at h;cases h))⟩ Q Z
  · rename_i I
    refine B _ _ ?_
    rw[hd]
    exact U V (a.put (some d) undef) y.w ⟨_, j, by simpa[Act.put] using hsz, y, rfl, l, q, X, Y, F.put A (.whn (λh => absurd h I) (λ_ => rfl))⟩ Q Z
theorem AQ.stepW{d}{c}{v}(hG:Cd s.e ops o c)(hd:o.dst=some d)(hN:Nat.blt d s.N=true)(hs:AU P c o s.e s.h v)
 (Z:AQ P ops rest { e := (d, .whn c v)::s.e, h := s.h, n := s.n, N := s.N } K):AQ P ops (o::rest) s K := by
  intro y a j C hn hsz A Qa hQ
  have l:d<a.tmps.size := by rw[hsz];exact C3 hN
  refine wpQuiet_step λK' q => ?_
  rw[hG.wanted A]
  split
  · rename_i B
    obtain⟨u, w, hv⟩ := hs B y a j C A
    refine⟨u, λw2 E => ?_, q _ ?_⟩
    · obtain⟨z, hz, _, _, _, _, _, _, F⟩ := E
      unfold Oper.quietAt
      rw[w w2 F]
      exact⟨rfl, rfl⟩
    · rw[hd]
      exact Z y (a.put (some d) u) j C hn (by simpa[Act.put] using hsz) (A.put l (.whn (λ_ => hv) (λh => by rw[B] at h;cases h))) Qa λI J M O T U V X Y => hQ I J M O T U V X Y
  · rename_i B
    refine q _ ?_
    rw[hd]
    exact Z y (a.put (some d) undef) j C hn (by simpa[Act.put] using hsz) (A.put l (.whn (λh => absurd h B) (λ_ => rfl))) Qa λI J M O T U V X Y => hQ I J M O T U V X Y
theorem HS{d}{c}{f}{Z}{xs:Array Operand}{C}{caps bs}{r}{v}(hG:Cd s.e ops o c)(hd:o.dst=some d)(hN:Nat.blt d s.N=true)
 (ho:o.op=.call { callee := .value Z, args := xs, argTypes := C }) (E:Ev c s.e Z (.fn f caps)) (j:Du caps=true) (hx:Hw c s.e s.h xs.toList bs) (hr:c=true→AO P f (bs++caps) r)
 (q:PG r=some v) (hk:AQ P ops rest { e := (d, .whn c r)::s.e, h := s.h, n := s.n, N := s.N } K):AQ P ops (o::rest) s K := by
  intro y a l F hn hsz A Qa hQ
  have u:d<a.tmps.size := by rw[hsz];exact C3 hN
  refine wpQuiet_step λK' w => ?_
  rw[hG.wanted A]
  split
  · rename_i B
    refine⟨v, AQ.call ho E j hx hr q B l F A, w _ ?_⟩
    rw[hd]
    exact hk y (a.put (some d) v) l F hn (by simpa[Act.put] using hsz) (A.put u (.whn (λ_ => fy q) (λh => by rw[B] at h;cases h))) Qa λI J M O T U V X Y => hQ I J M O T U V X Y
  · rename_i B
    refine w _ ?_
    rw[hd]
    exact hk y (a.put (some d) undef) l F hn (by simpa[Act.put] using hsz) (A.put u (.whn (λh => absurd h B) (λ_ => rfl))) Qa λI J M O T U V X Y => hQ I J M O T U V X Y
theorem AT.stepW{d}{c}{v}(hG:Cd s.e ops o c)(hd:o.dst=some d)(hN:Nat.blt d s.N=true)(hs:AU P c o s.e s.h v)
 (X:AT P ops rest { e := (d, .whn c v)::s.e, h := s.h, n := s.n, N := s.N } K):AT P ops (o::rest) s K := by
  intro y a j C Y hsz A Z hQ
  have l:d<a.tmps.size := by rw[hsz];exact C3 hN
  refine wpStill_step λK' q => ?_
  rw[hG.wanted A]
  split
  · rename_i B
    obtain⟨u, w, hv⟩ := hs B y a j C A
    unfold Oper.still
    rw[w y.w λ_ _ => rfl, Oper.stillUpon_value]
    refine q _ ?_
    rw[hd]
    exact X y (a.put (some d) u) j C Y (by simpa[Act.put] using hsz) (A.put l (.whn (λ_ => hv) (λh => by rw[B] at h;cases h))) Z λE F I J M O T U V => hQ E F I J M O T U V
  · rename_i B
    refine q _ ?_
    rw[hd]
    exact X y (a.put (some d) undef) j C Y (by simpa[Act.put] using hsz) (A.put l (.whn (λh => absurd h B) (λ_ => rfl))) Z λE F I J M O T U V => hQ E F I J M O T U V
theorem IQ{d}{c}{v}{h'}{T}(U:Cd s.e ops o c)(hc:c=true)(hd:o.dst=some d)
 (V:Nat.blt d s.N=true) (X:BV P true o s.e s.h s.n v h' T) (Y:AN P ops rest { e := (d, v)::s.e, h := h', n := T, N := s.N } K):AN P ops (o::rest) s K := by
  intro Z a w ⟨_, j, hsz, y, A, B, C, hH, hn, E⟩ Q hQ
  subst A
  have F:d<a.tmps.size := by rw[hsz];exact C3 V
  refine wpList_step λK' I => ?_
  rw[U.wanted E, vx hc]
  refine X rfl y a C hH hn E K' Q λu z l q J M O => ?_
  refine I _ _ ?_
  rw[hd]
  exact Y Z (a.put (some d) u) z.w ⟨_, j, by simpa[Act.put] using hsz, z, rfl, B.trans l, q, J, M, (E.mono l).put F O⟩ Q hQ
end
inductive An(β τ:Type) where
 | nrm (b:β)
 | ext (t:τ)
def AL{α:Type}(l:List α)(z:Int):Option α:=if 0≤z then l[z.toNat]? else none
def gd{α:Type}[Inhabited α](c:Bool)(m:Option α):Option α:=if c then m else some default
def AM(k:IntKind)(z:Int):Option Int:=if k.wrap z=z then some z else none
def app{α:Type}(j:Nat)(xs l:List α):Option (List α):=if(xs.length+l.length) * j≤140737488355328∧xs.length+l.length≤9223372036854775807 then some (xs++l) else none
def mk{α:Type}(j:Nat)(n:Int)(z:α):Option (List α):=if 0≤n∧n * j≤281474976710656∧n≤9223372036854775807 then some (List.replicate n.toNat z) else none
def CV{α:Type}(l:List α)(j q:Int):Option (List α):=if 0≤j∧j≤q∧q≤l.length then some ((l.drop j.toNat).take (q.toNat-j.toNat)) else none
def FE{σ ρ:Type}(f:σ→Option (σ ⊕ ρ)):Nat→σ→Option ρ
 | 0,_=>none
 | n+1,s=>match f s with
  | some (.inl j)=>FE f n j
  | some (.inr r)=>some r
  | none=>none
open Classical in
noncomputable def iter{σ ρ:Type}(f:σ→Option (σ ⊕ ρ))(s:σ):Option ρ:=if h:∃n r,FE f n s=some r then FE f h.choose s else none
def AB{a0 α:Type}(m:Option (a0))(f:a0→Option α):Option α:=match m with | some j=>f j | none=>none
def Ao{a0 α:Type}(m:Option (An (a0) α))(f:a0→Option α):Option α:=match m with | some (.nrm j)=>f j | some (.ext t)=>some t | none=>none
def B5{a0 j α:Type}(m:Option (a0 × j))(f:a0→j→Option α):Option α:=match m with | some (l,q)=>f l q | none=>none
def FS{a0 j α:Type}(m:Option (An (a0 × j) α))(f:a0→j→Option α):Option α:=match m with | some (.nrm (l,q))=>f l q | some (.ext t)=>some t | none=>none
def F8{a0 j l α:Type}(m:Option (a0 × j × l))(f:a0→j→l→Option α):Option α:=match m with | some (q,u,w)=>f q u w | none=>none
def fA{a0 j l α:Type}(m:Option (An (a0 × j × l) α))(f:a0→j→l→Option α):Option α:=match m with | some (.nrm (q,u,w))=>f q u w | some (.ext t)=>some t | none=>none
def lU{a0 j l a3 α:Type}(m:Option (a0 × j × l × a3))(f:a0→j→l→a3→Option α):Option α:=match m with | some (q,u,w,A)=>f q u w A | none=>none
theorem kl{a0 α:Type}{m:Option (a0)}{f:a0→Option α}{r:α}(h:AB m f=some r):∃p,m=some p∧∀j,p=j→f j=some r:=by
 cases m with
 | none=>cases h
 | some p=>exact⟨p,rfl,λj e=>by subst e;exact h⟩
theorem mc{a0 α:Type}{m:Option (An (a0) α)}{f:a0→Option α}{r:α}(h:Ao m f=some r):∃o,m=some o∧(∀j,o=.nrm j→f j=some r)∧∀t,o=.ext t→some t=some r:=by
 cases m with
 | none=>cases h
 | some o=>cases o with
  | nrm p=>exact⟨_,rfl,(λj e=>by cases e;exact h),(λ_ e=>by cases e)⟩
  | ext t=>exact⟨_,rfl,(λj e=>by cases e),(λ_ e=>by cases e;exact h)⟩
theorem lY{a0 j α:Type}{m:Option (a0 × j)}{f:a0→j→Option α}{r:α}(h:B5 m f=some r):∃l q,m=some (l,q)∧f l q=some r:=by
 cases m with
 | none=>cases h
 | some p=>exact⟨_,_,rfl,h⟩
theorem ta{a0 q α:Type}{m:Option (a0 × q)}{f:a0→q→Option α}{r:α}(h:B5 m f=some r):∃p,m=some p∧∀j l,p=(j,l)→f j l=some r:=by
 cases m with
 | none=>cases h
 | some p=>exact⟨p,rfl,λj l e=>by subst e;exact h⟩
theorem qN{a0 q α:Type}{m:Option (An (a0 × q) α)}{f:a0→q→Option α}{r:α}(h:FS m f=some r):∃o,m=some o∧(∀j l,o=.nrm (j,l)→f j l=some r)∧∀t,o=.ext t→some t=some r:=by
 cases m with
 | none=>cases h
 | some o=>cases o with
  | nrm p=>exact⟨_,rfl,(λj l e=>by cases e;exact h),(λ_ e=>by cases e)⟩
  | ext t=>exact⟨_,rfl,(λj l e=>by cases e),(λ_ e=>by cases e;exact h)⟩
theorem Br{α:Type}{b:Bool}{x y z:α}(hc:b=true)(h:(if b=true then x else y)=z):x=z:=by rw[vx hc] at h;exact h
theorem Bt{α:Type}{b:Bool}{x y z:α}(hc:b=false)(h:(if b=true then x else y)=z):y=z:=by rw[ne (by rw[hc];decide)] at h;exact h
theorem AP{α:Type}[Inhabited α]{c:Bool}{m:Option α}{x:α}(h:gd c m=some x):c=true→m=some x:=by intro j;subst j;exact h
theorem eh{k:IntKind}{z x}(h:AM k z=some x):k.wrap z=z∧x=z:=by
 unfold AM at h;split at h
 ·exact⟨‹_›,(wo h).symm⟩
 ·cases h
theorem Bz{z}(j : -9223372036854775808≤z)(l:z≤9223372036854775807):AM .i64 z=some z:=vx (kD j l)
section
variable{σ ρ:Type}{f:σ→Option (σ ⊕ ρ)}
theorem iT{n}{s}{r}(h:FE f n s=some r) k:FE f (n+k) s=some r:=by
 induction n generalizing s with
 | zero=>cases h
 | succ n j=>
  rw[show n+1+k=(n+k)+1 by omega]
  unfold FE at h ⊢
  split at h
  ·exact j h
  ·exact h
  ·cases h
theorem jC{n m}{s}{r q}(h:FE f n s=some r)(k:FE f m s=some q):r=q:=by
 have l:=iT h m
 have j:=iT k n
 rw[y8] at j
 rw[l] at j
 exact wo j
theorem UM{s}{r} : iter f s=some r↔∃n,FE f n s=some r:=by
 unfold iter
 constructor
 ·intro h;split at h
  ·exact⟨_,h⟩
  ·cases h
 ·rintro⟨n,h⟩
  have j:∃n r,FE f n s=some r:=⟨n,r,h⟩
  rw[dif_pos j]
  obtain⟨q,l⟩:=j.choose_spec
  rw[l,jC l h]
theorem B3{s}{r}(h:f s=some (.inr r)):iter f s=some r:=UM.2 ⟨1,by unfold FE;rw[h]⟩
theorem DM{s s'}(h:f s=some (.inl s')):iter f s=iter f s':=by
 apply Option.ext
 intro r
 rw[UM,UM]
 constructor
 ·rintro⟨n,j⟩
  cases n with
  | zero=>cases j
  | succ n=>unfold FE at j;rw[h] at j;exact⟨n,j⟩
 ·rintro⟨n,j⟩;exact⟨n+1,by unfold FE;rw[h];exact j⟩
theorem Yr(I:σ→Prop)(μ:σ→Nat)(Q:ρ→Prop)(h:∀s,I s→(∃j,f s=some (.inl j)∧I j∧μ j<μ s)∨∃r,f s=some (.inr r)∧Q r){s}(u:I s):∃r,iter f s=some r∧Q r:=by
 generalize A:μ s=m
 induction m using Nat.strongRecOn generalizing s with
 | _ m w=>
  rcases h s u with ⟨j,l,q,B⟩ | ⟨r,l,q⟩
  ·rw[DM l];exact w _ (by omega) q rfl
  ·exact⟨r,B3 l,q⟩
theorem AW.iter{P}{Q}{s}{x}{a0}{o}(R:σ→St→Prop)(hit:Al.iter f a0=some o)(O:∃M, Ak s M∧R a0 M)
 (round:∀a w v, R a w→f a=some v→(∀q, v=.inr q→o=q)→AW P x (FQ (λB => ∃C, v=.inl C∧∃j, Ak B j∧R C j) Q) w):AW P (.loop x) Q s := by
  obtain⟨n, T⟩ := UM.1 hit
  obtain⟨U, E, F⟩ := O
  refine AW.loop (λm w => ∃a, R a w∧FE f m a=some o) n ⟨U, E, a0, F, T⟩ ?_
  rintro m w ⟨a, V, u⟩
  cases m with
  | zero => cases u
  | succ m =>
    cases I:f a with
    | none => unfold FE at u;rw[I] at u;cases u
    | some v =>
      unfold FE at u
      rw[I] at u
      refine(round a w v V I ?_).mono λe B A => ?_
      · rintro q rfl;exact(wo u).symm
      · cases e with
        | normal =>
          obtain⟨C, rfl, j, X, J⟩ := A
          exact⟨m, zl m, j, X, C, J, u⟩
        | exit i => exact A
        | goto l => exact A
        | ret => exact A
        | panic Y => exact A
        | outgrown => exact A
end
@[reducible] def Aj(k:IntKind)(n:Int):List RV:=[.int k n]
@[reducible] def Ed(b:Bool):List RV:=[.bool b]
@[reducible] def PB(s:List UInt8):List RV:=[.str s]
@[reducible] def EC{α:Type}(f:α→List RV)(l:List α):List RV:=[.sl (l.map f)]
theorem Gc{α:Type}{l:List α}{z:Int}{a}(h:AL l z=some a):0≤z∧l[z.toNat]?=some a∧z<l.length:=by
 unfold AL at h
 split at h
 ·have:=(wA.1 h).1
  exact⟨‹_›,h,by omega⟩
 ·cases h
theorem gF{α:Type}{l w:List α}{j q:Int}(h:CV l j q=some w):0≤j∧j≤q∧q≤l.length∧w=(l.drop j.toNat).take (q.toNat-j.toNat):=by
 unfold CV at h
 split at h
 ·rename_i u;exact⟨u.1,u.2.1,u.2.2,(wo h).symm⟩
 ·cases h
section
variable{P:Program}{c:Bool}{o:Oper}{R:Ab}{h:AS}{n:Nat}{α:Type}{f:α→List RV}
theorem Ap{t e}{sz}{x y}{l:List α}{k}{z}{a}(w:o.op=.indexAddr t x y)(A:Fv P t e sz)(B:Ev c R x (.r (.sl (l.map f))))(C:Ev c R y (.r (.int k z)))
 (j:∀a, (f a).length=sz) (u:c=true→AL l z=some a):AU P c o R h (.rop (f a) 0) :=
  cU w A B C (λq => (Gc (u q)).1) (λq => by rw[wd, (Gc (u q)).2.1];rfl) (j a)
theorem Em{t e e'}{sz}{x y}{id g}{l:List α}{k}{z:Int}{a}(u:o.op=.indexAddr t x y)(w:Fv P t e sz)(A:Ev c R x (.own id g))
 (B:hget h id=some (.arr g e' sz (l.map f))) (C:Ev c R y (.r (.int k z))) (q:c=true→AL l z=some a):AU P c o R h (.ptr id g z.toNat 0) :=
  fP u w A B C (λj => (Gc (q j)).1) (λj => by rw[wN];exact(Gc (q j)).2.2)
theorem Ju{t}{x}{id g k}{e}{sz}{l:List α}{z:Int}{a}{d}(j:o.op=.load t x)(q:Bh P t)(u:Ev c R x (.ptr id g z.toNat k))
 (w:c=true→hget h id=some (.arr g e sz (l.map f))) (A:c=true→AL l z=some a) (hd:(f a)[k]?=some d):AU P c o R h (.r d) :=
  bV j q u w (row := f a) (λB => by rw[wd, (Gc (A B)).2.1];rfl) (λ_ => hd)
theorem BU{t}{x}{row}{k}{d}(j:o.op=.load t x)(l:Bh P t)(q:Ev c R x (.rop row k))(hd:row[k]?=some d):AU P c o R h (.r d):=eW j l q λ_=>hd
theorem CU{t}{x}{row:List RV}{sz}{cs}(l:o.op=.load t x)(q:Bj P t sz)(u:Ev c R x (.rop row 0))(hd:row.length=sz)(j:row.map AV.r=cs):AU P c o R h (.agg cs):=by
 subst j;exact ZV l q u hd
theorem AZ{t}{x}{id g k}{e}{cs}{a}(j:o.op=.load t x)(l:Bh P t)(q:Ev c R x (.ptr id g 0 k))(u:hget h id=some (.box g e cs))(w:cs[k]?=some a):AU P c o R h a:=
 U2 j l q (λ_=>u) (λ_=>w)
theorem D5{t}{x}{id g}{e}{sz}{cs:List AV}(j:o.op=.load t x)(l:Bj P t sz)(q:Ev c R x (.ptr id g 0 0))(u:hget h id=some (.box g e cs))(w:cs.length=sz):AU P c o R h (.agg cs):=
 oz j l q (λ_=>u) w
theorem DP{t}{x y}{s}{k}{z}{l:UInt8}(u:o.op=.index t x y)(w:P.underlying t=some .string)(A:Ev c R x (.r (.str s)))
 (B:Ev c R y (.r (.int k z))) (q:c=true→AL s z=some l):AU P c o R h (.r (.int .u8 l.toNat)) :=
  ci u w A B (λj => (Gc (q j)).1) (λj => (Gc (q j)).2.1)
theorem G5{t l}{x y}{k}{a b r}(q:o.op=.binOp .add t x y l)(u:Ev c R x (.r (.int k a)))(w:Ev c R y (.r (.int k b)))(A:c=true→AM k (a+b)=some r):AU P c o R h (.r (.int k r)):=by
 intro j;obtain⟨B,rfl⟩:=eh (A j);exact ou q u w B j
theorem CF{t l}{x y}{k}{a b r}(q:o.op=.binOp .sub t x y l)(u:Ev c R x (.r (.int k a)))(w:Ev c R y (.r (.int k b)))(A:c=true→AM k (a-b)=some r):AU P c o R h (.r (.int k r)):=by
 intro j;obtain⟨B,rfl⟩:=eh (A j);exact od q u w B j
def Hf(c:Bool)(R:Ab)(j:Int):Option Operand→Int→Prop
 | none,z=>z=j
 | some x,z=>∃k,Ev c R x (.r (.int k z))
theorem TC{t e}{sz}{x}{B C}{l F:List α}{w A:Int}(J:o.op=.slice t x B C none)(M:Fv P t e sz)(O:Ev c R x (.r (.sl (l.map f))))
 (j:Hf c R 0 B w) (q:Hf c R l.length C A) (u:∀a, (f a).length=sz) (T:c=true→CV l w A=some F):AU P c o R h (.r (.sl (F.map f))) := by
  intro I
  obtain⟨U, X, Y, rfl⟩ := gF (T I)
  rw[List.map_take, List.map_drop]
  refine ef J M O (l := w.toNat) (m := A.toNat) ?_ ?_ (λ_ => by omega) (λ_ => by rw[wN];omega) (λrow V => by obtain⟨a, _, rfl⟩ := xY.1 V;exact u a) I
  · cases B with
    | none => simp only[Hf] at j;subst j;rfl
    | some v => obtain⟨k, E⟩ := j;exact⟨k, w, E, λ_ => U, rfl⟩
  · cases C with
    | none => simp only[Hf] at q;subst q;simp[Om]
    | some v => obtain⟨k, E⟩ := q;exact⟨k, A, E, λ_ => by omega, rfl⟩
theorem bP{j}{xs l q:List α}(h:app j xs l=some q):(xs.length+l.length) * j≤140737488355328∧xs.length+l.length≤9223372036854775807∧q=xs++l:=by
 unfold app at h
 split at h
 ·exact⟨‹_∧_›.1,‹_∧_›.2,(wo h).symm⟩
 ·cases h
def S3(R:Ab)(h:AS)(x:Operand)(e:TypeId)(sz:Nat)(f:α→List RV)(j:List α):Prop:=
 (Ev true R x (.r (.sl (j.map f)))∧∀a,(f a).length=sz)∨(∃id g,Ev true R x (.own id g)∧hget h id=some (.arr g e sz (j.map f)))∨(Ev true R x (.cst (.slice none 0 0))∧j=[])
theorem S3.src{x}{e}{sz}{q:List α}(u:S3 R h x e sz f q):Mr true R h x sz (q.map f):=by
 rcases u with ⟨j,l⟩ | ⟨id,g,j,l⟩ | ⟨j,rfl⟩
 ·exact .inl ⟨j,λ_ row w=>by obtain⟨a,_,rfl⟩:=xY.1 w;exact l a⟩
 ·exact .inr (.inl ⟨id,g,e,j,l⟩)
 ·exact .inr (.inr ⟨j,rfl⟩)
theorem Ca{t e}{sz j}{s x}{id g}{xs l q:List α}(u:o.op=.call { callee := .builtin .append, args := #[s, x], argTypes := #[t, t] })(w:Bn P t e sz j)
 (A:Ev true R s (.own id g)) (B:hget h id=some (.arr g e sz (xs.map f))) (C:S3 R h x e sz f l) (E:app j xs l=some q):BV P true o R h n (.own id n) ((id, some (.arr n e sz (q.map f)))::h) (n+1) := by
  obtain⟨F, I, rfl⟩ := bP E
  rw[yK]
  exact ip u w A B C.src (by simpa using F) (by simpa using I)
theorem Sm{t e}{sz j}{s x}(id:Nat){l q:List α}(w:o.op=.call { callee := .builtin .append, args := #[s, x], argTypes := #[t, t] })(A:Bn P t e sz j)
 (B:Ev true R s (.cst (.slice none 0 0))) (C:S3 R h x e sz f l) (E:app j [] l=some q):BV P true o R h n (.own id n) ((id, some (.arr n e sz (q.map f)))::h) (n+1) := by
  obtain⟨F, I, u⟩ := bP E
  rw[yk] at u
  subst u
  exact ZP id w A B C.src (by simpa using F) (by simpa using I)
theorem UU{t e}{sz j}{l k}(id:Nat){m}{z0}{r:List α}(w:o.op=.makeSlice t l k)(A:Bn P t e sz j)(B:Jv P e (f z0))
 (C:Ev true R l (.r (.int .i64 m))) (E:Ev true R k (.r (.int .i64 m))) (q:mk j m z0=some r):BV P true o R h n (.own id n) ((id, some (.arr n e sz (r.map f)))::h) (n+1) := by
  unfold mk at q
  split at q
  · rename_i u
    cases q
    rw[List.map_replicate]
    exact Yi id w A B C E u.1 u.2.1 u.2.2
  · cases q
theorem Bw{t e}{sz w len}{parts:Array (Nat × Operand)}(id:Nat){l:List α}(A:o.op=.buildSlice t len parts)(B:Bn P t e sz w)
 (hp:KJ true R 0 parts.toList (l.map f)) (q:l.length=len) (u:∀a, (f a).length=sz) (j:Nat.ble (len * sz) 16777216=true) :
    BV P true o R h n (.own id n) ((id, some (.arr n e sz (l.map f)))::h) (n+1) :=
  dX id A B hp (by rw[wN];exact q) (λrow C => by obtain⟨a, _, rfl⟩ := xY.1 C;exact u a) j
theorem Kw{t}{x y}{id g k}{e}{sz}{l:List α}{z:Int}{a v}{b}{d}(j:o.op=.store t x y)(q:∃i, P.info? t=some i∧i.size=1)
 (u:Ev true R x (.ptr id g z.toNat k)) (w:hget h id=some (.arr g e sz (l.map f))) (A:AL l z=some a) (B:Ev true R y b) (hd:KA b=some d) (C:(Bm b).length=1) (E:Nat.blt k (f a).length=true) (F:(f a).set k d=f v) :
    BV P true o R h n .any ((id, some (.arr g e sz ((l.set z.toNat v).map f)))::h) n := by
  have := km (n := n) j q u w (row := f a) (by rw[wd, (Gc A).2.1];rfl) (C3 E) B hd C
  rwa [F, ← List.map_set] at this
theorem Bu{t}{e}{sz}{x}{l:List α}(j:o.op=.call { callee:=.builtin .len,args:=#[x],argTypes:=#[t] })(q:Fv P t e sz)(u:Ev c R x (.r (.sl (l.map f)))):AU P c o R h (.r (.int .i64 l.length)):=m9 j q u
theorem LK{t}{e e'}{sz j}{x}{id g}{l:List α}(q:o.op=.call { callee := .builtin .len, args := #[x], argTypes := #[t] })(u:Fv P t e sz)(w:Ev c R x (.own id g))
 (A:hget h id=some (.arr g e' j (l.map f))):AU P c o R h (.r (.int .i64 l.length)) := rV q u w A
theorem Ay{t}{x}{a}(id:Nat){cs:List AV}(l:o.op=.box t x)(q:Ev c R x a)(j:Bm a=cs)(u:cs.all AV.one=true):BV P c o R h n (.ptr id n 0 0) ((id,some (.box n t cs))::h) (n+1):=by
 subst j;exact ee id l q u
theorem BB{t}{l}(id:Nat){cs:List AV}(q:o.op=.alloc t)(u:CS P t l)(j:Bm (HA l)=cs)(w:cs.all AV.one=true) :
  BV P c o R h n (.ptr id n 0 0) ((id,some (.box n t cs))::h) (n+1):=by
 subst j;exact Z4 id q u w
theorem Af{t}{x y}{id g k}{e}{cs ds:List AV}{a}{sz}(q:o.op=.store t x y)(u:∃i, P.info? t=some i∧i.size=sz)(w:Ev c R x (.ptr id g 0 k))
 (A:hget h id=some (.box g e cs)) (B:Ev c R y a) (hsz:(Bm a).length=sz) (C:(Bm a).all AV.one=true) (j:Nat.ble (k+sz) cs.length=true) (l:GX cs k (Bm a)=ds) :
    BV P c o R h n .any ((id, some (.box g e ds))::h) n := by
  subst l;exact gn q u w A B hsz C j
end
def RD(a b:AV):Prop:=a=b∨b=.any∨(a=.cst (.slice none 0 0)∧b=.r (.sl []))
def Pi:List AV→List AV→Prop
 | [],[]=>True
 | a::l,b::m=>RD a b∧Pi l m
 | _,_=>False
def Sl(a b:AV):Prop:=RD a b∨∃j l,a=.agg j∧b=.agg l∧Pi j l
def RA:Ab→Ab→Prop
 | [],_=>True
 | (t,v)::r,e=>Sl (get e t) v∧RA r e
def g8(a b:Option A9):Prop:=a=b∨b=none∨∃g e j l,a=some (.box g e j)∧b=some (.box g e l)∧Pi j l
def QR:AS→AS→Prop
 | [],_=>True
 | (id,o)::r,h=>g8 (hget h id) o∧QR r h
theorem RD.rep{x}{a b}(h:RD a b){v}(j:AX x a v):AX x b v:=by
 rcases h with rfl | rfl | ⟨rfl,rfl⟩
 ·exact j
 ·exact .any _
 ·cases j;exact .r .snil
theorem Pi.get{cs ds:List AV}(h:Pi cs ds):cs.length=ds.length∧∀(i:Nat) (b:AV),ds[i]?=some b→∃a,cs[i]?=some a∧RD a b:=by
 induction cs generalizing ds with
 | nil=>cases ds with | nil=>exact⟨rfl,by simp⟩ | cons _ _=>exact h.elim
 | cons c l q=>
  cases ds with
  | nil=>exact h.elim
  | cons d m=>
   obtain⟨u,w⟩:=h
   obtain⟨A,B⟩:=q w
   refine⟨by simp[A],λi b j=>?_⟩
   cases i with
   | zero=>cases j;exact⟨c,rfl,u⟩
   | succ i=>simp only[yH] at j ⊢;exact B i b j
theorem Sl.rep{x}{a b}(h:Sl a b){v}(l:AX x a v):AX x b v:=by
 rcases h with h | ⟨E,F,rfl,rfl,h⟩
 ·exact h.rep l
 ·obtain⟨I,q⟩:=h.get
  cases l with
  | agg J j=>
   refine .agg (by omega) λi b u w A=>?_
   obtain⟨a,B,C⟩:=q i b w
   exact C.rep (j i a u B A)
theorem RA.get{e' e}(h:RA e' e)(t:Nat):Al.get e' t=.any∨Sl (Al.get e t) (Al.get e' t):=by
 induction e' with
 | nil=>exact .inl rfl
 | cons p r j=>
  obtain⟨d,v⟩:=p
  rw[D6]
  split
  ·rename_i hd;subst hd;exact .inr h.1
  ·exact j h.2
theorem QR.get{h' h}(k:QR h' h)(t:Nat):hget h' t=none∨g8 (hget h t) (hget h' t):=by
 induction h' with
 | nil=>exact .inl rfl
 | cons p r j=>
  obtain⟨d,v⟩:=p
  rw[DC]
  split
  ·rename_i hd;subst hd;exact .inr k.1
  ·exact j k.2
theorem ix{y:Cx}(l:y.ok) S' u w (M:y.n≤w) (V:∀b, y.S b→S' b) (B:∀b, S' b→b<y.w.heap.size) (I:∀b, S' b→¬ y.F b)
 (C:∀id j, u id=some j→∃o, y.H id=some o∧o.gen=j.gen∧o.shape=j.shape∧(∀b k, y.β id=some (b, k)→¬ S' b)∧(y.le { y with S := S', H := u, n := w } → E6 { y with S := S', H := u, n := w } (y.β id) o→E6 { y with S := S', H := u, n := w } (y.β id) j)) :
    y.le { y with S := S', H := u, n := w } ∧ ({ y with S := S', H := u, n := w } : Cx).ok := by
  have q:y.le { y with S := S', H := u, n := w } := ⟨wL _, rfl, rfl, rfl, λ_ _ => rfl, V, rfl, M, λid j h _ => by
    obtain⟨o, A, E, O, _⟩ := C id j h;exact⟨o, A, E, O, rfl⟩⟩
  refine⟨q, B, l.F_lt, I, λid j h => ?_, λid j b k h T => ?_, λid F o j b k X h Y => ?_, l.tabs.le q⟩
  · obtain⟨o, A, E, O, _, Z⟩ := C id j h
    obtain⟨J, U⟩ := l.obj id o A
    exact⟨by rw[← E];exact wZ J M, Z q (U.mono q λ_ _ _ => rfl)⟩
  · obtain⟨o, A, _, _, h4, _⟩ := C id j h
    obtain⟨J, U, k3⟩ := l.own id o b k A T
    exact⟨J, h4 b k T, k3⟩
  · obtain⟨o1, A, _⟩ := C id o h
    obtain⟨o2, E, _⟩ := C F j Y
    exact l.inj id F o1 o2 b k X A E
theorem rC{x}{β}{g}{e}{cs ds:List AV}(M:cs.length=ds.length)(hc:∀(i:Nat) (b:AV), ds[i]?=some b→∃a, cs[i]?=some a∧∀v, AX x a v→AX x b v)
 (h:E6 x β (.box g e cs)):E6 x β (.box g e ds) := by
  obtain⟨b, l, q, w, O, A⟩ := h
  refine⟨b, l, q, w, by omega, λj d B => ?_⟩
  obtain⟨a, C, E⟩ := hc j d B
  obtain⟨u, F, I, J⟩ := A j a C
  exact⟨u, F, I, E u J⟩
theorem Ak.cv{e' e}{h' h}{E n N}(U:RA e' e)(V:QR h' h)(X:n≤E):Ak ⟨e,h,n,N⟩ ⟨e',h',E,N⟩:=by
 intro c0 a w ⟨_,A,hsz,y,I,J,l,F,M,B⟩
 have q:=ix l y.S (hget h') E (by rw[M];exact X) (λ_ h=>h) l.S_lt l.SF (λid O u=>by
  rcases V.get id with j | j
  ·rw[j] at u;cases u
  ·rw[u] at j
   rcases j with j | j | ⟨g,Y,Z,ds,j,h2,h3⟩
   ·exact⟨O,by rw[F];exact j,rfl,rfl,λb k C=>(l.own id O b k (by rw[F];exact j) C).2.1,λ_ h=>h⟩
   ·cases j
   ·cases h2
    obtain⟨T,k2⟩:=h3.get
    refine⟨.box g Y Z,by rw[F];exact j,rfl,by simp[A9.shape,T],λb k C=>(l.own id _ b k (by rw[F];exact j) C).2.1,λ_ hr=>rC T (λi b C=>?_) hr⟩
    obtain⟨a,k3,k4⟩:=k2 i b C
    exact⟨a,k3,λv hv=>k4.rep hv⟩)
 refine⟨_,A,hsz,{ y with S:=y.S,H:=hget h',n:=E },I,J.trans q.1,q.2,rfl,rfl,λt=>?_⟩
 rcases U.get t with j | j
 ·rw[j];exact .any _
 ·exact j.rep ((B t).mono q.1)
def Oe(id g:Nat)(xs:List (List RV))(a b:AV):Prop:=a=b∨b=.any∨(a=.own id g∧b=.r (.sl xs))
def Mu(id g:Nat)(xs:List (List RV)):List AV→List AV→Prop
 | [],[]=>True
 | a::l,b::m=>Oe id g xs a b∧Mu id g xs l m
 | _,_=>False
def XT(id g:Nat)(xs:List (List RV))(a b:AV):Prop:=Oe id g xs a b∨∃j l,a=.agg j∧b=.agg l∧Mu id g xs j l
def P7(id g:Nat)(xs:List (List RV)):Ab→Ab→Prop
 | [],_=>True
 | (t,v)::r,e=>XT id g xs (get e t) v∧P7 id g xs r e
def U8(id g:Nat)(xs:List (List RV))(a b:Option A9):Prop:=a=b∨b=none∨(∃j e l q,a=some (.box j e l)∧b=some (.box j e q)∧Mu id g xs l q) ∨
  ∃j e u k w,a=some (.hot j e u k id g)∧b=some (.arr j e 1 w)∧w=u.set k [.sl xs]
def Q2(id g:Nat)(xs:List (List RV)):AS→AS→Prop
 | [],_=>True
 | (i,o)::r,h=>Nat.beq i id=false∧U8 id g xs (hget h i) o∧Q2 id g xs r h
theorem Mu.get{id g}{xs}{cs ds:List AV}(h:Mu id g xs cs ds):cs.length=ds.length∧∀(i:Nat) (b:AV),ds[i]?=some b→∃a,cs[i]?=some a∧Oe id g xs a b:=by
 induction cs generalizing ds with
 | nil=>cases ds with | nil=>exact⟨rfl,by simp⟩ | cons _ _=>exact h.elim
 | cons c l q=>
  cases ds with
  | nil=>exact h.elim
  | cons d m=>
   obtain⟨u,w⟩:=h
   obtain⟨A,B⟩:=q w
   refine⟨by simp[A],λi b j=>?_⟩
   cases i with
   | zero=>cases j;exact⟨c,rfl,u⟩
   | succ i=>simp only[yH] at j ⊢;exact B i b j
theorem P7.get{id g}{xs}{e' e}(h:P7 id g xs e' e)(t:Nat):Al.get e' t=.any∨XT id g xs (Al.get e t) (Al.get e' t):=by
 induction e' with
 | nil=>exact .inl rfl
 | cons p r j=>
  obtain⟨d,v⟩:=p
  rw[D6]
  split
  ·rename_i hd;subst hd;exact .inr h.1
  ·exact j h.2
theorem Q2.get{id g}{xs}{h' h}(k:Q2 id g xs h' h)(t:Nat):hget h' t=none∨(t≠id∧U8 id g xs (hget h t) (hget h' t)):=by
 induction h' with
 | nil=>exact .inl rfl
 | cons p r j=>
  obtain⟨d,v⟩:=p
  rw[DC]
  split
  ·rename_i hd;subst hd;exact .inr ⟨zD k.1,k.2.1⟩
  ·exact j k.2.2
theorem Ak.frz{e' e:Ab}{h' h}{n N}(id:Nat){g}{et}{sz}{xs}(a2:hget h id=some (.arr g et sz xs))(he:P7 id g xs e' e)(hh:Q2 id g xs h' h):Ak ⟨e,h,n,N⟩ ⟨e',h',n,N⟩:=by
 intro c0 a w ⟨_,Z,hsz,y,a6,a7,l,hH,a8,F⟩
 have B:y.H id=some (.arr g et sz xs):=by rw[hH];exact a2
 let S':Nat→Prop:=λb=>y.S b∨∃k,y.β id=some (b,k)
 have O:∀ {z:Cx},z.w=y.w→z.S=S'→∀ {a b:AV},Oe id g xs a b→∀v,AX y a v→(AX z a v)→AX z b v:=by
  intro z aa ab a b hf v hv ac
  rcases hf with rfl | rfl | ⟨rfl,rfl⟩
  ·exact ac
  ·exact .any _
  ·refine .r ?_
   have:=Sb l B hv (S':=S') (λ_ h=>.inl h) (λb k A=>.inr ⟨k,A⟩)
   rw[aa,ab];exact this
 have E:=ix l S' (hget h') y.n (wL _) (λ_ h=>.inl h) (λb A=>by
   rcases A with A | ⟨k,A⟩
   ·exact l.S_lt b A
   ·exact(l.own id _ b k B A).1) (λb A=>by
   rcases A with A | ⟨k,A⟩
   ·exact l.SF b A
   ·exact(l.own id _ b k B A).2.2) (λi o' T=>by
  rcases hh.get i with q | ⟨ad,q⟩
  ·rw[q] at T;cases T
  ·rw[T] at q
   have U:∀o,y.H i=some o→∀b k,y.β i=some (b,k)→¬ S' b:=by
    intro o ho b k A
    rintro(I | ⟨k',I⟩)
    ·exact(l.own i o b k ho A).2.1 I
    ·exact ad (l.inj i id o _ b k k' ho B A I)
   rcases q with q | q | ⟨g0,e0,cs,ds,q,I,h3⟩ | ⟨g0,e0,ys,k,zs,q,I,rfl⟩
   ·exact⟨o',by rw[hH];exact q,rfl,rfl,U o' (by rw[hH];exact q),λ_ h=>h⟩
   ·cases q
   ·cases I
    obtain⟨k1,k2⟩:=h3.get
    have C:y.H i=some (.box g0 e0 cs):=by rw[hH];exact q
    refine⟨.box g0 e0 cs,C,rfl,by simp[A9.shape,k1],U _ C,λJ _=>?_⟩
    obtain⟨_,b,ae,m1,m2,m3,m4⟩:=l.obj i _ C
    refine⟨b,ae,m1,m2,by omega,λj d hj=>?_⟩
    obtain⟨a,Y,k4⟩:=k2 j d hj
    obtain⟨u,k5,k6,k7⟩:=m4 j a Y
    exact⟨u,k5,k6,O (z:={ y with S:=S',H:=hget h',n:=y.n }) rfl rfl k4 u k7 (k7.mono J)⟩
   ·cases I
    have C:y.H i=some (.hot g0 e0 ys k id g):=by rw[hH];exact q
    refine⟨.hot g0 e0 ys k id g,C,rfl,by simp[A9.shape],U _ C,λJ _=>?_⟩
    obtain⟨_,m1,m2,af,us,m3,m4,m5,u0,m6,m7⟩:=l.obj i _ C
    have ag:∀b,y.S b→y.w.heap[b]?=y.w.heap[b]?:=λ_ _=>rfl
    refine⟨Nat.one_pos,λrow hr=>?_,af,us,by rw[yL];exact m3,by rw[yL];exact m4,λi' row c d q1 q2=>?_⟩
    ·rcases yQ hr with hr | rfl
     ·exact m2 row hr
     ·rfl
    ·rw[yE] at q1
     split at q1
     ·rename_i V;subst V
      cases q1
      have X:c=0:=by
       have:=(wA.1 q2).1
       simp at this;omega
      subst X
      cases q2
      refine⟨u0,by simpa using m6,Sb l B m7 (λ_ h=>.inl h) (λb k A=>.inr ⟨k,A⟩)⟩
     ·rename_i V
      have X:c=0:=by
       have:=(wA.1 q2).1
       have:=m2 row (wj q1)
       omega
      subst X
      obtain⟨u,Y,k4⟩:=m5 i' row d (λe=>V e.symm) q1 q2
      exact⟨u,by simpa using Y,k4.mono (λ_ _=>rfl) (λ_ h=>.inl h)⟩)
 refine⟨_,Z,hsz,{ y with S:=S',H:=hget h',n:=y.n },a6,a7.trans E.1,E.2,rfl,a8,λt=>?_⟩
 rcases he.get t with q | q
 ·rw[q];exact .any _
 ·rcases q with q | ⟨cs,ds,q,I,h3⟩
  ·exact O (z:={ y with S:=S',H:=hget h',n:=y.n }) rfl rfl q _ (F t) ((F t).mono E.1)
  ·rw[I]
   obtain⟨k1,k2⟩:=h3.get
   have hv:=F t
   rw[q] at hv
   generalize hu:a.tmps.getD t undef=v at hv
   cases hv with
   | @agg _ us hl M=>
    refine .agg (by omega) λi b u A a1=>?_
    obtain⟨a0,Y,k4⟩:=k2 i b A
    exact O (z:={ y with S:=S',H:=hget h',n:=y.n }) rfl rfl k4 u (M i a0 u Y a1) ((M i a0 u Y a1).mono E.1)
theorem B8{ρ:Type}{P}{T r}{j}{k}{x}{s}(F:ρ→AV→AS→Prop)(e:some T=some r)(h:SG P j k (F T) x s):SG P j k (F r) x s:=by cases e;exact h
theorem vC{P}{Q}{s}{x y}(h:∀K:St→Prop,(∀s,AW P y Q s→K s)→(∀s j,Ak s j→K j→K s)→AW P x (FQ K Q) s):AW P (.seq x y) Q s:=
 .seq (h _ (λ_ h=>h) λ_ _ l h=>.weak l h)
def QC(Q:Exit→St→Prop)(e:Exit)(s:St):Prop:=∃j,Ak s j∧Q e j
theorem QC.mk{Q}{e}{s s'}(j:Ak s s')(h:Q e s'):QC Q e s:=⟨s',j,h⟩
theorem AW.retW{P}{c}{Q}{s}(h:AW P c (QC Q) s):AW P c Q s:=
 λz q u a w A=>wpIn_mono (h z q u a w A) λ_ _ _ ⟨B,_,⟨j,C,E⟩,l⟩=>⟨B,j,E,C _ _ _ l⟩
theorem Dq {P : Program} {f} {fn : Func} {code} {args : List AV} {k N} {hc} {j} (w : P.funcs[f]? = some fn) (A : fn.body = some code) (l : (fn.name == "runtime.NumGoroutine") = false) (B : fn.ntmps = N)
 (q:args.length≤N) (C:∀u, AW P code (QC (SG P fn.results.toList k j)) ⟨Db 0 args, hc, u, N⟩):BY P f k args hc j := BY.mk w A l B q λu => (C u).retW
def AH(l:List Nat):Nat→Nat:=λk=>l.getD k 0
theorem AG{a0 α:Type}{m:Option (a0)}{f:a0→Option α}{r:α}{G:Prop}(h:AB m f=some r)(k:∀j,m=some j→f j=some r→G):G:=by
 cases m with
 | none=>cases h
 | some p=>exact k _ rfl h
theorem A3{a0 α:Type}{m:Option (a0)}{f:a0→Option α}{r:α}{G:Prop}(h:AB m f=some r)(k:∀p,m=some p→(∀j,p=j→f j=some r)→G):G:=by
 obtain⟨p,l,q⟩:=kl h;exact k p l q
theorem BI{a0 α:Type}{m:Option (An (a0) α)}{f:a0→Option α}{r:α}{G:Prop}(h:Ao m f=some r)(k:∀o,m=some o→(∀j,o=.nrm j→f j=some r)→(∀t,o=.ext t→some t=some r)→G):G:=by
 obtain⟨p,l,q,u⟩:=mc h;exact k p l q u
def TP{a0 ρ:Type}(v:(a0) ⊕ ρ)(R:a0→(Nat→Nat)→St)(l:St):Prop:=∃j i,v=.inl j∧Ak l (R j i)
theorem TP.mk{a0 ρ:Type}{v:(a0) ⊕ ρ}{R:a0→(Nat→Nat)→St}{j:St}{l:_}(e:some (Sum.inl l)=some v)(i:Nat→Nat)(q:Ak j (R l i)):TP v R j:=⟨_,i,(wo e).symm,q⟩
theorem vV{a0 ρ:Type}{f:(a0)→Option ((a0) ⊕ ρ)}{P:Program}{Q:Exit→St→Prop}{s:St}{x:Code}{j:a0}{o:ρ}(R:a0→(Nat→Nat)→St)(w:Nat→Nat)(hit:Al.iter f j=some o)(B:Ak s (R j w))
  (round:∀j i v,f j=some v→(∀q,v=.inr q→o=q)→AW P x (FQ (TP v R) Q) (R j i)):AW P (.loop x) Q s:=by
 refine AW.iter (λ(a:a0) A=>∃i,A=R a i) hit ⟨_,B,w,rfl⟩ ?_
 rintro j A v ⟨i,rfl⟩ C E
 refine(round j i v C E).mono λe F l=>?_
 cases e with
 | normal=>
  obtain⟨J,I,e,u⟩:=l
  exact⟨_,e,_,u,I,rfl⟩
 | exit _=>exact l
 | goto _=>exact l
 | ret=>exact l
 | panic _=>exact l
 | outgrown=>exact l
theorem DQ{a0 j α:Type}{m:Option (a0 × j)}{f:a0→j→Option α}{r:α}{G:Prop}(h:B5 m f=some r)(k:∀l q,m=some (l,q)→f l q=some r→G):G:=by
 cases m with
 | none=>cases h
 | some p=>exact k _ _ rfl h
theorem LN{a0 j α:Type}{m:Option (a0 × j)}{f:a0→j→Option α}{r:α}{G:Prop}(h:B5 m f=some r)(k:∀p,m=some p→(∀l q,p=(l,q)→f l q=some r)→G):G:=by
 obtain⟨p,u,w⟩:=ta h;exact k p u w
theorem Jg{a0 j α:Type}{m:Option (An (a0 × j) α)}{f:a0→j→Option α}{r:α}{G:Prop}(h:FS m f=some r)(k:∀o,m=some o→(∀l q,o=.nrm (l,q)→f l q=some r)→(∀t,o=.ext t→some t=some r)→G):G:=by
 obtain⟨p,u,w,A⟩:=qN h;exact k p u w A
def Sd{a0 j ρ:Type}(v:(a0 × j) ⊕ ρ)(R:a0→j→(Nat→Nat)→St)(u:St):Prop:=∃l q i,v=.inl (l,q)∧Ak u (R l q i)
theorem Sd.mk{a0 j ρ:Type}{v:(a0 × j) ⊕ ρ}{R:a0→j→(Nat→Nat)→St}{l:St}{q:a0}{u:j}(e:some (Sum.inl (q,u))=some v)(i:Nat→Nat)(w:Ak l (R q u i)):Sd v R l:=⟨_,_,i,(wo e).symm,w⟩
theorem ve{a0 w ρ:Type}{f:(a0 × w)→Option ((a0 × w) ⊕ ρ)}{P:Program}{Q:Exit→St→Prop}{s:St}{x:Code}{j:a0}{l:w}{o:ρ}(R:a0→w→(Nat→Nat)→St)(B:Nat→Nat)(hit:Al.iter f (j,l)=some o)(E:Ak s (R j l B))
  (round:∀j l i v,f (j,l)=some v→(∀q,v=.inr q→o=q)→AW P x (FQ (Sd v R) Q) (R j l i)):AW P (.loop x) Q s:=by
 refine AW.iter (λ(a:a0 × w) C=>∃i,C=R a.1 a.2 i) hit ⟨_,E,B,rfl⟩ ?_
 rintro⟨j,l⟩ C v ⟨i,rfl⟩ F I
 refine(round j l i v F I).mono λe J u=>?_
 cases e with
 | normal=>
  obtain⟨O,T,M,e,A⟩:=u
  exact⟨_,e,_,A,M,rfl⟩
 | exit _=>exact u
 | goto _=>exact u
 | ret=>exact u
 | panic _=>exact u
 | outgrown=>exact u
theorem IW{a0 j l α:Type}{m:Option (a0 × j × l)}{f:a0→j→l→Option α}{r:α}{G:Prop}(h:F8 m f=some r)(k:∀q u w,m=some (q,u,w)→f q u w=some r→G):G:=by
 cases m with
 | none=>cases h
 | some p=>exact k _ _ _ rfl h
def Dg{a0 j l ρ:Type}(v:(a0 × j × l) ⊕ ρ)(R:a0→j→l→(Nat→Nat)→St)(A:St):Prop:=∃q u w i,v=.inl (q,u,w)∧Ak A (R q u w i)
theorem Dg.mk{a0 j l ρ:Type}{v:(a0 × j × l) ⊕ ρ}{R:a0→j→l→(Nat→Nat)→St}{q:St}{u:a0}{w:j}{A:l}(e:some (Sum.inl (u,w,A))=some v)(i:Nat→Nat)(B:Ak q (R u w A i)):Dg v R q:=⟨_,_,_,i,(wo e).symm,B⟩
theorem IP{a0 A B ρ:Type}{f:(a0 × A × B)→Option ((a0 × A × B) ⊕ ρ)}{P:Program}{Q:Exit→St→Prop}{s:St}{x:Code}{j:a0}{l:A}{u:B}{o:ρ}(R:a0→A→B→(Nat→Nat)→St)(E:Nat→Nat)(hit:Al.iter f (j,l,u)=some o)(I:Ak s (R j l u E))
  (round:∀j l u i v,f (j,l,u)=some v→(∀q,v=.inr q→o=q)→AW P x (FQ (Dg v R) Q) (R j l u i)):AW P (.loop x) Q s:=by
 refine AW.iter (λ(a:a0 × A × B) F=>∃i,F=R a.1 a.2.1 a.2.2 i) hit ⟨_,I,E,rfl⟩ ?_
 rintro⟨j,l,u⟩ F v ⟨i,rfl⟩ J M
 refine(round j l u i v J M).mono λe O w=>?_
 cases e with
 | normal=>
  obtain⟨U,V,X,T,e,C⟩:=w
  exact⟨_,e,_,C,T,rfl⟩
 | exit _=>exact w
 | goto _=>exact w
 | ret=>exact w
 | panic _=>exact w
 | outgrown=>exact w
def I3{a0 j l a3 ρ:Type}(v:(a0 × j × l × a3) ⊕ ρ)(R:a0→j→l→a3→(Nat→Nat)→St)(B:St):Prop:=∃q u w A i,v=.inl (q,u,w,A)∧Ak B (R q u w A i)
theorem I3.mk{a0 j l a3 ρ:Type}{v:(a0 × j × l × a3) ⊕ ρ}{R:a0→j→l→a3→(Nat→Nat)→St}{q:St}{u:a0}{w:j}{A:l}{B:a3}(e:some (Sum.inl (u,w,A,B))=some v)(i:Nat→Nat)(C:Ak q (R u w A B i)):I3 v R q:=⟨_,_,_,_,i,(wo e).symm,C⟩
theorem vJ{a0 B C a3 ρ:Type}{f:(a0 × B × C × a3)→Option ((a0 × B × C × a3) ⊕ ρ)}{P:Program}{Q:Exit→St→Prop}{s:St}{x:Code}{j:a0}{l:B}{u:C}{w:a3}{o:ρ}(R:a0→B→C→a3→(Nat→Nat)→St)(F:Nat→Nat)(hit:Al.iter f (j,l,u,w)=some o)(J:Ak s (R j l u w F))
  (round:∀j l u w i v,f (j,l,u,w)=some v→(∀q,v=.inr q→o=q)→AW P x (FQ (I3 v R) Q) (R j l u w i)):AW P (.loop x) Q s:=by
 refine AW.iter (λ(a:a0 × B × C × a3) I=>∃i,I=R a.1 a.2.1 a.2.2.1 a.2.2.2 i) hit ⟨_,J,F,rfl⟩ ?_
 rintro⟨j,l,u,w⟩ I v ⟨i,rfl⟩ M O
 refine(round j l u w i v M O).mono λe T A=>?_
 cases e with
 | normal=>
  obtain⟨V,X,Y,Z,U,e,E⟩:=A
  exact⟨_,e,_,E,U,rfl⟩
 | exit _=>exact A
 | goto _=>exact A
 | ret=>exact A
 | panic _=>exact A
 | outgrown=>exact A
theorem vP{P:Program}{ops:Array Oper}{rest:List Oper}{s:St}{K:St→Prop}{o:Oper}{d:Nat}{f:FuncId}{C:Operand}{xs:Array Operand}{l:Array TypeId}{caps bs:List AV}(L:List Nat){hc:AS}{F:(Nat→Nat)→AV}{G:(Nat→Nat)→AS}(hg:o.guard=none)(hd:o.dst=some d)(I:Nat.blt d s.N=true)
  (J:o.op=.call { callee:=.value C,args:=xs,argTypes:=l }) (q:Ev true s.e C (.fn f (FF L caps))) (u:GU L.length caps=true) (M:JZ s.e L xs.toList bs) (w:HN s.h L hc) (A:L.Nodup)
  (j:BY P f L.length (bs++caps) hc (λr E=>∃i,r=F i∧E=G i))
  (O:∀i B,AN P ops rest { e:=(d,ren L (F i))::s.e,h:=Ga L (G i) 1000 L++s.h,n:=B,N:=s.N } K):AN P ops (o::rest) s K:=
 vX L hg hd I J q u M w A j (by rintro r E B ⟨i,rfl,rfl⟩;exact O i B)
def X0:Option TypeDesc→AV→AV→Option Bool
 | some (.int _),.r (.int k m),.r (.int j n)=>if k=j then some (decide (m=n)) else none
 | some .bool,.r (.bool a),.r (.bool b)=>some (a==b)
 | some .string,.r (.str a),.r (.str b)=>some (decide (a=b))
 | _,_,_=>none
def Hq:List (Option TypeDesc)→List AV→List AV→Option Bool
 | [],[],[]=>some true
 | d::j,a::l,b::m=>match X0 d a b,Hq j l m with
  | some x,some y=>some (x&&y)
  | _,_=>none
 | _,_,_=>none
def QG(P:Program):Nat→List Field→List (Option TypeDesc)→Prop
 | _,[],[]=>True
 | i, f :: j, d :: l => (f.name == "_") = false ∧ f.offset = i ∧ P.underlying f.type = d ∧ QG P (i + 1) j l
 | _,_,_=>False
def Eu(P:Program)(t:TypeId)(ds:List (Option TypeDesc)):Prop:=P.underlying t=some (.struct (P.fieldsOf t))∧P.stoodInHeld t=false∧P.eqGuardType P.depth t=false∧QG P 0 (P.fieldsOf t).toList ds
theorem qR{P:Program}{x}{d}{t}{a b}{u v}{r}(l:AX x a u)(q:AX x b v)(j:X0 (P.underlying t) a b=some r)(w:World) :
  (Op.equalIn (d+1) t u v).run P w=.ok r w∧∃e,P.underlying t=some e∧Gm e=true:=by
 unfold X0 at j
 split at j
 ·rename_i hd
  obtain rfl:=Cw l
  obtain rfl:=Cw q
  split at j
  ·rename_i A;subst A;cases j
   refine⟨?_,_,hd,rfl⟩
   rw[run_equalIn_int w d t _ _ _ _ hd]
   congr 1
  ·cases j
 ·rename_i hd
  obtain rfl:=HC l
  obtain rfl:=HC q
  cases j
  exact⟨run_equalIn_bool' w d t _ _ hd,_,hd,rfl⟩
 ·rename_i hd
  obtain rfl:=Hy l
  obtain rfl:=Hy q
  cases j
  refine⟨?_,_,hd,rfl⟩
  rw[run_equalIn_string w d t _ _ hd]
  congr 1
  simp[ByteArray.toList_eq]
  rename_i a b
  by_cases h:a=b<;>simp[h]
 ·cases j
theorem fb{P}{x}{d}{us vs:Array Value}(w:World):∀(B:List Field) (ds:List (Option TypeDesc)) (i:Nat) (cs A:List AV) (r:Bool),QG P i B ds→cs.length+i=us.size→A.length+i=vs.size →
  (∀(j:Nat) (c:AV) (u:Value),cs[j]?=some c→us[i+j]?=some u→AX x c u)→(∀(j:Nat) (c:AV) (u:Value),A[j]?=some c→vs[i+j]?=some u→AX x c u) →
  Hq ds cs A=some r→(Op.eqFields (d+1) us vs B).run P w=.ok r w
 | [],ds,i,cs,A,r,C,E,F,I,J,q=>by
  cases ds with
  | cons _ _=>exact C.elim
  | nil=>
   unfold Hq at q
   split at q
   ·cases q;simp[Op.eqFields]
   ·rename_i h;cases h
   ·cases q
 | f::B,ds,i,cs,A,r,C,E,F,I,J,q=>by
  cases ds with
  | nil=>exact C.elim
  | cons dd ds=>
   obtain⟨h1,h2,h3,h4⟩:=C
   cases cs with
   | nil=>simp[Hq] at q
   | cons a l=>
    cases A with
    | nil=>simp[Hq] at q
    | cons b m=>
     simp only[Hq] at q
     split at q
     ·rename_i xb yb e1 e2
      cases q
      have M:i<us.size:=by simp at E;omega
      have O:i<vs.size:=by simp at F;omega
      have ra:=I 0 a us[i] rfl (by simp)
      have rb:=J 0 b vs[i] rfl (by simp)
      subst h3
      obtain⟨k1,e,k2,k3⟩:=qR (d:=d) ra rb e1 w
      have T:(part f.type us f.offset).run P w=.ok us[i] w:=by
       rw[h2];simp[part,KT k2,k3,wl M]
      have U:(part f.type vs f.offset).run P w=.ok vs[i] w:=by
       rw[h2];simp[part,KT k2,k3,wl O]
      have V:l.length+(i+1)=us.size:=by simp at E;omega
      have X:m.length+(i+1)=vs.size:=by simp at F;omega
      have ih:=fb (d:=d) (x:=x) (us:=us) (vs:=vs) w B ds (i+1) l m yb h4 V X
       (λj c u Y Z=>I (j+1) c u (by simpa using Y) (by rw[← Z,show i+1+j=i+(j+1) by omega])) (λj c u Y Z=>J (j+1) c u (by simpa using Y) (by rw[← Z,show i+1+j=i+(j+1) by omega])) e2
      have a0 : f.name ≠ "_" := by intro h; rw [h] at h1; simp at h1
      simp only[Op.eqFields,vx a0,Sem.run_bind,T,U,Result.andThen_ok,k1]
      cases xb
      ·simp
      ·simpa using ih
     ·cases q
section
variable{P:Program}{c:Bool}{o:Oper}{R:Ab}{h:AS}
theorem Yw{t}{x y}{cs ds}{A}{r}{z}{a:Act}(I:Eu P t A)(E:AX z (.agg cs) (a.eval x))(F:AX z (.agg ds) (a.eval y))(J:Hq A cs ds=some r) :
  ∃us vs,a.eval x=.agg us∧a.eval y=.agg vs∧∀w,(Op.equalIn 10000 t (.agg us) (.agg vs)).run P w=.ok r w:=by
 generalize a.eval x=u at E
 generalize a.eval y=v at F
 cases E with
 | @agg _ us M l=>
  cases F with
  | @agg _ vs O q=>
   obtain⟨T,U,_,V⟩:=I
   refine⟨us,vs,rfl,rfl,λw=>?_⟩
   rw[run_equalIn_agg w 9999 t us vs T U]
   exact fb (x:=z) w _ A 0 cs ds r V M O (λj b u B C=>l j b u B (by simpa using C)) (λj b u B C=>q j b u B (by simpa using C)) J
theorem Xf{t w}{x y}{cs ds}{l}{r}(A:o.op=.binOp .eql t x y w)(q:Eu P t l)(B:Ev c R x (.agg cs))(C:Ev c R y (.agg ds))(E:Hq l cs ds=some r):AU P c o R h (.r (.bool r)):=by
 intro u z a _ _ j
 obtain⟨F,I,J,M,O⟩:=Yw q (B.rep j u) (C.rep j u) E
 refine⟨.bool r,λT _=>?_,.r (.bool _)⟩
 unfold execOp
 rw[A]
 simp only[J,M]
 simp[run_eqGuard_agg T .eql t x y F I q.2.2.1,run_eql_struct,O]
theorem KF{t w}{x y}{cs ds}{l}{r}(A:o.op=.binOp .neq t x y w)(q:Eu P t l)(B:Ev c R x (.agg cs))(C:Ev c R y (.agg ds))(E:Hq l cs ds=some r):AU P c o R h (.r (.bool (!r))):=by
 intro u z a _ _ j
 obtain⟨F,I,J,M,O⟩:=Yw q (B.rep j u) (C.rep j u) E
 refine⟨.bool (!r),λT _=>?_,.r (.bool _)⟩
 unfold execOp
 rw[A]
 simp only[J,M]
 simp[run_eqGuard_agg T .neq t x y F I q.2.2.1,run_neq_struct,O]
end
section
variable{P:Program}{ops:Array Oper}{rest:List Oper}{s:St}{K:St→Prop}{o:Oper}
theorem AN.split c(j:c=true→AN P ops rest s K)(l:c=false→AN P ops rest s K):AN P ops rest s K:=by
 cases c
 ·exact l rfl
 ·exact j rfl
theorem GM{d}{c}(E:Cd s.e ops o c)(hc:c=false)(hd:o.dst=some d)
 (F:Nat.blt d s.N=true) (I:AN P ops rest { e := (d, .whn c (.r (.bool false)))::s.e, h := s.h, n := s.n, N := s.N } K):AN P ops (o::rest) s K := by
  intro J a w ⟨_, j, hsz, y, l, q, u, M, O, C⟩ Q T
  subst l
  have A:d<a.tmps.size := by rw[hsz];exact C3 F
  refine wpList_step λU B => ?_
  rw[E.wanted C, ne (by rw[hc];decide)]
  refine B _ _ ?_
  rw[hd]
  exact I J (a.put (some d) undef) y.w ⟨_, j, by simpa[Act.put] using hsz, y, rfl, q, u, M, O, C.put A (.whn (λh => by rw[hc] at h;cases h) (λ_ => rfl))⟩ Q T
theorem vD{c}(C:Cd s.e ops o c)(hc:c=false)(hd:o.dst=none)(E:AN P ops rest s K):AN P ops (o::rest) s K:=by
 intro F a w ⟨_,j,hsz,y,l,q,u,I,J,B⟩ Q M
 subst l
 refine wpList_step λO A=>?_
 rw[C.wanted B,ne (by rw[hc];decide)]
 refine A _ _ ?_
 rw[hd]
 exact E F (a.put none undef) y.w ⟨_,j,hsz,y,rfl,q,u,I,J,B⟩ Q M
end
section
variable{P:Program}
def Mp(G:ResultVar→AV→Prop):List ResultVar→List AV→Prop
 | [],[]=>True
 | x::l,r::j=>G x r∧Mp G l j
 | _,_=>False
def MY(G:ResultVar→AV→Prop)(j:List ResultVar)(r:AV):Prop:=match j with
 | [x]=>G x r
 | _=>∃l,r=.tup l∧Mp G j l
theorem Mp.get{G}{j:List ResultVar}{l:List AV}(h:Mp G j l):j.length=l.length∧∀(i:Nat) (x:ResultVar),j[i]?=some x→∃r,l[i]?=some r∧G x r:=by
 induction j generalizing l with
 | nil=>cases l with | nil=>exact⟨rfl,by simp⟩ | cons _ _=>exact h.elim
 | cons x j u=>
  cases l with
  | nil=>exact h.elim
  | cons r l=>
   obtain⟨w,A⟩:=u h.2
   refine⟨by simp[w],λi y q=>?_⟩
   cases i with
   | zero=>simp at q;subst q;exact⟨r,rfl,h.1⟩
   | succ i=>simpa using A i y (by simpa using q)
theorem eE{fn:Func}{y z:Cx}{a:Act}{r}(G:ResultVar→AV→Prop)(hG:∀x r,G x r→∃u,AX z r u∧(GD a.tmps x).run P y.w=.ok u y.w)(w:MY G fn.results.toList r):∃u,(results fn a.tmps).run P y.w=.ok u y.w∧AX z r u:=by
 by_cases B:fn.results.toList.length=1
 ·obtain⟨x0,J⟩:=List.length_eq_one_iff.1 B
  rw[J] at w
  obtain⟨u,hr,C⟩:=hG x0 r w
  have q:=Sk (P:=P) (fn:=fn) (tmps:=a.tmps) (w:=y.w) [u] (λi x V=>by
   have j:fn.results.toList[i]?=some x:=by simpa using V
   rw[J] at j
   cases i with
   | zero=>simp at j;subst j;exact⟨u,rfl,C⟩
   | succ i=>simp at j) (by rw[← xG,B];rfl)
  exact⟨_,q,hr⟩
 ·have Z:∃l,r=.tup l∧Mp G fn.results.toList l:=by
   revert w B
   generalize fn.results.toList=rs
   intro w B
   match rs,B,w with
   | [],_,w=>exact w
   | [_],B,_=>exact absurd rfl B
   | _::_::_,_,w=>exact w
  obtain⟨l,rfl,M⟩:=Z
  obtain⟨hl,hg⟩:=M.get
  have E:∀i,i<l.length→∃u,∀x r,fn.results.toList[i]?=some x→l[i]?=some r→AX z r u∧(GD a.tmps x).run P y.w=.ok u y.w:=by
   intro i V
   have O:i<fn.results.toList.length:=by omega
   obtain⟨r,X,h3⟩:=hg i _ (wB O)
   obtain⟨u,h4,h5⟩:=hG _ _ h3
   refine⟨u,λx r' T Y=>?_⟩
   rw[wB O] at T;cases T
   rw[X] at Y;cases Y
   exact⟨h4,h5⟩
  obtain⟨I,F,U⟩:=YE l.length E
  have hsz:I.length=fn.results.size:=by rw[F,← hl,xG]
  have q:=Sk (P:=P) (fn:=fn) (tmps:=a.tmps) (w:=y.w) I (λi x V=>by
   have j:fn.results.toList[i]?=some x:=by simpa using V
   obtain⟨r,X,_⟩:=hg i x j
   have A:i<I.length:=by rw[F];exact(wA.1 X).1
   exact⟨I[i],wB A,(U i _ (wB A) x r j X).2⟩) hsz
  have a0:¬ I.toArray.size=1:=by
   rw[yc,hsz]
   exact λe=>B (by rw[xG];exact e)
  rw[dif_neg a0] at q
  refine⟨_,q,.tup (by rw[yc,F]) λi c u T Y=>?_⟩
  have k3:I[i]?=some u:=by simpa using Y
  have A:i<fn.results.toList.length:=by rw[hl];exact(wA.1 T).1
  exact(U i u k3 _ c (wB A) T).1
def D3(P:Program)(s:St):ResultVar→AV→Prop
 | .tmp t,r=>Fz s.h (get s.e t) r
 | .cell a t,r=>(∃id g e c,Bh P t∧get s.e a=.ptr id g 0 0∧hget s.h id=some (.box g e [c])∧Fz s.h c r)∨(∃sz id g e j,Bj P t sz∧get s.e a=.ptr id g 0 0∧hget s.h id=some (.box g e j)∧j.length=sz∧Fz s.h (.agg j) r)
theorem D3.rep{y:Cx}(w:y.ok){s:St}(B:y.H=hget s.h){a:Act}(F:CK y s.e a)(x:ResultVar)(r:AV)(hr:D3 P s x r):∃u,AX y.frozen r u∧(GD a.tmps x).run P y.w=.ok u y.w:=by
 cases x with
 | tmp t=>exact⟨_,Fz.rep w B hr (F t),rfl⟩
 | cell c t=>
  rcases hr with ⟨id,g,e,v,I,J,M,O⟩ | ⟨sz,id,g,e,cs,I,J,M,hl,O⟩
  ·have A:y.H id=some (.box g e [v]):=by rw[B];exact M
   have C:=F c
   rw[J] at C
   obtain⟨b,l,k1,T,U,k4,V⟩:=IX w A C
   obtain⟨u,X,_,Y⟩:=V 0 v rfl
   refine⟨u,Fz.rep w B O Y,?_⟩
   obtain⟨d,i,e1,e2,_,_⟩:=I
   have q:=(cell_of_row _ b 0 l e _ U).trans X
   simp only[GD,T]
   simp[asAddr,loadVar,KT e1,e2,q]
  ·have A:y.H id=some (.box g e cs):=by rw[B];exact M
   have C:=F c
   rw[J] at C
   obtain⟨b,l,k1,T,U,k4,V⟩:=IX w A C
   have q:∀j,j<sz→y.w.cell? ⟨b,0+j,none⟩=some ((λj=>l.getD j undef) j):=by
    intro j hj
    have Z:j<l.size:=by omega
    rw[wY,cell_of_row _ b j l e _ U]
    simp[Z]
   refine⟨.agg ((List.range sz).map λj=>l.getD j undef).toArray,Fz.rep w B O (MU hl _ λj a hj=>?_),?_⟩
   ·obtain⟨u,X,_,Y⟩:=V _ _ hj
    obtain⟨h8,h9⟩:=ww.1 X
    simpa[h8,h9] using Y
   ·have E:=Nt (P:=P) I (w:=y.w) (b:=b) (k:=0) (λj=>l.getD j undef) q
    simp only[GD,T]
    simpa[asAddr,Instr.loadAt,Instr.sureAddr] using E
def Fq(P:Program)(j:List ResultVar)(r:AV):Exit→St→Prop
 | .normal,s | .ret,s=>MY (D3 P s) j r
 | _,_=>False
theorem vE {f} {fn : Func} {code} {args : List AV} {r : AV} {N} (Z : P.funcs[f]? = some fn) (hb : fn.body = some code) (F : (fn.name == "runtime.NumGoroutine") = false) (hN : fn.ntmps = N) (hr : r.closed = true)
 (a0:args.length≤N) (hw:∀n0, AW P code (Fq P fn.results.toList r) ⟨Db 0 args, [], n0, N⟩):AO P f args r := by
  refine⟨⟨fn, Z, by rw[hb];rfl, F⟩, hr, λx C I hH w => ?_⟩
  have Y:C.size=args.length := by simpa using w.1
  have J:ES x ⟨Db 0 args, [], x.n, N⟩ { tmps := C++Array.replicate (fn.ntmps - C.size) undef, defers := [] } x.w := by
    refine⟨_, rfl, by simp;omega, x, rfl, .refl x, I, by rw[hH];rfl, rfl, λt => ?_⟩
    rcases SR args 0 t with T | ⟨j, a, T, U, h3⟩
    · rw[T];exact .any _
    · rw[h3]
      have hj:j<C.size := by rw[Y];exact(wA.1 U).1
      have ht:t=j := by omega
      subst ht
      have:(C++Array.replicate (fn.ntmps - C.size) undef).getD t undef=C[t] := by
        simp[Array.getD, hj]
        omega
      rw[this]
      exact w.2 t a C[t] U (by simp[hj])
  have M:∀ {e:Exit} {a:Act} {y:Cx} {s:St}, MY (D3 P s) fn.results.toList r→x.le y→y.ok→y.H=hget s.h→y.n=s.n→CK y s.e a→∃u, (results fn a.tmps).run P y.w=.ok u y.w∧∃u' V, Ending.returned u=.returned u'∧V.w=y.w∧x.le V∧V.ok∧AX V r u' := by
    intro e a y s E A q B _ X
    obtain⟨u, T, U⟩ := eE (P := P) (fn := fn) (y := y) (z := y.frozen) (a := a) (D3 P s) (λx r h => D3.rep q B X x r h) E
    exact⟨u, T, u, y.frozen, rfl, rfl, A.trans Yc, Uq q, U⟩
  refine T8 Z hb I J (hw x.n) λe s a y E A q B O X => ?_
  cases e with
  | normal => exact⟨.inl rfl, M (e := .normal) E A q B O X⟩
  | ret => exact⟨.inr rfl, M (e := .ret) E A q B O X⟩
  | exit id => exact E.elim
  | goto l => exact E.elim
  | panic ch => exact E.elim
  | outgrown => exact E.elim
theorem D3.t{s:St}{t}{r}(h:Fz s.h (get s.e t) r):D3 P s (.tmp t) r:=h
theorem D3.a{s:St}{a t id g e sz}{cs:List AV}{r}(j:Bj P t sz)(l:get s.e a=.ptr id g 0 0)(q:hget s.h id=some (.box g e cs))(u:cs.length=sz)(h:Fz s.h (.agg cs) r):D3 P s (.cell a t) r:=.inr ⟨_,_,_,_,_,j,l,q,u,h⟩
end
theorem Cz{ρ:Type}{P}{T r}{x}{s}{j}(l:ρ→AV)(e:some T=some r)(u:x=.ret∨x=.normal)(q:D3 P s j (l T)):Fq P [j] (l r) x s:=by
 cases e
 rcases u with rfl | rfl
 ·exact q
 ·exact q
theorem DD{ρ:Type}{P}{T r}{x}{s}{j l}(q:ρ→AV)(u:ρ→AV)(e:some T=some r)(B:x=.ret∨x=.normal)(w:D3 P s j (q T))(A:D3 P s l (u T)):Fq P [j,l] (.tup [q r,u r]) x s:=by
 cases e
 rcases B with rfl | rfl
 ·exact⟨_,rfl,⟨w,A,trivial⟩⟩
 ·exact⟨_,rfl,⟨w,A,trivial⟩⟩
theorem IG{ρ:Type}{P}{T r}{x}{s}{j l q}(u:ρ→AV)(w:ρ→AV)(A:ρ→AV)(e:some T=some r)(F:x=.ret∨x=.normal)(B:D3 P s j (u T))(C:D3 P s l (w T))(E:D3 P s q (A T)):Fq P [j,l,q] (.tup [u r,w r,A r]) x s:=by
 cases e
 rcases F with rfl | rfl
 ·exact⟨_,rfl,⟨B,C,E,trivial⟩⟩
 ·exact⟨_,rfl,⟨B,C,E,trivial⟩⟩
theorem Fz.d{h}{a}{d}(e:a=.r d):Fz h a (.r d):=by subst e;exact .one (.closed _ rfl)
theorem Fz.g{h}{a}{cs:List RV}{ds}(e:a=.agg ds)(e2:ds=cs.map .r):Fz h a (.agg ds):=by subst e;subst e2;exact .one (.closed _ (nJ _))
theorem Eu.of{P:Program}{t}{j:Array Field}{ds}(l:P.underlying t=some (.struct j))(q:P.stoodInHeld t=false)(u:P.eqGuardType P.depth t=false)(w:QG P 0 j.toList ds):Eu P t ds:=by
 have:P.fieldsOf t=j:=by unfold Program.fieldsOf;rw[l]
 exact⟨by rw[this];exact l,q,u,by rw[this];exact w⟩
open Go.ChangeShapes Go.WideShapes Go.Deep Go.WideElems Go.RowKit
section
variable{H:Type}{enc:TypeId × Value→H}{P:Program}{W:World}
end
end Go.Proofs.YtdafahjmopdleaaGreatDoor.Al

namespace Go.Proofs.YtdafahjmopdleaaGreatDoor.Al
open Go.ChangeShapes Go.WideShapes Go.Deep Go.WideElems Go.RowKit
structure Gj(H:Type) where
 B:DataW H→Nat
 one:∀d,1≤B d
 str:∀s:List UInt8,s.length+1≤B (.lit (.string s))
 sl:∀l r,(l.map B).sum+1≤B (.slice l r)
 agg:∀l,(l.map B).sum+1≤B (.agg l)
section
variable{H:Type}{enc:TypeId × Value→H}{P:Program}{W:World}(K:Gj H)
def Bb(enc:TypeId × Value→H)(P:Program)(W:World)(t:TypeId){α:Type}(f:α→List RV)(ok:α→Prop)(μ:α→Nat):Prop:=
 ∀(j:Nat) (l:List Value) (x:DataW H × List MemPlace),DataW.trod enc P W 0 (λ_=>true) true j t l=some x→∃a,ok a∧Rd W l (f a)∧μ a≤K.B x.1
theorem Bb.int{t}{k}(l:P.underlying t=some (.int k)):Bb K enc P W t (λn:Int=>[.int k n]) (λn=>(Lit.int k n).wf=true) (λ_=>1):=by
 intro j u x h
 obtain⟨n,rfl,_,q⟩:=DataW.trod_int l h
 exact⟨n,q,.one (.int k n),K.one _⟩
theorem Bb.str{t}(l:P.underlying t=some .string):Bb K enc P W t (λs:List UInt8=>[.str s]) (λs=>s.length≤maxLen) (λs=>s.length+1):=by
 intro j u x h
 obtain⟨s,rfl,rfl,q⟩:=DataW.trod_string l h
 exact⟨s.data.toList,by simpa using q,.one (.str s),K.str _⟩
theorem qC{α β:Type}{l:List α}{m:List β}{f:α→Nat}{g:β→Nat}(j:l.length=m.length)(h:∀(i:Nat) (a:α) (b:β),l[i]?=some a→m[i]?=some b→f a≤g b):(l.map f).sum≤(m.map g).sum:=by
 induction l generalizing m with
 | nil=>simp
 | cons a l u=>
  cases m with
  | nil=>simp at j
  | cons b m=>
   have A:=h 0 a b rfl rfl
   have q:=u (m:=m) (by simpa using j) (λi a b q w=>h (i+1) a b (by simpa using q) (by simpa using w))
   simp only[wS,xK]
   omega
theorem Bb.slice{t e}{sz}{α:Type}{f}{ok}{μ}(ht:P.underlying t=some (.slice e))(hc:P.cellsOf e=sz)(h0:0<sz)(h:Bb K enc P W e f ok μ)(hf:∀a,(f a).length=sz) :
  Bb K enc P W t (λl:List α=>[.sl (l.map f)]) (λl=>l.length≤maxLen∧∀a∈l,ok a) (λl=>(l.map μ).sum+1):=by
 intro aa cs x hx
 subst hc
 rcases open_slice ht hx with ⟨rfl,_⟩ | ⟨a,len,cap,m,n,D,Pl,rfl,_,hl,hm,a0,rfl,X⟩
 ·exact⟨[],⟨yS _,λ_ h=>by cases h⟩,.one .snil,K.one _⟩
 simp only[xm] at a0
 have F:∀i,i<len→∃b,ok b∧μ b≤K.B (D i)∧∀j d,(f b)[j]?=some d→∃u,W.cell? ((a.add (i * P.cellsOf e)).add j)=some u∧Bl W (· < W.heap.size) d u:=by
  intro i J
  obtain⟨A,q,w⟩:=X i (by omega)
  obtain⟨b,M,Y,hμ⟩:=h n _ _ w
  obtain⟨_,h3,h4⟩:=World.cells?_some q
  refine⟨b,M,hμ,λj d hj=>?_⟩
  have a1:j<(f b).length:=(wA.1 hj).1
  have I:j<A.length:=by rw[Y.1];exact a1
  refine⟨A[j],?_,Y.2 j d _ hj (wB I)⟩
  rw[h4 j (by rw[← h3];exact I)]
  exact wB I
 obtain⟨l,B,hq⟩:=YE len F
 have a2:∀b∈l,ok b:=λb M=>by
  obtain⟨i,X⟩:=yq.1 M
  exact(hq i b X).1
 have hμ:(l.map μ).sum+1≤K.B (.slice ((List.range len).map D) ((List.range (m-len)).map λj=>D (len+j))):=by
  refine w0 ?_ (K.sl _ _)
  have:=qC (l:=l) (m:=(List.range len).map D) (f:=μ) (g:=K.B) (by simpa using B) (λi a b q w=>by
   have J:i<len:=by rw[← B];exact(wA.1 q).1
   rw[wd,List.getElem?_range J] at w
   cases w
   exact(hq i a q).2.1)
  omega
 have C:∀i b,l[i]?=some b→∀j d,(f b)[j]?=some d→∃u,W.cell? ((a.add (i * P.cellsOf e)).add j)=some u∧Bl W (· < W.heap.size) d u:=λi b M=>(hq i b M).2.2
 refine⟨l,⟨by rw[B];omega,a2⟩,.one ?_,hμ⟩
 subst B
 by_cases a6:cap=0
 ·have:l=[]:=xf (by omega)
  subst this;subst a6
  exact .sl0 a
 ·obtain⟨A,q,_⟩:=X 0 (by omega)
  obtain⟨_,h3,h4⟩:=World.cells?_some q
  have a7:∃u,W.cell? a=some u:=by
   have:=h4 0 h0
   rw[zk,show(a.add 0).add 0=a from rfl] at this
   exact⟨A[0]'(by omega),this.trans (wB (by omega))⟩
  obtain⟨u0,E⟩:=a7
  obtain⟨b,off,O⟩:=a
  have a8:O=none:=World.cell?_spot E
  subst a8
  have T:b<W.heap.size:=by
   unfold World.cell? at E
   rcases yV b W.heap.size with h | h
   ·exact h
   ·rw[zE h] at E;cases E
  have U:∀i j,((⟨b,off,none⟩:Addr).add (i * P.cellsOf e)).add j=⟨b,off+i * P.cellsOf e+j,none⟩:=λi j=>by rw[Addr.add_lit,Addr.add_lit]
  have hu:∀(i:Nat) (row:List RV) (c:Nat) (d:RV),(l.map f)[i]?=some row→row[c]?=some d→∃u,W.cell? ⟨b,off+i * P.cellsOf e+c,none⟩=some u∧Bl W (· < W.heap.size) d u:=by
   intro i row c d q w
   rw[wd,wW] at q
   obtain⟨z,V,rfl⟩:=q
   obtain⟨u,Z,h7⟩:=C i z V c d w
   rw[U] at Z
   exact⟨u,Z,h7⟩
  have:=Bl.sl (w:=W) (S:=(· < W.heap.size)) b off (l.map f) cap (P.cellsOf e) (λi c=>(W.cell? ⟨b,off+i * P.cellsOf e+c,none⟩).getD undef) (λ_=>T) (by simpa using hl) hm
   (λrow Y=>by obtain⟨z,_,rfl⟩:=xY.1 Y;exact hf z)
   (λi row c d q w=>by obtain⟨u,V,_⟩:=hu i row c d q w;rw[V];rfl)
   (λi row c d q w=>by obtain⟨u,V,Z⟩:=hu i row c d q w;rw[V];exact Z)
  rwa [wN] at this
theorem Ix{t}{u:Array Field}{n}{l}{cs:List Value}{x}(E:P.underlying t=some (.struct u))(hC:P.cellsOf t=n)
 (h:DataW.trod enc P W 0 (λ_ => true) true l t cs=some x) :
    cs.length=n∧∃xs:List (DataW H × List MemPlace), x.1=.agg (xs.map (·.1))∧xs.length=u.size ∧
      ∀(j:Nat) (f:Field), u[j]?=some f→∃(y:DataW H × List MemPlace) (m:Nat), xs[j]?=some y∧DataW.trod enc P W 0 (λ_ => true) true m f.type ((cs.drop f.offset).take (P.cellsOf f.type))=some y := by
  obtain⟨w, F, I, rfl, q, A, J⟩ := DataW.trod_struct E h
  refine⟨q.trans hC, w, rfl, A, λj f B => ?_⟩
  have M:j<u.size := (ww.1 B).1
  have O := J j f B
  have C:w[j]?=some w[j] := wB (by omega)
  exact⟨w[j], F, C, O.trans C⟩
theorem Rd.part{cs:List Value}{off k jj}{row}{d}{u}(h:Rd W ((cs.drop off).take k) row)(j:Nat.blt jj k=true)(l:row[jj]?=some d)(q:cs[off+jj]?=some u):Bl W (· < W.heap.size) d u:=by
 refine h.2 jj d u l ?_
 rw[xh,vx (C3 j),xW]
 exact q
theorem si{t:TypeId}{α:Type}{q:α→RV}{ok:α→Prop}{μ:α→Nat}{v:Value}{d:DataW H}{p:List MemPlace}(w:Bb K enc P W t (λa:α=>[q a]) ok μ)(A:v.cells = #[v])
  (h:DataW.Trod enc P W 0 (λ_=>true) true t v d p):∃a,ok a∧Bl W (· < W.heap.size) (q a) v∧μ a≤K.B d:=by
 obtain⟨j,B⟩:=h
 obtain⟨l,C,u,E⟩:=w j _ _ B
 rw[A] at u
 exact⟨l,C,u.2 0 _ _ rfl rfl,E⟩
theorem Z3{t}{v}{d}{p}{r}{b0}(l:P.underlying t=some .string)(j:Value.okWide P W r b0 t v)(h:DataW.Trod enc P W 0 (λ_=>true) true t v d p) :
  ∃s:List UInt8,s.length≤maxLen∧Bl W (· < W.heap.size) (.str s) v∧s.length+1≤K.B d:=by
 obtain⟨s,rfl⟩:=okWide_string l j
 exact si K (Bb.str K l) rfl h
end
end Go.Proofs.YtdafahjmopdleaaGreatDoor.Al

namespace Go.Proofs.YtdafahjmopdleaaGreatDoor.Al
theorem I1{α:Type}{l q:List α}(w:l.length=q.length)(h:∀(j:Nat) (y:α),q[j]?=some y→l[j]?=some y):l=q:=by
 apply List.ext_getElem? 
 intro i
 rcases yV i q.length with u | u
 ·rw[h i _ (wB u),wB u]
 ·rw[zR u,zR (by omega)]
theorem Np{α:Type}{μ}(h:∀x,1≤μ x)(l:List α):l.length≤(l.map μ).sum:=by
 induction l with
 | nil=>simp
 | cons a l j=>have:=h a;simp only[wK,wS,xK];omega
theorem IK{α:Type}{μ:α→Nat}{l:List α}{a:α}(h:a∈l):μ a≤(l.map μ).sum:=by
 induction l with
 | nil=>cases h
 | cons b l j=>
  simp only[wS,xK]
  rcases wM.1 h with rfl | h
  ·omega
  ·have:=j h;omega
def Cg(k:IntKind)(a b:Int):Int:=k.wrap (BitVec.ofInt k.bits a &&& BitVec.ofInt k.bits b).toNat
def EZ(k:IntKind)(a b:Int):Int:=k.wrap (BitVec.ofInt k.bits a ||| BitVec.ofInt k.bits b).toNat
def VU(k:IntKind)(a b:Int):Int:=k.wrap (BitVec.ofInt k.bits a ^^^ BitVec.ofInt k.bits b).toNat
def QD(k:IntKind)(a b:Int):Int:=k.wrap (BitVec.ofInt k.bits a &&& ~~~BitVec.ofInt k.bits b).toNat
def D9(k:IntKind)(a:Int)(n:Nat):Int:=k.wrap (a * 2 ^ (min n k.bits))
def FZ(k:IntKind)(a:Int)(n:Nat):Int:=a.fdiv (2 ^ (min n k.bits))
def Gp(s:List UInt8)(p:Nat):Nat × Nat:=Utf8.decode ⟨s.toArray⟩ p
def Sx(s:List UInt8):Option Bool:=if s.length≤9223372036854775807 then some (Lib.validD s) else none
open Go.Shelf Go.Proofs
def qA:Go.Shelf.Ren:=⟨fun | 196=>215 | 259=>242 | n=>n,fun | 9=>9 | 4=>4 | 3=>3 | 5=>5 | 12=>12 | 119=>203 | 0=>0 | 46=>128 | 139=>206 | 138=>205 | 53=>291 | n=>n,fun | 3=>0 | 4=>1 | n=>n⟩
theorem tj:Go.Proofs.Lays.n196 Tryz.prog qA:={
 mixed:=by kernel_rfl
 f196:=Tryz.func215.trans (yZ some (by kernel_rfl))
 f259:=Tryz.func242.trans (yZ some (by kernel_rfl))
 t0:=Tryz.underlying0
 a0:=Tryz.isAgg0
 z0:=Tryz.sizeOf0
 v0:=Tryz.zeroValue0
 t3:=Tryz.underlying3
 a3:=Tryz.isAgg3
 z3:=Tryz.sizeOf3
 v3:=Tryz.zeroValue3
 t4:=Tryz.underlying4
 a4:=Tryz.isAgg4
 z4:=Tryz.sizeOf4
 v4:=Tryz.zeroValue4
 t5:=Tryz.underlying5
 a5:=Tryz.isAgg5
 z5:=Tryz.sizeOf5
 v5:=Tryz.zeroValue5
 t9:=Tryz.underlying9
 a9:=Tryz.isAgg9
 z9:=Tryz.sizeOf9
 v9:=Tryz.zeroValue9
 t12:=Tryz.underlying12
 a12:=Tryz.isAgg12
 z12:=Tryz.sizeOf12
 v12:=Tryz.zeroValue12
 t46:=Tryz.underlying128
 a46:=Tryz.isAgg128
 z46:=Tryz.sizeOf128
 v46:=Tryz.zeroValue128
 t53:=Tryz.underlying291
 a53:=Tryz.isAgg291
 z53:=Tryz.sizeOf291
 v53:=Tryz.zeroValue291
 t119:=Tryz.underlying203
 a119:=Tryz.isAgg203
 z119:=Tryz.sizeOf203
 t138:=Tryz.underlying205
 a138:=Tryz.isAgg205
 z138:=Tryz.sizeOf205
 v138:=Tryz.zeroValue205
 t139:=Tryz.underlying206
 a139:=Tryz.isAgg206
 z139:=Tryz.sizeOf206
 v139:=Tryz.zeroValue206
 g3:=by kernel_rfl
 g4:=by kernel_rfl }
end Go.Proofs.YtdafahjmopdleaaGreatDoor.Al

namespace Go.Proofs.YtdafahjmopdleaaGreatDoor.Al
section
variable{P:Program}{ops:Array Oper}{md:Region.Mode}{Q:Exit→Act→World→Prop}{S:World→Prop}
def LR(P:Program)(md:Region.Mode)(ops:Array Oper)(Q:Exit→Act→World→Prop)(S:World→Prop)(L:Array Bool→Act→World→Prop):Nat→Array Bool→Act→World→Prop
 | 0,j,a,w=>L j a w
 | f+1,j,a,w=>Region.ready md ops j≠[]∧∀i∈Region.ready md ops j,wpOp P ops Q i (λl w'=>S w'∧LR P md ops Q S L f (j.setIfInBounds i true) l w') a w
theorem er{g}{L}(j:∀listed a w,L listed a w→wpAny P md ops Q g listed a w) :
  ∀(f:Nat) (listed:Array Bool) (a:Act) (w:World),LR P md ops Q S L f listed a w→wpAny P md ops Q (f+g) listed a w
 | 0,listed,a,w,h=>by rw[wY];exact j _ _ _ h
 | f+1,listed,a,w,h=>by
  rw[show f+1+g=(f+g)+1 by omega]
  exact⟨λl=>absurd l h.1,λi q=>wpOp_mono (λu w' A=>er j f _ u w' A.2) (h.2 i q)⟩
structure HI(md:Region.Mode)(ops:Array Oper)(n:Nat)(l0 listed:Array Bool):Prop where
 size:listed.size=ops.size
 closed:∀j oj,ops[j]?=some oj→listed.getD j false=true→l0.getD j false=true∨∀e∈oj.after,Region.binds md e=true→listed.getD e.on false=true
 tail:∀t,n≤t→t<ops.size→listed.getD t true=false
 mono:∀j,l0.getD j false=true→listed.getD j false=true
theorem HI.set{n i}{l0 listed:Array Bool}(l:HI md ops n l0 listed)(J:i∈Region.ready md ops listed)(M:i<n):HI md ops n l0 (listed.setIfInBounds i true):=by
 obtain⟨_,O,A,q⟩:=mem_ready.1 J
 refine⟨by simp[l.size],λj F w I=>?_,λt T B=>by rw[getD_set_ne true (by omega)];exact l.tail t T B,λj w=>getD_set_true (l.mono j w)⟩
 by_cases u:i=j
 ·subst u
  have:F=O:=wo (w.symm.trans A)
  subst this
  exact .inr λe C E=>getD_set_true (q e C E)
 ·rw[getD_set_ne false u] at I
  rcases l.closed j F w I with h | h
  ·exact .inl h
  ·exact .inr λe C E=>getD_set_true (h e C E)
def UG(md:Region.Mode)(ops:Array Oper)(n:Nat)(l0:Array Bool):Bool:=
 (List.range n).all λi=>l0.getD i false||(List.range (n+1)).any λj=>(i<j)&&!l0.getD j false&&Region.waitsFor md ops j i
theorem bO{n}{l0 listed:Array Bool}(hs:UG md ops n l0=true)(hc:Region.chainB md ops n=true)(hn:n<ops.size)(q:HI md ops n l0 listed) :
  ∀(d i:Nat),n-i=d→i<n→listed.getD i true=false→∀t,n≤t→t ∉ Region.ready md ops listed:=by
 intro d
 induction d using Nat.strongRecOn with
 | _ d ih=>
  intro i hd hi C t ht X
  obtain⟨_,Y,hot,A⟩:=mem_ready.1 X
  have E:t<ops.size:=(ww.1 hot).1
  by_cases M:t=n
  ·subst M
   have l:=wT.1 hs i (wh.2 hi)
   rw[wF] at l
   rcases l with l | l
   ·have:=q.mono i l
    rw[getD_both C] at this;cases this
   obtain⟨j,hj,u⟩:=yy.1 l
   simp only[v7,vy,wz] at u
   obtain⟨Z,F,e,I,J,w⟩:=Region.waitsFor_spec u.2
   have a0:j≤t:=by have:=wh.1 hj;omega
   by_cases O:j=t
   ·subst O
    have:Z=Y:=wo (F.symm.trans hot)
    subst this
    have B:=A e I J
    rw[w,getD_both C] at B
    cases B
   ·cases hl:listed.getD j false with
    | true=>
     rcases q.closed j Z F hl with T | T
     ·rw[T] at u;cases u.1.2
     ·have B:=T e I J
      rw[w,getD_both C] at B
      cases B
    | false=>
     have U:j<listed.size:=by rw[q.size];omega
     exact ih (t-j) (by omega) j rfl (by omega) (getD_in U hl) t (wL _) X
  ·have l:=wT.1 hc t (wh.2 E)
   simp only[wF,vy] at l
   rcases l with l | l
   ·omega
   ·obtain⟨o',V,e,I,J,w⟩:=Region.waitsFor_spec l
    have:o'=Y:=wo (V.symm.trans hot)
    subst this
    have B:=A e I J
    rw[w,getD_both (q.tail (t-1) (by omega) (by omega))] at B
    cases B
theorem jR{n i}{I:Oper}{v}{l0}{L}(hi:ops[i]?=some I)(C:∀(j:Nat) (o:Oper) U b, ops[j]?=some o→o.op≠.select U b)
 (hQ:∀c a w, Q (.panic c) (a.put I.dst v) w→Q (.panic c) a w) (hs:UG md ops n l0=true) (hc:Region.chainB md ops n=true) (hn:n<ops.size) (V:i<n)
 (J:∀listed a w, L listed a w→∀j ∈ Region.ready md ops listed, n≤j) :
    ∀(f:Nat) (listed:Array Bool) (a:Act) (w:World), HI md ops n l0 listed →
      (∀j M, ops[j]?=some M→j≠i→listed.getD j true=false→(∀e ∈ M.after, Region.binds md e=true→e.on≠i)→I.apart ops M=true) →
      i ∈ Region.ready md ops listed→YieldsIf P ops S I v a→S w →
      LR P md ops Q S L f (listed.setIfInBounds i true) (a.put I.dst v) w→LR P md ops Q S L (f+1) listed a w := by
  intro f
  induction f with
  | zero =>
    intro listed a w A _ E hy X H
    have q := (mem_ready.1 E).1
    refine⟨λh => (by rw[h] at E;cases E), λj O => ?_⟩
    have Y:j<n := by
      rcases yV j n with h | h
      · exact h
      · exact absurd O (bO hs hc hn A _ i rfl V q j h)
    by_cases l:j=i
    · subst l;exact hy.wpOp hi X ⟨X, H⟩
    · have := J _ _ _ H j (ready_mono O l)
      omega
  | succ f ih =>
    intro listed a w A u E hy X H
    have q := (mem_ready.1 E).1
    refine⟨λh => (by rw[h] at E;cases E), λj O => ?_⟩
    have Y:j<n := by
      rcases yV j n with h | h
      · exact h
      · exact absurd O (bO hs hc hn A _ i rfl V q j h)
    by_cases l:j=i
    · subst l;exact hy.wpOp hi X ⟨X, H⟩
    · have h1 := H.2 j (ready_mono O l)
      obtain⟨F, M, T, Z⟩ := mem_ready.1 O
      have a0:∀e ∈ M.after, Region.binds md e=true→e.on≠i := λe he hb heq => by
        have h1 := Z e he hb
        rw[heq, getD_both q] at h1
        cases h1
      have h2 := wpOp_putIf T (u j M T l F a0) (λU b => C i I U b hi) (λU b => C j M U b T) hQ hy h1
      have B:∀k ok, ops[k]?=some ok→k≠i→(listed.setIfInBounds j true).getD k true=false →
          (∀e ∈ ok.after, Region.binds md e=true→e.on≠i)→I.apart ops ok=true := λk ok hk a2 q a6 => by
        refine u k ok hk a2 ?_ a6
        by_cases a1:j=k
        · subst a1;exact F
        · rw[getD_set_ne true a1] at q;exact q
      refine wpOp_mono (λa' w' h3 => ⟨h3.2.1, ih (listed.setIfInBounds j true) a' w' (A.set O Y) B (ready_mono E (Ne.symm l)) h3.1 h3.2.1 ?_⟩) h2
      rw[Array.setIfInBounds_comm _ _ l]
      exact h3.2.2
def KR(md:Region.Mode)(ops:Array Oper):List Nat→Array Bool→Bool
 | [],_=>true
 | i::l,j=>(Region.ready md ops j).contains i&&Region.free md ops j i&&KR md ops l (j.setIfInBounds i true)
def Ud(md:Region.Mode)(ops:Array Oper):List Nat→Array Bool→Bool
 | [],_=>true
 | i::l,j=>(Region.ready md ops j=[i])&&Ud md ops l (j.setIfInBounds i true)
def EI(listed:Array Bool)(j:List Nat):Array Bool:=j.foldl (λl i=>l.setIfInBounds i true) listed
def Oo(P:Program)(ops:Array Oper)(S:World→Prop)(j:Act→Prop):List Oper→Act→Prop
 | [],a=>j a
 | o::rest,a=>∃v,YieldsIf P ops S o v a∧Oo P ops S j rest (a.put o.dst v)
def U7(P:Program)(ops:Array Oper)(Q:Exit→Act→World→Prop)(S:World→Prop)(j:Act→World→Prop):List Oper→Act→World→Prop
 | [],a,w=>j a w
 | o::rest,a,w=>o.guard=none∧o.wp P a w (λl w'=>S w'∧U7 P ops Q S j rest l w') Q
def X1(Q:Exit→Act→World→Prop):Prop:=∀c a w,¬ Q (.panic c) a w
theorem fx(j:Region.noSelect ops=true)(B:X1 Q){f} : ∀(q:List Nat) (l:List Oper) (listed:Array Bool) (a:Act) (w:World),q.map (λi=>ops[i]?)=l.map some→KR md ops q listed=true →
  Oo P ops (λ_=>True) (λa'=>wpAny P md ops Q f (EI listed q) a' w) l a→wpAny P md ops Q (f+q.length) listed a w
 | [],[],listed,a,w,_,_,h=>h
 | [],_::_,_,_,_,h,_,_=>by cases h
 | _::_,[],_,_,_,h,_,_=>by cases h
 | i::q,o::l,listed,a,w,u,hB,⟨v,C,h⟩=>by
  simp only[KR,v7] at hB
  obtain⟨⟨E,F⟩,A⟩:=hB
  simp only[wS,zU] at u
  have:=fx j B q l (listed.setIfInBounds i true) (a.put o.dst v) w u.2 A h
  rw[wK,← yF]
  refine wpAny_take u.1 j F E (λc a w h=>absurd h (B _ _ _)) ?_ this
  exact C.imp (λ⟨I,J⟩=>⟨I,λw=>J w trivial⟩) id
theorem cP{n:Nat}{l0:Array Bool}{L:Array Bool→Act→World→Prop} : ∀(q:List Nat) (l:List Oper) (listed:Array Bool) (a:Act) (w:World),q.map (λi=>ops[i]?)=l.map some→Ud md ops q listed=true →
  U7 P ops Q S (λa' w'=>L (EI listed q) a' w') l a w→LR P md ops Q S L q.length listed a w
 | [],[],listed,a,w,_,_,h=>h
 | [],_::_,_,_,_,h,_,_=>by cases h
 | _::_,[],_,_,_,h,_,_=>by cases h
 | i::q,o::l,listed,a,w,u,hB,⟨hg,h⟩=>by
  simp only[Ud,v7,vy] at hB
  simp only[wS,zU] at u
  refine⟨by rw[hB.1];simp,λj A=>?_⟩
  rw[hB.1] at A
  have:j=i:=by simpa using A
  subst this
  unfold wpOp
  simp only[u.1]
  rw[vx (by simp[Region.wanted,hg])]
  exact .inl (Oper.wp_mono (λa' w' B=>⟨B.1,cP (n:=n) (l0:=l0) q l _ a' w' u.2 hB.2 B.2⟩) h)
theorem Yz{n}{l0}{L}{f}(u:Region.noSelect ops=true)(M:X1 Q)(O:UG md ops n l0=true)(hc:Region.chainB md ops n=true)(T:n<ops.size)
 (q:∀listed a w, L listed a w→∀j ∈ Region.ready md ops listed, n≤j) {w} (U:S w):∀(A:List Nat) (l:List Oper) (listed:Array Bool) (a:Act), A.map (λi => ops[i]?)=l.map some→KR md ops A listed=true →
    (∀i ∈ A, i<n)→HI md ops n l0 listed →
    Oo P ops S (λa' => LR P md ops Q S L f (EI listed A) a' w) l a→LR P md ops Q S L (f+A.length) listed a w
  | [], [], listed, a, _, _, _, _, h => h
  | [], _::_, _, _, h, _, _, _, _ => by cases h
  | _::_, [], _, _, h, _, _, _, _ => by cases h
  | i::A, o::l, listed, a, I, hB, B, C, ⟨v, V, h⟩ => by
    simp only[KR, v7] at hB
    obtain⟨⟨X, Y⟩, J⟩ := hB
    simp only[wS, zU] at I
    have E:i ∈ Region.ready md ops listed := by simpa using X
    have F := B i (v8 ..)
    have := Yz u M O hc T q U A l (listed.setIfInBounds i true) (a.put o.dst v) I.2 J (λj Z => B j (wC _ Z)) (C.set E F) h
    rw[wK, ← yF]
    exact jR I.1 (Region.noSelect_spec u) (λc a w h => absurd h (M _ _ _)) O hc T F q _ listed a w C (Region.free_spec I.1 Y) E V U this
end
section
variable{P:Program}{ops:Array Oper}{rest:List Oper}{s:St}{K:St→Prop}{o:Oper}
def G8(P:Program)(ops:Array Oper)(rest:List Oper)(s:St)(K:St→Prop):Prop:=
 ∀(y:Cx) (a:Act),y.ok→y.H=hget s.h→y.n=s.n→a.tmps.size=s.N→CK y s.e a→∀q:Act→Prop,
  (∀j l,K j→j.h=s.h→j.n=s.n→j.N=s.N→l.tmps.size=s.N→l.defers=a.defers→CK y j.e l→q l)→Oo P ops (λ_=>True) q rest a
theorem G8.nil(h:K s):G8 P ops [] s K:=λ_ a _ _ _ j l _ q=>q s a h rfl rfl rfl j rfl l
theorem G8.move{d}{x}(hg:o.guard=none)(u:o.op=.move x)(hd:o.dst=some d)(A:Nat.blt d s.N=true)
 (B:G8 P ops rest { e := (d, BR s.e x)::s.e, h := s.h, n := s.n, N := s.N } K):G8 P ops (o::rest) s K := by
  intro y a j C E hsz q F I
  have l:d<a.tmps.size := by rw[hsz];exact C3 A
  refine⟨a.eval x, .inl ⟨by simp[Region.wanted, hg], λw _ => by unfold execOp;simp only[u];rfl⟩, ?_⟩
  rw[hd]
  exact B y (a.put (some d) (a.eval x)) j C E (by simpa[Act.put] using hsz) (q.put l (q.eval x)) F λJ M O T U V X Y Z => I J M O T U V X Y Z
def AF(P:Program)(ops:Array Oper)(rest:List Oper)(s:St)(K:St→Prop):Prop:=
 ∀(y:Cx) (a:Act),y.ok→y.H=hget s.h→y.n=s.n→a.tmps.size=s.N→CK y s.e a→∀q:Act→Prop,
  (∀j l,K j→j.h=s.h→j.n=s.n→j.N=s.N→l.tmps.size=s.N→l.defers=a.defers→CK y j.e l→q l)→Oo P ops (E4 y) q rest a
theorem AF.nil(h:K s):AF P ops [] s K:=λ_ a _ _ _ j l _ q=>q s a h rfl rfl rfl j rfl l
theorem AF.step{d}{v}(hg:o.guard=none)(hd:o.dst=some d)(B:Nat.blt d s.N=true)(C:AU P true o s.e s.h v)
 (E:AF P ops rest { e := (d, v)::s.e, h := s.h, n := s.n, N := s.N } K):AF P ops (o::rest) s K := by
  intro y a j w F hsz A I J
  obtain⟨u, l, M⟩ := C rfl y a j w A
  have q:d<a.tmps.size := by rw[hsz];exact C3 B
  refine⟨u, .inl ⟨by simp[Region.wanted, hg], l⟩, ?_⟩
  rw[hd]
  exact E y (a.put (some d) u) j w F (by simpa[Act.put] using hsz) (A.put q M) I λO T U V X Y Z k6 k7 => J O T U V X Y Z k6 k7
def W4(P:Program)(o:Oper)(R:Ab)(h:AS)(n:Nat)(v:AV)(h':AS)(j:Nat):Prop:=
 ∀(x:Cx) (a:Act),x.ok→x.H=hget h→x.n=n→CK x R a→∀(K:Act→World→Prop) (Q:Exit→Act→World→Prop),
  (∀(u:Value) (y:Cx),x.le y→y.ok→y.H=hget h'→y.n=j→AX y v u→(∀b,b<x.w.heap.size→y.w.heap[b]?=x.w.heap[b]?)→K (a.put o.dst u) y.w)→o.wp P a x.w K Q
def AA(P:Program)(ops:Array Oper)(rest:List Oper)(s:St)(K:St→Prop):Prop:=
 ∀(l y:Cx) (a:Act),l.ok→l.le y→E4 l y.w→y.ok→y.H=hget s.h→y.n=s.n→a.tmps.size=s.N→CK y s.e a→∀(Q:Exit→Act→World→Prop) (w:Act→World→Prop),
  (∀q u j,K q→l.le j→j.ok→j.H=hget q.h→j.n=q.n→q.N=s.N→u.tmps.size=s.N→u.defers=a.defers→CK j q.e u→w u j.w)→U7 P ops Q (E4 l) w rest a y.w
theorem AA.nil(h:K s):AA P ops [] s K:=λ_ y a _ j _ l q u w A _ _ B=>B s a y h j l q u rfl w rfl A
theorem AA.step{d}{v}{h'}{J}(hg:o.guard=none)(hd:o.dst=some d)(T:Nat.blt d s.N=true)(U:W4 P o s.e s.h s.n v h' J)
 (V:AA P ops rest { e := (d, v)::s.e, h := h', n := J, N := s.N } K):AA P ops (o::rest) s K := by
  intro B y a j q C E X Y hsz M Q Z hQ
  have F:d<a.tmps.size := by rw[hsz];exact C3 T
  refine⟨hg, U y a E X Y M _ _ λu w O k2 k3 k4 k5 k6 => ?_⟩
  have l:E4 B w.w := by
    intro b A
    have I:b<B.w.heap.size := by
      rcases A with A | ⟨id, o, k, h1, h2⟩
      · exact j.S_lt b A
      · exact(j.own id o b k h1 h2).1
    rw[k6 b (wZ I q.size)]
    exact C b A
  refine⟨l, ?_⟩
  rw[hd]
  exact V B w (a.put (some d) u) j (q.trans O) l k2 k3 k4 (by simpa[Act.put] using hsz) ((M.mono O).put F k5) Q Z λs' a' w j1 j2 j3 j4 j5 j6 j7 j8 => hQ s' a' w j1 j2 j3 j4 j5 j6 j7 j8
def Vu(ops:Array Oper)(q j u:List Nat)(n:Nat):Bool:=
 let w:=Array.replicate ops.size false
 let l:=EI w q
 let A:=EI l j
 let B:=EI A u
 Region.noSelect ops&&(n<ops.size)&&UG .any ops n l&&Region.chainB .any ops n&&KR .any ops q w&&KR .any ops j l&&Ud .any ops u A
  && Region.seqB .any ops (ops.size-n) n B&&(q.length+j.length+u.length=n)&&(j.all λi=>decide (i<n))&&((List.range ops.size).all λt=>(t<n)||!l.getD t true)
theorem fj j(l:Array Bool):(EI l j).size=l.size:=by
 induction j generalizing l with
 | nil=>rfl
 | cons i j q=>show(EI (l.setIfInBounds i true) j).size=_;rw[q];simp
theorem Zl(y:Cx):E4 y y.w:=λ_ _=>rfl
theorem vK{id}{l:List Oper}{Q}(C A B:List Nat) n{V X Y lt:List Oper}(hm:P.follows .mixedOrders=true)(hB:Vu l.toArray C A B n=true)
 (e1:C.map (λi => l.toArray[i]?)=V.map some) (e2:A.map (λi => l.toArray[i]?)=X.map some) (e3:B.map (λi => l.toArray[i]?)=Y.map some) (e4:l.drop n=lt)
 (h:G8 P l.toArray V s λs1 => AF P l.toArray X s1 λs2 => AA P l.toArray Y s2 λs3 => AN P l.toArray lt s3 (Q .normal)):AW P (.region id l.toArray true) Q s := by
  intro z0 Z T a w ⟨_, J, hsz, y, a0, a6, a7, hH, hn, he⟩
  subst a0
  obtain⟨r1, M⟩ := Ro a7
  simp only[Vu, v7, vy] at hB
  obtain⟨⟨⟨⟨⟨⟨⟨⟨⟨⟨b1, b2⟩, b3⟩, b4⟩, b5⟩, b6⟩, b7⟩, b8⟩, b9⟩, a8⟩, aa⟩ := hB
  refine wpIn_mono (Q := λe u w' => e=.normal∧∃E, Q .normal E∧ES T E u w') ?_ λe u w' ⟨k1, U⟩ => by subst k1;exact⟨by simp, U⟩
  refine PR (λab => by obtain⟨_, _, h1, _⟩ := ab;cases h1) hm Z ?_
  have hQ:X1 (λ(e:Exit) (u:Act) (w':World) => e=.normal∧∃E, Q .normal E∧ES T E u w') := λc a w h => by cases h.1
  generalize hz:({ y with w := { y.w with drawn := y.w.drawn+1 } } : Cx)=z at r1 M
  have ac:z.w = { y.w with drawn := y.w.drawn+1 } := by rw[← hz]
  have F:z.H=hget s.h := by rw[← hz];exact hH
  have I:z.n=s.n := by rw[← hz];exact hn
  rw[← ac]
  have ad:l.toArray.size=(l.toArray.size - n)+B.length+A.length+C.length := by omega
  have goal := fx (P := P) (md := .any) (f := (l.toArray.size - n)+B.length+A.length) b1 hQ C V (Array.replicate l.toArray.size false) a z.w e1 b5
    (h z a M F I hsz (he.mono r1) _ λs1 a1 k1 U k3 k4 k5 k6 k7 => by
      rw[show l.toArray.size - n+B.length+A.length=(B.length+A.length)+(l.toArray.size - n) by omega]
      refine er (S := E4 z) (L := λq u w' => q=EI (EI (EI (Array.replicate l.toArray.size false) C) A) B∧wpList P l.toArray (λe u w' => e=.normal∧∃E, Q .normal E∧ES T E u w') lt u w') (λq u w' ⟨q1, q2⟩ => ?_) _ _ _ _ ?_
      · subst q1;subst e4
        have O:(l.drop n).length=l.toArray.size - n := by simp
        have := wpAny_of_seq (md := .any) (l.drop n) n _ u w' (λj => by simp[xW]) (by rw[O];exact b8) q2
        rwa [O] at this
      · refine Yz (n := n) (l0 := EI (Array.replicate l.toArray.size false) C) b1 hQ b3 b4 b2 (λq u w' ⟨q1, _⟩ j hj => by subst q1;exact seqB_ready b8 j hj) (Zl z) A X _ a1 e2 b6
          (λi hi => by simpa using(wT.1 a8 i hi)) ⟨by rw[fj];simp, λj oj _ hl => .inl hl, λt ht ae => ?_, λ_ h => h⟩ ?_
        · have := wT.1 aa t (wh.2 ae)
          simp only[wF, vy, wz] at this
          rcases this with h | h
          · omega
          · exact h
        · refine k1 z a1 M (by rw[U];exact F) (by rw[k3];exact I) (by rw[k4, k5]) k7 _ λs2 a2 m1 m2 m3 m4 m5 m6 m7 => ?_
          refine cP (n := n) (l0 := EI (Array.replicate l.toArray.size false) C) B Y _ a2 z.w e3 b7 ?_
          refine m1 z z a2 M (.refl z) (Zl z) M (by rw[m2, U];exact F) (by rw[m3, k3];exact I) (by rw[m4, m5]) m7 _ _ λs3 a3 y3 t1 t2 t3 t4 t5 t6 t7 t8 t9 => ⟨rfl, ?_⟩
          exact t1 T a3 y3.w ⟨_, t8.trans (m6.trans (k6.trans J)), by rw[t7, t6], y3, rfl, (a6.trans r1).trans t2, t3, t4, t5, t9⟩ _ λaf ag ah j1 j2 => ⟨rfl, af, j1, j2⟩)
  have e:l.toArray.size - n+B.length+A.length+C.length=l.toArray.size := by omega
  rw[e] at goal
  exact goal
end
section
variable{P:Program}{o:Oper}{R:Ab}{h:AS}{n:Nat}
theorem uf{t e}{sz a0 len}{parts:Array (Nat × Operand)}(id:Nat){l:List (List RV)}(ho:o.op=.buildSlice t len parts)(ht:Bn P t e sz a0)
 (hp:KJ true R 0 parts.toList l) (B:l.length=len) (C:∀row ∈ l, row.length=sz) (E:Nat.ble (len * sz) 16777216=true) :
    W4 P o R h n (.own id n) ((id, some (.arr n e sz l))::h) (n+1) := by
  intro z w a1 hH hn he K Q hK
  have hc:true=true := rfl
  obtain⟨J, ii, zv, hi, F, _, hz, a7, _, h0⟩ := ht
  have a8:len * sz≤16777216 := wx E
  have aa:len≤len * sz := Nat.le_mul_of_pos_right _ h0
  obtain⟨M, O⟩ := hp.get
  have I:∃init:Array Value, init.size=len * sz∧∀W, (Instr.buildSlice t len (parts.map λ(i, x) => (i, w.eval x))).run P W =
      match Instr.fill (λi => some (i * sz, sz)) init (parts.toList.map λ(i, x) => (i, w.eval x)) with
      | some cells => .ok (.slice (some ⟨W.heap.size, 0, none⟩) len len) (W.alloc (.cells cells e))
      | none => .halt (.stuck "buildSlice: a part of the wrong size") W := by
    refine⟨(Array.range (len * sz)).map (λi => (if len * sz=0 then #[] else zv.cells)[i % (if len * sz=0 then #[] else zv.cells).size]!), by simp, λW => ?_⟩
    have T:¬ 2 ^ 24<len * sz := by omega
    by_cases U:len * sz=0
    · simp only[Instr.buildSlice, Sem.run_bind, run_underlying J, Result.andThen_ok, Ei hi, F, U]
      simp
      split<;>simp_all [newRow, Instr.fill]
    · simp only[Instr.buildSlice, Sem.run_bind, run_underlying J, Result.andThen_ok, Ei hi, F]
      simp only[T, U, zeroValue, typeInfo, ya, Sem.run_bind, run_program, Result.andThen_ok, hi, hz, Sem.run_pure, zL]
      generalize Instr.fill _ _ _=r
      cases r<;>simp[newRow]
  obtain⟨init, A, V⟩ := I
  obtain⟨a2, f1, f2, _, f4⟩ := Vg sz (parts.toList.map λ(i, x) => (i, w.eval x)) 0 init (λj p hj => by
    simp only[wd, wW] at hj
    obtain⟨q, hq, rfl⟩ := hj
    obtain⟨X, row, a, Z, h3, h4⟩ := O j q hq
    refine⟨by simpa using X, ?_⟩
    rw[(OV h4 (h3.rep he hc)).1]
    exact C row (wj Z)) (by rw[A];simp only[wN, M, B, wY];exact wL _)
  obtain⟨y, k1, k2, k3, k4, k5, k6⟩ := Xu a1 id e sz l a2 h0 C (by rw[f2, A, B]) (by unfold maxLen;omega) (λi row k d X Z => by
    have Y:i<parts.toList.length := by rw[M];exact(wA.1 X).1
    obtain⟨_, a6, a, h3, h4, h5⟩ := O i _ (wB Y)
    rw[X] at h3;cases h3
    obtain⟨u, h6, h7⟩ := (OV h5 (h4.rep he hc)).2 k d Z
    refine⟨u, ?_, h7⟩
    have hk:k<sz := by rw[← C row (wj X)];exact(wA.1 Z).1
    have := f4 i (parts.toList[i].1, w.eval parts.toList[i].2) k (by simp[wd, wB Y]) hk
    rw[wY] at this
    rw[this];exact h6)
  unfold Oper.wp execOp
  simp only[ho, Sem.run_bind, V, f1, Result.andThen_ok, Sem.run_pure]
  have := hK _ y k1 k2 (by rw[k4, hH, hn, FU]) (by rw[k5, hn]) (by rw[← hn];exact k6) (λb hb => by rw[k3];exact heap_alloc_old _ _ hb)
  rw[k3, B] at this
  exact this
theorem iK{α:Type}{f}{t e}{sz w len}{parts:Array (Nat × Operand)}(id:Nat){l:List α}(A:o.op=.buildSlice t len parts)(B:Bn P t e sz w)
 (hp:KJ true R 0 parts.toList (l.map f)) (q:l.length=len) (u:∀a, (f a).length=sz) (j:Nat.ble (len * sz) 16777216=true) :
    W4 P o R h n (.own id n) ((id, some (.arr n e sz (l.map f)))::h) (n+1) :=
  uf id A B hp (by rw[wN];exact q) (λrow C => by obtain⟨a, _, rfl⟩ := xY.1 C;exact u a) j
end
end Go.Proofs.YtdafahjmopdleaaGreatDoor.Al
namespace Go.Proofs.YtdafahjmopdleaaGreatDoor.Al
def pick(l:List Oper):List Nat→List Oper
 | []=>[]
 | i::j=>match l[i]? with
  | some o=>o::pick l j
  | none=>pick l j
theorem X6{l:List Oper}{j:List Nat}(h:(j.all λi=>Nat.blt i l.length)=true):j.map (λi=>l.toArray[i]?)=(pick l j).map some:=by
 induction j with
 | nil=>rfl
 | cons i j u=>
  simp only[zH,v7] at h
  have q:=C3 h.1
  rw[wS,u h.2,pick,wB q]
  simp[q]
theorem iq{P:Program}{s}{id}{l:List Oper}{Q} j q u n{A B C lt}(E:P.follows .mixedOrders=true)(hB:Vu l.toArray j q u n=true)
 (w:((j++q++u).all λi => Nat.blt i l.length)=true) (e1:pick l j=A) (e2:pick l q=B) (F:pick l u=C) (I:l.drop n=lt)
 (h:G8 P l.toArray A s λJ => AF P l.toArray B J λM => AA P l.toArray C M λO => AN P l.toArray lt O (Q .normal)):AW P (.region id l.toArray true) Q s := by
  subst e1;subst e2;subst F
  simp only[List.all_append, v7] at w
  exact vK j q u n E hB (X6 w.1.1) (X6 w.1.2) (X6 w.2) I h
theorem iv{P:Program}{ops:Array Oper}{rest:List Oper}{s:St}{K:St→Prop}{o:Oper}{d:Nat}{c:Bool}{f:FuncId}{fo:Operand}{xs:Array Operand}{C:Array TypeId}{caps bs:List AV}(hG:Cd s.e ops o c)(E:c=true)(L:List Nat){hc:AS}{F:(Nat→Nat)→AV}{G:(Nat→Nat)→AS}(hd:o.dst=some d)(hN:Nat.blt d s.N=true)
  (ho:o.op=.call { callee:=.value fo,args:=xs,argTypes:=C }) (I:Ev true s.e fo (.fn f (FF L caps))) (J:GU L.length caps=true) (hx:JZ s.e L xs.toList bs) (M:HN s.h L hc) (O:L.Nodup)
  (l:BY P f L.length (bs++caps) hc (λr h'=>∃i,r=F i∧h'=G i))
  (hr:∀i n',AN P ops rest { e:=(d,ren L (F i))::s.e,h:=Ga L (G i) 1000 L++s.h,n:=n',N:=s.N } K):AN P ops (o::rest) s K:=by
 intro c0 a w ⟨_,q,hsz,y,T,U,V,hH,hn,X⟩ Q hQ
 subst T
 refine wpList_step λK' Y=>?_
 rw[hG.wanted X,vx E]
 refine Wc ho I J hx M O l V hH X K' Q λu z r h' A B Z a0 j=>?_
 obtain⟨i,rfl,rfl⟩:=j
 refine Y _ _ ?_
 have a1:d<a.tmps.size:=by rw[hsz];exact C3 hN
 rw[hd]
 exact hr i z.n c0 (a.put (some d) u) z.w ⟨_,q,by simpa[Act.put] using hsz,z,rfl,U.trans A,B,Z,rfl,(X.mono A).put a1 a0⟩ Q hQ
end Go.Proofs.YtdafahjmopdleaaGreatDoor.Al
namespace Go.Proofs.YtdafahjmopdleaaGreatDoor.Al
section
variable{P:Program}{o:Oper}{R:Ab}{h:AS}{n:Nat}
end
structure PO where
 d:Option Nat
 v:(Nat→Nat)→AV
 hp:Option (Nat × ((Nat→Nat)→Option A9))
 dep:List Nat
def PO.wE(p:PO):Option (Nat × ((Nat→Nat)→AV)):=match p.d with | some d=>some (d,p.v) | none=>none
def PO.wH(p:PO):Option (Nat × ((Nat→Nat)→Option A9)):=p.hp
section
variable{α:Type}(wr:PO→Option (Nat × ((Nat→Nat)→α)))(D:Nat→Bool)(G:Nat→Nat)
def EU:List (Nat × α)→List PO→Nat→List (Nat × α)
 | e,[],_=>e
 | e,p::L,k=>match D k with
  | true=>match wr p with
   | some (d,v)=>EU ((d,v G)::e) L (k+1)
   | none=>EU e L (k+1)
  | false=>EU e L (k+1)
def Gw(t:Nat)(L:List PO)(k:Nat):Prop:=∀(j:Nat) (p:PO) v,L[j]?=some p→D (k+j)=true→wr p≠some (t,v)
end
theorem Gw.tail{α:Type}{wr:PO→Option (Nat × ((Nat→Nat)→α))}{D:Nat→Bool}{t:Nat}{p:PO}{L:List PO}{k:Nat}(h:Gw wr D t (p::L) k):Gw wr D t L (k+1):=
 λj q v l u=>h (j+1) q v (by simpa using l) (by rwa [show k+(j+1)=k+1+j by omega])
section
variable{α:Type}{wr:PO→Option (Nat × ((Nat→Nat)→α))}{D:Nat→Bool}{G:Nat→Nat}{lk:List (Nat × α)→Nat→α}(hlk:∀d v R t,lk ((d,v)::R) t=if d=t then v else lk R t)
include hlk
theorem Gb{t:Nat} : ∀(L:List PO) (e:List (Nat × α)) (k:Nat),Gw wr D t L k→lk (EU wr D G e L k) t=lk e t
 | [],_,_,_=>rfl
 | p::L,e,k,h=>by
  unfold EU
  cases l:D k with
  | false=>exact Gb L e (k+1) h.tail
  | true=>
   cases u:wr p with
   | none=>exact Gb L e (k+1) h.tail
   | some q=>
    obtain⟨d,v⟩:=q
    have j:d≠t:=λe=>h 0 p v rfl l (by rw[u,e])
    exact(Gb L _ (k+1) h.tail).trans (by rw[hlk,ne j])
theorem I5{t}{p}{v}(A:wr p=some (t,v)):∀(L:List PO) (e:List (Nat × α)) (k j:Nat),L[j]?=some p→D (k+j)=true→Gw wr D t (L.drop (j+1)) (k+j+1)→lk (EU wr D G e L k) t=v G
 | [],_,_,_,h,_,_=>by simp at h
 | q::L,e,k,0,B,E,C=>by
  cases B
  unfold EU
  rw[show D k=true from E,A]
  exact(Gb hlk L _ (k+1) (by simpa using C)).trans (by rw[hlk,vx rfl])
 | q::L,e,k,j+1,B,E,C=>by
  have l:L[j]?=some p:=by simpa using B
  have u:D (k+1+j)=true:=by rwa [show k+1+j=k+(j+1) by omega]
  have w:Gw wr D t (L.drop (j+1)) (k+1+j+1):=by rw[show k+1+j+1=k+(j+1)+1 by omega];simpa using C
  unfold EU
  cases D k with
  | false=>exact I5 A L e (k+1) j l u w
  | true=>
   cases wr q with
   | none=>exact I5 A L e (k+1) j l u w
   | some r=>exact I5 A L _ (k+1) j l u w
theorem H5{t}{D'}{w} : ∀(L:List PO) (e e':List (Nat × α)) (k:Nat),lk e' t=lk e t →
  (∀(j:Nat) (p:PO) v,L[j]?=some p→wr p=some (t,v)→D' (k+j)=D (k+j)∧(D (k+j)=true→v w=v G))→lk (EU wr D' w e' L k) t=lk (EU wr D G e L k) t
 | [],_,_,_,h,_=>h
 | p::L,e,e',k,h,C=>by
  have l:∀(j:Nat) (q:PO) v,L[j]?=some q→wr q=some (t,v)→D' (k+1+j)=D (k+1+j)∧(D (k+1+j)=true→v w=v G):=λj q v A B=>by
   have:=C (j+1) q v (by simpa using A) B
   rwa [show k+(j+1)=k+1+j by omega] at this
  unfold EU
  cases hp:wr p with
  | none=>
   have I:=H5 L e e' (k+1) h l
   cases D' k<;>cases D k<;>exact I
  | some q=>
   obtain⟨d,v⟩:=q
   by_cases u:d=t
   ·subst u
    obtain⟨A,B⟩:=C 0 p v rfl hp
    rw[xM] at A B
    rw[A]
    cases J:D k with
    | false=>exact H5 L e e' (k+1) h l
    | true=>exact H5 L _ _ (k+1) (by rw[hlk,hlk,vx rfl,vx rfl,B J]) l
   ·have E:lk ((d,v w)::e') t=lk e' t:=by rw[hlk,ne u]
    have F:lk ((d,v G)::e) t=lk e t:=by rw[hlk,ne u]
    cases D' k<;>cases D k
    ·exact H5 L _ _ (k+1) h l
    ·exact H5 L _ _ (k+1) (by rw[F];exact h) l
    ·exact H5 L _ _ (k+1) (by rw[E];exact h) l
    ·exact H5 L _ _ (k+1) (by rw[E,F];exact h) l
end
abbrev CW(D:Nat→Bool)(G:Nat→Nat)(e:Ab)(L:List PO):Ab:=EU PO.wE D G e L 0
abbrev Dh(D:Nat→Bool)(G:Nat→Nat)(h:AS)(L:List PO):AS:=EU PO.wH D G h L 0
def C1(G:Nat→Nat)(i n:Nat):Nat→Nat:=λk=>if k=i then n else G k
section
variable{P:Program}{ops:Array Oper}
def wt(ops:Array Oper):Nat→Nat→Nat→Bool
 | 0,_,_=>false
 | f+1,j,i=>Region.waitsFor .any ops j i||(List.range j).any λm=>Region.waitsFor .any ops j m&&wt ops f m i
def Cl(ops:Array Oper)(D:Nat→Bool):Prop:=∀j k,D j=true→Region.waitsFor .any ops j k=true→D k=true
theorem Cl.wt{D}(h:Cl ops D):∀(f j i:Nat),Al.wt ops f j i=true→D j=true→D i=true
 | 0,_,_,l,_=>by cases l
 | f+1,j,i,l,u=>by
  unfold Al.wt at l
  rw[wF] at l
  rcases l with l | l
  ·exact h j i u l
  ·obtain⟨m,_,q⟩:=yy.1 l
   rw[v7] at q
   exact h.wt f m i q.2 (h j m u q.1)
structure Bf(ops:Array Oper)(D:Nat→Bool)(i:Nat):Prop where
 cl:Cl ops D
 hw:∀k,Region.waitsFor .any ops i k=true→D k=true
 un:D i=false
theorem Bf.yes{D}{i}(h:Bf ops D i){k}(j:Al.wt ops 40 i k=true):D k=true:=by
 unfold Al.wt at j
 rw[wF] at j
 rcases j with j | j
 ·exact h.hw k j
 ·obtain⟨m,_,l⟩:=yy.1 j
  rw[v7] at l
  exact h.cl.wt 39 m k l.2 (h.hw m l.1)
theorem Bf.no{D}{i}(h:Bf ops D i){k}(j:Al.wt ops 40 k i=true):D k=false:=by
 cases l:D k with
 | false=>rfl
 | true=>have:=h.cl.wt 40 k i j l;rw[h.un] at this;cases this
def HP(c0:Cx)(s:St)(L:List PO)(listed:Array Bool)(a:Act)(w:World):Prop:=
 ∃j,a.defers=j∧a.tmps.size=s.N∧∃(y:Cx) (G:Nat→Nat),y.w=w∧c0.leM j y∧y.ok∧(∀id,y.H id=hget (Dh (λk=>listed.getD k false) G s.h L) id) ∧
  (∀t,AX y (get (CW (λk=>listed.getD k false) G s.e L) t) (a.tmps.getD t undef))
def GJ(P:Program)(o:Oper)(R:Ab)(h:AS)(n:Nat)(v:AV)(h':AS):Prop:=
 ∀(x:Cx) (a:Act),x.ok→x.H=hget h→x.n=n→CK x R a→∀(K:Act→World→Prop) (Q:Exit→Act→World→Prop),
  (∀(u:Value) (y:Cx),x.le y→y.ok→y.H=hget h'→AX y v u→K (a.put o.dst u) y.w)→o.wp P a x.w K Q
theorem BV.toN{o}{R}{h}{n}{v}{h'}{j}(l:BV P true o R h n v h' j):GJ P o R h n v h':=
 λx a q w A B K Q C=>l rfl x a q w A B K Q λu y E F I _ J=>C u y E F I J
theorem Cd.same{R q}{o}{c}(h:Cd R ops o c)(u:∀t,get q t=get R t):Cd q ops o c:=by
 cases h with
 | one hg j l=>exact .one hg j ((u _).trans l)
 | two hg j l=>exact .two hg j ((u _).trans l)
def Ob(P:Program)(ops:Array Oper)(s:St)(L:List PO)(i:Nat)(p:PO)(o:Oper):Prop:=
 o.dst=p.d∧(∀d,p.d=some d→Nat.blt d s.N=true)∧∀(D:Nat→Bool) (G:Nat→Nat) (e:Ab) (h:AS) (n:Nat),Bf ops D i →
  (∀t,get e t=get (CW D G s.e L) t)→(∀id,hget h id=hget (Dh D G s.h L) id) →
  (o.guard=none∧∃l,GJ P o e h n (p.v (C1 G i n)) l∧(∀id,hget l id=match p.hp with | some (j,u)=>if j=id then u (C1 G i n) else hget h id | none=>hget h id)) ∨
  (p.hp=none∧∃c v0,p.v (C1 G i n)=.whn c v0∧Cd e ops o c∧(c=true→∃q,GJ P o e h n v0 q∧∀id,hget q id=hget h id))
def KK(L:List PO)(t:Nat):Bool:=L.all λp=>match p.d with | some d=>!Nat.beq d t | none=>true
def U5(L:List PO)(t:Nat):Bool:=L.all λp=>match p.hp with | some (d,_)=>!Nat.beq d t | none=>true
def HM:List PO→Bool
 | []=>true
 | p::L=>(match p.d with | some d=>KK L d | none=>true)&&HM L
def O6(ops:Array Oper)(L:List PO):Bool:=(List.range L.length).all λj=>(List.range j).all λi=>match L[i]?.bind (·.hp),L[j]?.bind (·.hp) with
 | some (a,_),some (b,_)=>!Nat.beq a b||wt ops 40 j i
 | _,_=>true
theorem jh{L:List PO}{t:Nat}(h:KK L t=true){j:Nat}{p:PO}(l:L[j]?=some p):p.d≠some t:=λhd=>by
 have:=wT.1 h p (wj l)
 rw[hd] at this
 simp at this
theorem vA{L:List PO}{t:Nat}(h:U5 L t=true){j:Nat}{p:PO}(l:L[j]?=some p):∀ob,p.hp≠some (t,ob):=λob hd=>by
 have:=wT.1 h p (wj l)
 rw[hd] at this
 simp at this
theorem PM{p:PO}{t}{v}(h:p.wE=some (t,v)):p.d=some t∧v=p.v:=by
 unfold PO.wE at h
 split at h
 ·rename_i d hd;simp only[wP,wV] at h;rw[hd,h.1];exact⟨rfl,h.2.symm⟩
 ·cases h
theorem UL{p:PO}{t}(h:p.d=some t):p.wE=some (t,p.v):=by unfold PO.wE;rw[h]
theorem UF{p:PO}{t}{v}(h:p.wH=some (t,v)):∃ob,p.hp=some (t,ob)∧v=ob:=⟨v,h,rfl⟩
theorem Z7{p:PO}{t}{ob}(h:p.hp=some (t,ob)):p.wH=some (t,ob):=h
theorem Wy:∀ {L:List PO},HM L=true→∀ {j:Nat} {p:PO} {t:Nat},L[j]?=some p→p.d=some t→KK (L.drop (j+1)) t=true
 | [],_,_,_,_,h,_=>by simp at h
 | q::L,h,0,p,t,l,u=>by
  cases l
  simp only[HM,v7,u] at h
  simpa using h.1
 | q::L,h,j+1,p,t,l,u=>by
  simp only[HM,v7] at h
  simpa using Wy h.2 (j:=j) (by simpa using l) u
theorem Od{L}{t}(h:KK L t=true){D}{k} : Gw PO.wE D t L k:=λ_ _ _ j _ l=>jh h j (PM l).1
theorem og{L}{t}(h:U5 L t=true){D}{k} : Gw PO.wH D t L k:=λ_ _ _ j _ l=>by obtain⟨q,u,_⟩:=UF l;exact vA h j q u
theorem jV{L:List PO}(hB:O6 ops L=true){D}(l:Cl ops D){i}{p:PO}{t}{ob}(hp:L[i]?=some p)(C:p.hp=some (t,ob))(u:D i=false):Gw PO.wH D t (L.drop (i+1)) (i+1):=by
 intro j q v w E F
 obtain⟨lY,I,_⟩:=UF F
 rw[xW] at w
 have A:i+1+j<L.length:=(wA.1 w).1
 have:=wT.1 (wT.1 hB (i+1+j) (wh.2 A)) i (wh.2 (by omega))
 simp only[hp,w,zM,C,I,wF,wz] at this
 rcases this with B | B
 ·simp at B
 ·have:=l.wt 40 _ _ B E
  rw[u] at this;cases this
def QJ(ops:Array Oper)(L:List PO):Bool:=(List.range L.length).all λj=>match L[j]? with
 | some p=>p.dep.all λk=>Nat.beq k j||wt ops 40 j k
 | none=>true
def Ik:List PO→Prop
 | []=>True
 | p::L=>(∀G j:Nat→Nat,(∀k,p.dep.contains k=true→G k=j k)→p.v j=p.v G∧∀id l,p.hp=some (id,l)→l j=l G)∧Ik L
theorem Ik.at:∀ {L:List PO},Ik L→∀ {j:Nat} {p:PO},L[j]?=some p→∀G l:Nat→Nat,(∀k,p.dep.contains k=true→G k=l k)→p.v l=p.v G∧∀id ob,p.hp=some (id,ob)→ob l=ob G
 | _::_,h,0,_,q=>by cases q;exact h.1
 | _::_,h,j+1,_,q=>Ik.at h.2 (j:=j) (by simpa using q)
theorem mf{L:List PO}(hB:QJ ops L=true){D}(q:Cl ops D){j}{p:PO}(hp:L[j]?=some p)(w:D j=true){k}(B:p.dep.contains k=true):D k=true:=by
 have u:j<L.length:=(wA.1 hp).1
 have A:=wT.1 hB j (wh.2 u)
 simp only[hp] at A
 have l:=wT.1 A k (by simpa using B)
 simp only[wF] at l
 rcases l with l | l
 ·rw[wI l];exact w
 ·exact q.wt 40 _ _ l w
theorem HP.put{c0:Cx}{s:St}{L}{listed:Array Bool}{a:Act}{i}{p:PO}{y z:Cx}{G}{u}(hp:L[i]?=some p)(hN:∀d, p.d=some d→Nat.blt d s.N=true)(hE:HM L=true)(hH:O6 ops L=true)
 (hD:QJ ops L=true) (U:Ik L) (hi:i<listed.size) (hr:Bf ops (λk => listed.getD k false) i) {ds} (V:a.defers=ds) (hsz:a.tmps.size=s.N) (a1:c0.leM ds y)
 (he:∀t, AX y (get (CW (λk => listed.getD k false) G s.e L) t) (a.tmps.getD t undef)) (X:y.le z) (Y:z.ok)
 (a2:∀id, z.H id=match p.hp with | some (j, B) => if j=id then B (C1 G i y.n) else hget (Dh (λk => listed.getD k false) G s.h L) id | none => hget (Dh (λk => listed.getD k false) G s.h L) id)
 (hv:AX z (p.v (C1 G i y.n)) u):HP c0 s L (listed.setIfInBounds i true) (a.put p.d u) z.w := by
  have Z:∀k, (listed.setIfInBounds i true).getD k false=(listed.getD k false||(k=i)) := λk => by
    by_cases J:i=k
    · subst J;simp[hi]
    · rw[getD_set_ne false J];simp[Ne.symm J]
  have l:∀k, k≠i→(listed.setIfInBounds i true).getD k false=listed.getD k false := λk J => by rw[Z];simp[J]
  have I:∀(j:Nat) (q:PO), L[j]?=some q→listed.getD j false=true→q.v (C1 G i y.n)=q.v G∧∀id B, q.hp=some (id, B)→B (C1 G i y.n)=B G := λj q T hl => by
    refine U.at T G _ λk J => ?_
    have hlk := mf hD hr.cl T hl J
    have:k≠i := λe => by subst e;rw[hr.un] at hlk;cases hlk
    simp[C1, this]
  have a0:(λk => (listed.setIfInBounds i true).getD k false) (0+i)=true := by show(listed.setIfInBounds i true).getD (0+i) false=true;rw[wY, Z];simp
  refine⟨ds, by cases w:p.d<;>simpa[Act.put, w] using V, ?_, z, C1 G i y.n, rfl, a1.trans X, Y, λid => ?_, λt => ?_⟩
  · cases w:p.d<;>simpa[Act.put, w] using hsz
  · rw[a2]
    have rest:(∀B, p.hp≠some (id, B))→hget (Dh (λk => listed.getD k false) G s.h L) id=hget (Dh (λk => (listed.setIfInBounds i true).getD k false) (C1 G i y.n) s.h L) id := λa6 => by
      refine(H5 DC L _ _ 0 rfl λj q v C h2 => ?_).symm
      obtain⟨B, h4, h5⟩ := UF h2
      have M:j≠i := λe => by subst e;rw[hp] at C;cases C;exact a6 B h4
      rw[wY]
      exact⟨l j M, λhl => by rw[h5];exact(I j q C hl).2 id B h4⟩
    cases E:p.hp with
    | none => exact rest λB => by rw[E];simp
    | some r =>
      obtain⟨j, B⟩ := r
      by_cases T:j=id
      · subst T
        simp only[xm]
        have F := jV hH hr.cl hp E hr.un
        refine(I5 DC (Z7 E) L _ 0 i hp a0 ?_).symm
        rw[wY]
        intro m q v C h2 h3
        exact F m q v C ((l _ (by omega)).symm.trans h2) h3
      · simp only[ne T]
        exact rest λa8 => by rw[E];intro e;cases e;exact T rfl
  · by_cases A:p.d=some t
    · have e1:get (CW (λk => (listed.setIfInBounds i true).getD k false) (C1 G i y.n) s.e L) t=p.v (C1 G i y.n) :=
        I5 D6 (UL A) L _ 0 i hp a0 (Od (Wy hE hp A))
      have O:t<a.tmps.size := by rw[hsz];exact C3 (hN t A)
      rw[e1, A]
      simp only[Act.put, Mv O, xm]
      exact hv
    · have e1:get (CW (λk => (listed.setIfInBounds i true).getD k false) (C1 G i y.n) s.e L) t=get (CW (λk => listed.getD k false) G s.e L) t := by
        refine H5 D6 L _ _ 0 rfl λj q v C h2 => ?_
        obtain⟨h4, h5⟩ := PM h2
        have M:j≠i := λe => by subst e;rw[hp] at C;cases C;exact A h4
        rw[wY]
        exact⟨l j M, λhl => by rw[h5];exact(I j q C hl).1⟩
      rw[e1]
      have h0 := (he t).mono X
      cases w:p.d with
      | none => exact h0
      | some d =>
        have a7:d≠t := λe => A (by rw[w, e])
        have O:d<a.tmps.size := by rw[hsz];exact C3 (hN d w)
        simp only[Act.put, Mv O, ne a7]
        exact h0
theorem HP.step{c0}{s}{L}{listed:Array Bool}{a:Act}{w}{i}{p}{o}{Q}(hp:L[i]?=some p)(ho:ops[i]?=some o)(V:Ob P ops s L i p o)(X:HM L=true)(Y:O6 ops L=true)
 (Z:QJ ops L=true) (l:Ik L) (hi:i<listed.size) (U:Bf ops (λk => listed.getD k false) i) (M:HP c0 s L listed a w) :
    wpOp P ops Q i (HP c0 s L (listed.setIfInBounds i true)) a w := by
  obtain⟨_, q, hsz, y, G, a0, B, C, E, J⟩ := M
  subst a0
  obtain⟨hd, hN, a1⟩ := V
  unfold wpOp
  simp only[ho]
  rcases a1 (λk => listed.getD k false) G _ _ y.n U (λt => rfl) (λid => rfl) with ⟨hg, h', j, a2⟩ | ⟨O, c, v0, T, hG, j⟩
  · rw[vx (by simp[Region.wanted, hg])]
    refine .inl (j y a C (funext λid => E id) rfl (λt => J t) _ Q λu z F A I hv => ?_)
    rw[hd]
    exact HP.put hp hN X Y Z l hi U q hsz B J F A (λid => by rw[I];exact a2 id) hv
  · have hw:Region.wanted o (yielded ops a.tmps)=c := Cd.wanted (s := ⟨_, [], 0, 0⟩) hG (λt => J t)
    rw[hw]
    cases c with
    | true =>
      obtain⟨h2, a6, a7⟩ := j rfl
      rw[vx rfl]
      refine .inl (a6 y a C (funext λid => E id) rfl (λt => J t) _ Q λu z F A I hv => ?_)
      rw[hd]
      refine HP.put hp hN X Y Z l hi U q hsz B J F A (λid => by rw[I, O];exact a7 id) ?_
      rw[T];exact .whn (λ_ => hv) (λh => by cases h)
    | false =>
      rw[ne (by decide), hd]
      refine HP.put hp hN X Y Z l hi U q hsz B J (.refl y) C (λid => by rw[O];exact E id) ?_
      rw[T];exact .whn (λh => by cases h) (λ_ => rfl)
def Fi(e:Ab):Ab→Prop
 | []=>True
 | (t,a)::r=>get e t=a∧Fi e r
def Fk(e:AS):AS→Prop
 | []=>True
 | (t,a)::r=>hget e t=a∧Fk e r
theorem Qe{j e}(l:∀t,get e t=get j t):∀(r:Ab),Fi j r→∀t,get (r++e) t=get j t
 | [],_,t=>l t
 | (t0,a)::r,⟨q,u⟩,t=>by
  rw[wO,D6]
  split
  ·rename_i w;subst w;exact q.symm
  ·exact Qe l r u t
theorem R2{j e}(l:∀t,hget e t=hget j t):∀(r:AS),Fk j r→∀t,hget (r++e) t=hget j t
 | [],_,t=>l t
 | (t0,a)::r,⟨q,u⟩,t=>by
  rw[wO,DC]
  split
  ·rename_i w;subst w;exact q.symm
  ·exact R2 l r u t
theorem GJ.same{o}{R l}{h h'}{n}{v}{q}(u:GJ P o R h n v q)(w:∀t,get l t=get R t)(A:∀id,hget h' id=hget h id):GJ P o l h' n v q:=by
 intro x a j B C E K Q F
 exact u x a j (by rw[B];exact funext A) C (λt=>by rw[← w];exact E t) K Q F
theorem iy{s:St}{L}{i}{p:PO}{o:Oper}(hg:o.guard=none)(hd:o.dst=p.d)(C:∀d, p.d=some d→Nat.blt d s.N=true)(hp:p.hp=none)(w:(Nat→Nat)→Ab)(q:(Nat→Nat)→AS)
 (E:∀D G, Bf ops D i→Fi (CW D G s.e L) (w G)) (F:∀D G, Bf ops D i→Fk (Dh D G s.h L) (q G))
 (I:∀G n, p.v (C1 G i n)=p.v G) (h:∀G e j n, ∃l, GJ P o (w G++e) (q G++j) n (p.v G) l∧∀id, hget l id=hget (q G++j) id):Ob P ops s L i p o := by
  refine⟨hd, C, λD G e j n A B u => .inl ⟨hg, ?_⟩⟩
  have J := Qe B _ (E D G A)
  have g2 := R2 u _ (F D G A)
  obtain⟨l, M, O⟩ := h G e j n
  refine⟨l, ?_, λid => by rw[hp, O, g2, u]⟩
  rw[I]
  exact M.same (λt => by rw[J, B]) (λid => by rw[g2, u])
theorem Uo{s:St}{L:List PO}{i:Nat}{p:PO}{o:Oper}{n1:Nat→Nat}(hg:o.guard=none)(hd:o.dst=p.d)(u:∀d,p.d=some d→Nat.blt d s.N=true)(hp:p.hp=none)(q:(Nat→Nat)→Ab)(j:(Nat→Nat)→AS)
  (w:∀D G,Bf ops D i→Fi (CW D G s.e L) (q G)) (A:∀D G,Bf ops D i→Fk (Dh D G s.h L) (j G))
  (B:∀G n,p.v (C1 G i n)=p.v G) (h:∀G e l n,BV P true o (q G++e) (j G++l) n (p.v G) (j G++l) (n1 n)):Ob P ops s L i p o:=
 iy hg hd u hp q j w A B λG e l n=>⟨_,(h G e l n).toN,λ_=>rfl⟩
theorem iw{s:St}{L:List PO}{i:Nat}{p:PO}{o:Oper}{c:Bool}{v0:(Nat→Nat)→AV}{n1:Nat→Nat}(hd:o.dst=p.d)(C:∀d,p.d=some d→Nat.blt d s.N=true)(hp:p.hp=none)(q:(Nat→Nat)→Ab)(u:(Nat→Nat)→AS)
  (B:∀D G,Bf ops D i→Fi (CW D G s.e L) (q G)) (E:∀D G,Bf ops D i→Fk (Dh D G s.h L) (u G))
  (F:∀G n,p.v (C1 G i n)=.whn c (v0 G)) (hg:∀G e,Cd (q G++e) ops o c) (h:∀G e j n,BV P c o (q G++e) (u G++j) n (v0 G) (u G++j) (n1 n)):Ob P ops s L i p o:=by
 refine⟨hd,C,λD G e j n w l A=>.inr ⟨hp,c,v0 G,F G n,?_,λI=>?_⟩⟩
 ·exact(hg G e).same λt=>by rw[Qe l _ (B D G w),l]
 ·have J:=Qe l _ (B D G w)
  have g2:=R2 A _ (E D G w)
  subst I
  exact⟨_,(h G e j n).toN.same (λt=>by rw[J,l]) (λid=>by rw[g2,A]),λid=>by rw[g2,A]⟩
theorem Ye{s:St}{L}{i}{p:PO}{o:Oper}{id}{ob}(hg:o.guard=none)(hd:o.dst=p.d)(C:∀d, p.d=some d→Nat.blt d s.N=true)(hp:p.hp=some (id, ob))(w:(Nat→Nat)→Ab)(q:(Nat→Nat)→AS)
 (E:∀D G, Bf ops D i→Fi (CW D G s.e L) (w G)) (F:∀D G, Bf ops D i→Fk (Dh D G s.h L) (q G))
 (h:∀(G:Nat→Nat) e l n, GJ P o (w G++e) (q G++l) n (p.v (C1 G i n)) ((id, ob (C1 G i n))::(q G++l))):Ob P ops s L i p o := by
  refine⟨hd, C, λD G e l n A B u => .inl ⟨hg, ?_⟩⟩
  have I := Qe B _ (E D G A)
  have g2 := R2 u _ (F D G A)
  refine⟨_, (h G e l n).same (λt => by rw[I, B]) (λj => by rw[g2, u]), λj => ?_⟩
  rw[hp, DC]
  simp only
  split
  · rfl
  · rw[g2, u]
theorem vb{s:St}{L:List PO}{i:Nat}{p:PO}{o:Oper}{id:Nat}{ob:(Nat→Nat)→Option A9}{n1:Nat→Nat}(hg:o.guard=none)(hd:o.dst=p.d)(u:∀d,p.d=some d→Nat.blt d s.N=true)(hp:p.hp=some (id,ob))(q:(Nat→Nat)→Ab)(j:(Nat→Nat)→AS)
  (w:∀D G,Bf ops D i→Fi (CW D G s.e L) (q G)) (A:∀D G,Bf ops D i→Fk (Dh D G s.h L) (j G))
  (h:∀(G:Nat→Nat) e l n,BV P true o (q G++e) (j G++l) n (p.v (C1 G i n)) ((id,ob (C1 G i n))::(j G++l)) (n1 n)):Ob P ops s L i p o:=
 Ye hg hd u hp q j w A λG e l n=>(h G e l n).toN
theorem GJ.frz{o}{R}{h}{n id g}{e:TypeId}{sz}{xs}(X:GJ P o R h n (.own id g) ((id,some (.arr g e sz xs))::h)):GJ P o R h n (.r (.sl xs)) ((id,none)::h):=by
 intro x a I Y Z he K Q hK
 refine X x a I Y Z he K Q λu y k1 A V k4=>?_
 have q:y.H id=some (.arr g e sz xs):=by rw[V,DC,vx rfl]
 let C:Cx:={ y with S:=λb=>y.S b∨∃k,y.β id=some (b,k),H:=hget ((id,none)::h) }
 have j:∀i o,C.H i=some o→i≠id∧y.H i=some o:=by
  intro i o w
  simp only[C,DC] at w
  split at w
  ·cases w
  ·rename_i E
   refine⟨λe=>E e.symm,?_⟩
   rw[V,DC,ne E];exact w
 have B:y.le C:=⟨wL _,rfl,rfl,rfl,λ_ _=>rfl,λ_ h=>.inl h,rfl,wL _,λi o w _=>⟨o,(j i o w).2,rfl,rfl,rfl⟩⟩
 have F:C.ok:=by
  refine⟨λb l=>?_,A.F_lt,λb l=>?_,λi o w=>?_,λi o b k w l=>?_,λi i' o o' b k J w M=>A.inj i i' o o' b k J (j _ _ w).2 (j _ _ M).2,A.tabs.le B⟩
  ·rcases l with l | ⟨k,l⟩
   ·exact A.S_lt b l
   ·exact(A.own id _ b k q l).1
  ·rcases l with l | ⟨k,l⟩
   ·exact A.SF b l
   ·exact(A.own id _ b k q l).2.2
  ·obtain⟨O,T⟩:=A.obj i o (j _ _ w).2
   exact⟨O,T.mono B λ_ _ _=>rfl⟩
  ·obtain⟨O,T,j3⟩:=A.own i o b k (j _ _ w).2 l
   refine⟨O,?_,j3⟩
   rintro(U | ⟨J,U⟩)
   ·exact T U
   ·exact(j _ _ w).1 (A.inj i id o _ b k J (j _ _ w).2 q l U)
 exact hK u C (k1.trans B) F rfl (.r (Sb A q k4 (λ_ h=>.inl h) (λb k l=>.inr ⟨k,l⟩)))
theorem rx{j}{o}{H}(h:hget H j=o):∀id,hget ((j,o)::H) id=hget H id:=λid=>by
 rw[DC]
 split
 ·rename_i e;subst e;exact h.symm
 ·rfl
theorem eV{o:Oper}{R}{h}{n}{f}{E}{xs:Array Operand}{l}{caps bs}(L:List Nat){hc}{r}{F}
 (M:o.op=.call { callee := .value E, args := xs, argTypes := l }) (q:Ev true R E (.fn f (FF L caps))) (w:GU L.length caps=true) (O:JZ R L xs.toList bs) (A:HN h L hc) (B:L.Nodup)
 (j:BY P f L.length (bs++caps) hc (λI J => ∃_:Nat→Nat, I=r∧J=F)):GJ P o R h n (ren L r) (Ga L F 1000 L++h) := by
  intro x a C T _ U K Q V
  refine Wc M q w O A B j C T U K Q λu y I J X Y Z k4 ⟨_, k5, k6⟩ => ?_
  subst k5;subst k6
  exact V u y X Y Z k4
end
section
variable{ops:Array Oper}{D:Nat→Bool}{G:Nat→Nat}{e:Ab}{h:AS}{L:List PO}{t:Nat}
theorem Mm(hB:KK L t=true){a}(j:get e t=a):get (CW D G e L) t=a:=(Gb D6 L e 0 (Od hB)).trans j
theorem PK{i}(l:Bf ops D i) j{p:PO}{a}(q:L[j]?=some p)(hd:p.d=some t)(u:wt ops 40 i j=true)(hB:KK (L.drop (j+1)) t=true)(w:p.v G=a):get (CW D G e L) t=a:=
 (I5 D6 (UL hd) L e 0 j q (by rw[wY];exact l.yes u) (Od hB)).trans w
theorem Mw(hB:U5 L t=true){a}(j:hget h t=a):hget (Dh D G h L) t=a:=(Gb DC L h 0 (og hB)).trans j
def OD(ops:Array Oper)(i t:Nat):List PO→Nat→Bool
 | [],_=>true
 | p::L,k=>(match p.hp with | some (d,_)=>!Nat.beq d t||Nat.beq k i||wt ops 40 k i | none=>true)&&OD ops i t L (k+1)
theorem YT{i}(w:Bf ops D i):∀ {L:List PO} {k:Nat},OD ops i t L k=true→Gw PO.wH D t L k
 | [],_,_=>λj _ _ h=>by simp at h
 | q::L,k,hB=>by
  simp only[OD,v7] at hB
  intro j p v A u B
  match j with
  | 0=>
   cases A
   obtain⟨E,C,_⟩:=UF B
   rw[C] at hB
   simp only[wF,wz] at hB
   rcases hB.1 with (l | l) | l
   ·simp at l
   ·rw[xM,wI l,w.un] at u;cases u
   ·rw[xM,w.no l] at u;cases u
  | j+1=>exact YT w hB.2 j p v (by simpa using A) (by rwa [show k+1+j=k+(j+1) by omega]) B
theorem JJ{i}(j:Bf ops D i)(hB:OD ops i t L 0=true){a}(l:hget h t=a):hget (Dh D G h L) t=a:=(Gb DC L h 0 (YT j hB)).trans l
theorem mb{i}(l:Bf ops D i) j{p:PO}{ob}{a}(q:L[j]?=some p)(hd:p.hp=some (t,ob))(u:wt ops 40 i j=true)(hB:OD ops i t (L.drop (j+1)) (j+1)=true)(w:ob G=a):hget (Dh D G h L) t=a:=
 (I5 DC (Z7 hd) L h 0 j q (by rw[wY];exact l.yes u) (by rw[wY];exact YT l hB)).trans w
end
end Go.Proofs.YtdafahjmopdleaaGreatDoor.Al
