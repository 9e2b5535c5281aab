/- The program logic, a part of it. -/
import Derived.Below
import Derived.CallsIn
import Derived.ChangeArms
import Derived.ChangeSame
import Derived.Deep.Fields
import Derived.Deep.LoopGhost
import Derived.Deep.Quiet
import Derived.Deep.Slices
import Derived.Laws.CopyRow
import Derived.Laws.StructEq
import Derived.Lib.ValidU
import Derived.Maps.AppendAt
import Derived.OpenShut
import Derived.OrdersHeld
import Derived.RangeFuncRecord
import Derived.RowKit
import Derived.Shelf.Unicode.ValidAny
import Derived.Sort.LoopGhostIn
import Derived.StillTail
import Derived.Test.YtgcalnmhoifpoaaGreatDoorProg
import Derived.WalkKit
import Derived.WalkLawsBesides
import Derived.WideKeyArgs
import GoSem.Core.Utf8
set_option linter.all false
namespace Go.Proofs.YtgcalnmhoifpoaaGreatDoor.Al
def vg:=@if_neg
def vh:=@if_pos
def vi:=@decide_eq_true_eq
def vj:=@decide_eq_true
def vk:=@decide_eq_false
def vl:=@List.getElem?_eq_some_iff
def vm:=@Bool.and_eq_true
def vn:=@List.mem_cons_self
def vo:=@List.getElem?_eq_getElem
def vp:=@List.mem_cons_of_mem
def vq:=@Nat.lt_of_lt_of_le
def vr:=@getElem!_pos
def vt:=@Bool.or_eq_true
def vu:=@Nat.le_refl
def vw:=@List.length_append
def vx:=@Nat.eq_of_beq_eq_true
def vy:=@List.append_assoc
def vz:=@Option.some.injEq
def v6:=@List.length_cons
def v7:=@List.length_map
def v8:=@Option.map_eq_some_iff
def wA:=@Prod.mk.injEq
def wB:=@List.map_cons
def wC:=@List.mem_cons
def wD:=@List.getElem?_map
def wF:=@List.cons_append
def wG:=@List.append_nil
def wI:=@List.all_eq_true
def wJ:=@List.mem_of_getElem?
def wK:=@Nat.zero_add
def wL:=@Classical.not_not
def wM:=@Classical.byContradiction
def wN:=@List.getElem?_append_right
def wO:=@List.getElem?_append_left
def wP:=@List.replicate_succ
def wR:=@Nat.mul_le_mul_right
def wS:=@Array.getElem?_eq_getElem
def wT:=@List.foldl_cons
def wU:=@List.mem_range
def wV:=@Array.length_toList
def wW:=@List.getElem?_take
def wX:=@List.mem_append
def wY:=@Option.some.inj
def wZ:=@List.length_replicate
def wc:=@Bool.eq_iff_iff
def wd:=@Int.toNat_natCast
def we:=@List.length_drop
def wg:=@List.length_singleton
def wh:=@List.getElem?_set
def wi:=@List.length_take
def wj:=@Nat.le_of_ble_eq_true
def wl:=@Bool.not_eq_true'
def wm:=@Array.getElem?_eq_some_iff
def wn:=@List.eq_nil_of_length_eq_zero
def wo:=@Nat.add_mul
def wq:=@Nat.le_trans
def ws:=@Nat.add_zero
def wu:=@List.mem_map
def wv:=@List.sum_cons
def ww:=@List.mem_iff_getElem
def wx:=@List.findSome?_eq_none_iff
def wy:=@Bool.true_and
def wz:=@List.mem_singleton
def w0:=@Array.getElem?_toList
def xD:=@Option.map_some
def xE:=@List.exists_of_findSome?_eq_some
def xF:=@List.countP_cons
def xG:=@List.mem_of_mem_take
def xJ:=@List.getElem?_drop
def xK:=@List.eq_of_mem_replicate
def xM:=@List.length_set
def xP:=@List.findSome?_cons
def xR:=@decide_eq_false_iff_not
def xT:=@Bool.false_eq_true
def xW:=@Bool.false_or
def xY:=@Bool.not_eq_true
def xZ:=@if_true
def xc:=@Nat.one_mul
def xd:=@Nat.zero_le
def xf:=@List.take_length
def xg:=@Option.getD_some
def xh:=@beq_self_eq_true
def xi:=@List.mem_or_eq_of_mem_set
def xj:=@List.drop_eq_getElem_cons
def xl:=@Nat.add_assoc
def xm:=@List.map_nil
def xo:=@List.take_append_drop
def xp:=@List.countP_replicate
def xq:=@Prod.mk.inj
def xr:=@List.getElem_mem
def xt:=@List.mem_of_mem_drop
def xu:=@Nat.ble_eq
def xw:=@Nat.blt_eq
def xx:=@List.take_of_length_le
def xy:=@List.length_pos_iff
def xz:=@List.mem_append_left
def yA:=@List.getElem?_cons_succ
def yC:=@congrArg
def yD:=@Bool.eq_false_iff
def yE:=@of_decide_eq_true
def yF:=@List.map_append
def yG:=@Nat.ne_of_beq_eq_false
def yH:=@Nat.mul_comm
def yJ:=@List.getD_eq_getElem?_getD
def yK:=@List.mem_iff_getElem?
def yL:=@Bool.and_eq_false_imp
def yM:=@Bool.false_and
def yN:=@List.countP_le_length
def yO:=@List.length_nil
def yP:=@if_false
def yQ:=@Nat.lt_or_ge
def yR:=@List.sum_nil
def yS:=@List.size_toArray
def yT:=@List.getElem?_set_ne
def yU:=@List.getElem_append_right
def yV:=@Bool.and_eq_true_iff
def yX:=@Bool.true_or
def yY:=@Nat.mod_eq_of_lt
def yZ:=@List.getElem_of_mem
def ya:=@List.map_take
def yc:=@List.nil_append
def yd:=@List.mem_filter
def ye:=@List.set_cons_zero
def yf:=@Nat.add_comm
def yg:=@UInt8.lt_iff_toNat_lt
def yh:=@List.length_filter_le
def yi:=@List.set_append_right
def yj:=@List.range_eq_range'
def yk:=@List.cons_ne_nil
def ym:=@Nat.div_eq_of_lt
def yn:=@List.map_toArray
def yo:=@Array.toList_map
def yp:=@Nat.lt_succ_self
def yq:=@List.ext_getElem
def yr:=@List.replicate_succ'
def yt:=@List.any_eq_true
def yu:=@Nat.mul_add_div
def yv:=@List.cons.injEq
def yw:=@Int.natCast_nonneg
def yx:=@Bool.and_false
def yy:=@List.length_eq_zero_iff
def yz:=@List.countP_cons_of_pos
def y8:=@List.flatMap_cons
def y9:=@Int.le_refl
def zA:=@Array.getElem?_eq_none
def zC:=@List.drop_of_length_le
def zD:=@List.getElem_cons_drop
def zE:=@List.all_cons
def zG:=@Bool.not_true
def zH:=@true_and
def zJ:=@Option.bind_some
def zK:=@List.drop_length
def zL:=@List.getElem_map
def zM:=@Array.all_eq_true_iff_forall_mem
def zN:=@List.mem_append_right
def zO:=@List.getElem_set_self
def zP:=@List.singleton_append
def zQ:=@List.getElem?_eq_none
def zR:=@Nat.zero_mul
def zS:=@Nat.mul_add_mod
def zT:=@Array.getElem?_range
def zU:=@Nat.not_lt_zero
def zV:=@Nat.sub_self
def zW:=@List.drop_drop
def zX:=@List.getElem_range
def zY:=@Array.getElem?_map
def zZ:=@List.map_replicate
def za:=@List.filter_append
def zb:=@List.set_cons_succ
def zc:=@Bool.and_self
def zd:=@List.foldl_append
def ze:=@Int.emod_eq_of_lt
def zf:=@List.getElem_drop
def zg:=@beq_iff_eq
def zh:=@List.map_set
def zi:=@List.range'_succ
def zj:=@List.filter_cons
def zk:=@Nat.beq_refl
inductive RV where
 | int (k:IntKind) (n:Int)
 | bool (b:Bool)
 | str (s:List UInt8)
 | sl (xs:List (List RV))
 | slf (xs:List (List RV))
 | any
def Ii:Nat:=0
def IP:Nat:=1
def GK:List Int:=List.replicate 128 240++(List.replicate 66 241++(List.replicate 30 2++([19]++(List.replicate 12 3++([35]++(List.replicate 2 3++([52]++(List.replicate 3 4++([68]++List.replicate 11 241)))))))))
def JJ:List (Int × Int):=[(128,191),(160,191),(128,159),(144,191),(128,143)]++List.replicate 11 (0,0)
def H8:Nat→Option (List RV):=λg=>
 if g=Ii then some (GK.flatMap λz=>[.int .u8 z]) else if g=IP then some (JJ.flatMap λp=>[.int .u8 p.1,.int .u8 p.2]) else none
def ef:Nat→Option (Array Value):=λ_=>none
def W4(_:World):Prop:=True
inductive AV where
 | r (x:RV)
 | agg (cs:List AV)
 | tup (vs:List AV)
 | own (id g:Nat)
 | pre (id g k:Nat)
 | ptr (id g i k:Nat)
 | rop (row:List RV) (k:Nat)
 | fn (f:FuncId) (caps:List AV)
 | mref (id g:Nat)
 | yld (id g:Nat)
 | full (xs:List (List RV))
 | pk (id g v j k:Nat)
 | fo (id g v:Nat) (key:Int)
 | cst (v:Value)
 | whn (b:Bool) (v:AV)
 | ifc (nil:Bool)
 | any
structure Yn where
 P:Program
 A:List (List RV)→Option Bool
 b:Nat
 S:Nat→Prop
 J:List (List RV)→World→(Nat→Prop)→Prop
inductive Ab where
 | arr (g:Nat) (e:TypeId) (sz:Nat) (xs:List (List RV))
 | box (g:Nat) (e:TypeId) (cs:List AV)
 | hot (g:Nat) (e:TypeId) (xs:List (List RV)) (k id g':Nat)
 | it (g:Nat) (s:List UInt8) (pos:Nat)
 | mp (g:Nat) (ks:List (Int × Nat)) (vs:List AV) (clock:Nat)
 | mi (g mid mg since:Nat) (Bi:List Nat) (last:Nat)
 | lp (g:Nat) (e:List (Nat × AV)) (N:Nat) (ps:List Nat) (assign body:Code) (st:LoopState) (pend:Option Code)
 | md (g:Nat) (l:List (Int × RV))
 | mb (g v:Nat) (e:TypeId) (l:List (Int × List RV))
 | mr (g v:Nat) (e:TypeId) (sz:Nat) (hole:Option (Nat × Bool)) (l:List (Int × List (List RV)))
 | mj (g mid mg len:Nat) (Bi:List Nat)
 | cal (g:Nat) (W:Yn) (ys:List (List RV))
 | rr (g:Nat) (e:TypeId) (sz col:Nat) (e2:TypeId) (sz2:Nat) (hole:Option (Nat × Nat × Nat)) (xs:List (List RV))
def Ab.gen:Ab→Nat
 | .arr g _ _ _=>g
 | .box g _ _=>g
 | .hot g _ _ _ _ _=>g
 | .it g _ _=>g
 | .mp g _ _ _=>g
 | .mi g _ _ _ _ _=>g
 | .lp g _ _ _ _ _ _ _=>g
 | .md g _=>g
 | .mb g _ _ _=>g
 | .mr g _ _ _ _ _=>g
 | .mj g _ _ _ _=>g
 | .cal g _ _=>g
 | .rr g _ _ _ _ _ _ _=>g
def Ab.shape:Ab→Bool × Nat × Nat
 | .arr _ _ sz xs=>(true,sz,xs.length)
 | .box _ _ j=>(false,j.length,1)
 | .hot _ _ xs _ _ _=>(true,1,xs.length)
 | .it _ _ _=>(false,1,1)
 | .mp _ _ _ _=>(false,1,1)
 | .mi _ _ _ _ _ _=>(false,1,1)
 | .lp _ _ _ _ _ _ _ _=>(false,1,1)
 | .md _ _=>(false,1,1)
 | .mb _ _ _ _=>(false,1,1)
 | .mr _ _ _ _ _ _=>(false,1,1)
 | .mj _ _ _ _ _=>(false,1,1)
 | .cal _ _ _=>(false,0,2)
 | .rr _ _ sz _ _ _ _ xs=>(true,sz,xs.length)
def Ab.isCal:Ab→Bool
 | .cal _ _ _=>true
 | _=>false
theorem T6{o j:Ab}(h:o.shape=j.shape):o.isCal=j.isCal:=by
 cases o<;>cases j<;>first | rfl | (simp[Ab.shape] at h;done)
def Uz{α:Type} : List (Int × α)→Int→Option Nat
 | [],_=>none
 | p::r,k=>if k=p.1 then some 0 else(Uz r k).map (· + 1)
def Ab.ver:Ab→Nat
 | .mb _ v _ _=>v
 | .mr _ v _ _ _ _=>v
 | _=>0
def Ab.isFam:Ab→Bool
 | .mb _ _ _ _=>true
 | .mr _ _ _ _ _ _=>true
 | _=>false
def Ab.kshape:Ab→List (Int × Option Nat)
 | .mb _ _ _ l=>l.map λp=>(p.1,some p.2.length)
 | .mr _ _ _ _ _ l=>l.map λp=>(p.1,some p.2.length)
 | _=>[]
abbrev AX:=List (Nat × AV)
abbrev AO:=List (Nat × Option Ab)
def get:AX→Nat→AV
 | [],_=>.any
 | (t,v)::r,k=>match Nat.beq t k with | true=>v | false=>get r k
def hget:AO→Nat→Option Ab
 | [],_=>none
 | (t,v)::r,k=>match Nat.beq t k with | true=>v | false=>hget r k
inductive BE(w:World)(S:Nat→Prop):RV→Value→Prop
 | int (k:IntKind) (n:Int):BE w S (.int k n) (.int k n)
 | bool (b:Bool):BE w S (.bool b) (.bool b)
 | str (s:ByteArray):BE w S (.str s.data.toList) (.string s)
 | snil:BE w S (.sl []) (.slice none 0 0)
 | sl0 (a:Addr):BE w S (.sl []) (.slice (some a) 0 0)
 | sl (b off:Nat) (xs:List (List RV)) (cap size:Nat) (u:Nat→Nat→Value) (hS:xs≠[]→S b) (hc:xs.length≤cap) (hm:cap≤maxLen)
   (hsz:∀row∈xs,row.length=size)
   (hcell:∀i row c x,xs[i]?=some row→row[c]?=some x→w.cell? ⟨b,off+i * size+c,none⟩=some (u i c))
   (hrep:∀i row c x,xs[i]?=some row→row[c]?=some x→BE w S x (u i c)) :
   BE w S (.sl xs) (.slice (some ⟨b,off,none⟩) xs.length cap)
 | any (v:Value) (h:v.oneCell'=true):BE w S .any v
 | slf {xs:List (List RV)} {v:Value} (h:BE w S (.sl xs) v) (hf:∃a,v=.slice a xs.length xs.length):BE w S (.slf xs) v
theorem BE.one{w}{S}{x}{v:Value}(h:BE w S x v):v.oneCell'=true:=by
 cases h<;>first | rfl | assumption | (rename_i j;obtain⟨a,rfl⟩:=j;rfl)
theorem BE.mono{w w':World}{S S'}(E:∀b, S b→w'.heap[b]?=w.heap[b]?)(F:∀b, S b→S' b){x}{v}
 (h:BE w S x v):BE w' S' x v := by
  induction h with
  | int k n => exact .int k n
  | bool b => exact .bool b
  | str s => exact .str s
  | snil => exact .snil
  | sl0 a => exact .sl0 a
  | sl b off xs cap size u l I J hsz j B q =>
    refine .sl b off xs cap size u (λh => F _ (l h)) I J hsz (λi row c x C M => ?_) q
    have A:xs≠[] := by rintro rfl;simp at C
    rw[← j i row c x C M]
    exact World.cell?_of_block (E _ (l A))
  | any v h => exact .any v h
  | slf _ O q => exact .slf q O
structure Cx where
 w:World
 S:Nat→Prop
 F:Nat→Prop
 H:Nat→Option Ab
 β:Nat→Option (Nat × Nat)
 K:Nat→Nat→Option (Nat × Nat)
 n:Nat
def Bm(β:Option (Nat × Nat))(len:Nat)(v:Value):Prop:=
 match β with
 | none=>len=0∧v=.slice none 0 0
 | some (b,cap)=>v=.slice (some ⟨b,0,none⟩) len cap
inductive AP(x:Cx):AV→Value→Prop
 | r {d:RV} {v:Value} (h:BE x.w x.S d v):AP x (.r d) v
 | agg {cs:List AV} {us:Array Value} (hl:cs.length=us.size) (h:∀(i:Nat) (c:AV) (u:Value),cs[i]?=some c→us[i]?=some u→AP x c u):AP x (.agg cs) (.agg us)
 | tup {cs:List AV} {us:Array Value} (hl:cs.length=us.size) (h:∀(i:Nat) (c:AV) (u:Value),cs[i]?=some c→us[i]?=some u→AP x c u):AP x (.tup cs) (.tuple us)
 | own {id g:Nat} {v:Value} (hg:g<x.n) (h1:v.oneCell'=true) (h:∀o,x.H id=some o→o.gen=g→Bm (x.β id) o.shape.2.2 v):AP x (.own id g) v
 | pre {id g k:Nat} {v:Value} (hg:g<x.n) (h1:v.oneCell'=true) (h:∀o,x.H id=some o→o.gen=g→k≤o.shape.2.2∧Bm (x.β id) k v):AP x (.pre id g k) v
 | ptr {id g i k:Nat} {v:Value} (hg:g<x.n) (h1:v.oneCell'=true) (h:∀o,x.H id=some o→o.gen=g→∃b cap,x.β id=some (b,cap)∧v=.pointer (some ⟨b,i * o.shape.2.1+k,none⟩)) :
   AP x (.ptr id g i k) v
 | mref {id g:Nat} {v:Value} (hg:g<x.n) (h1:v.oneCell'=true) (h:∀o,x.H id=some o→o.gen=g→∃b cap,x.β id=some (b,cap)∧v=.map (some b)):AP x (.mref id g) v
 | yld {id g:Nat} {v:Value} (hg:g<x.n) (h1:v.oneCell'=true) (h:∀o,x.H id=some o→o.gen=g→∃b cap,x.β id=some (b,cap)∧v=.func (.yield b) #[] #[]):AP x (.yld id g) v
 | pk {id g ve j k:Nat} {v:Value} (hg:g<x.n) (hv:ve<x.n) (h1:v.oneCell'=true) (h:∀o b c q m,x.H id=some o→o.isFam=true→o.gen=g→o.ver=ve→o.kshape[j]?=some (q,some m)→x.K id j=some (b,c)→v=.pointer (some ⟨b,k,none⟩)):AP x (.pk id g ve j k) v
 | fo {id g ve:Nat} {key:Int} {v:Value} (hg:g<x.n) (hv:ve<x.n) (h1:v.oneCell'=true) (h:∀o,x.H id=some o→o.isFam=true→o.gen=g→o.ver=ve→(Uz o.kshape key=none→v=.slice none 0 0) ∧
   ∀j q m b c,Uz o.kshape key=some j→o.kshape[j]?=some (q,some m)→x.K id j=some (b,c)→v=.slice (some ⟨b,0,none⟩) m c):AP x (.fo id g ve key) v
 | full {xs:List (List RV)} {v:Value} (h:BE x.w x.S (.sl xs) v) (hf:∃a,v=.slice a xs.length xs.length):AP x (.full xs) v
 | rop {row:List RV} {k b off:Nat} (u:Nat→Value) (hS:row≠[]→x.S b) (hc:∀j d,row[j]?=some d→x.w.cell? ⟨b,off+j,none⟩=some (u j))
   (hr:∀j d,row[j]?=some d→BE x.w x.S d (u j)):AP x (.rop row k) (.pointer (some ⟨b,off+k,none⟩))
 | fn {f:FuncId} {cs:List AV} {us:Array Value} (hl:cs.length=us.size) (h:∀(i:Nat) (c:AV) (u:Value),cs[i]?=some c→us[i]?=some u→AP x c u):AP x (.fn f cs) (.func (.func f) #[] us)
 | cst (v:Value):AP x (.cst v) v
 | whn {b:Bool} {a:AV} {v:Value} (h:b=true→AP x a v) (h2:b=false→v=undef):AP x (.whn b a) v
 | ifc {b:Bool} {v:Value} (h1:v.oneCell'=true) (h:b=true→v=.nilIface) (h2:b=false→∃t u,v=.iface t u):AP x (.ifc b) v
 | any (v:Value):AP x .any v
structure Cx.le(x y:Cx):Prop where
 size:x.w.heap.size≤y.w.heap.size
 os:y.w.os=x.w.os
 tape:y.w.tape=x.w.tape
 output:y.w.output=x.w.output
 blk:∀b,x.S b∨x.F b→y.w.heap[b]?=x.w.heap[b]?
 S:∀b,x.S b→y.S b
 F:y.F=x.F
 n:x.n≤y.n
 H:∀id o',y.H id=some o'→o'.gen<x.n∨o'.isCal=true→∃o,x.H id=some o∧o.gen=o'.gen∧o.shape=o'.shape∧y.β id=x.β id
 K:∀id o',y.H id=some o'→o'.isFam=true→o'.gen<x.n→o'.ver<x.n→∃o,x.H id=some o∧o.isFam=true∧o.gen=o'.gen∧o.ver=o'.ver∧o.kshape=o'.kshape∧y.K id=x.K id
theorem Cx.le.refl(x:Cx):x.le x:=⟨vu _,rfl,rfl,rfl,λ_ _=>rfl,λ_ h=>h,rfl,vu _,λ_ o h _=>⟨o,h,rfl,rfl,rfl⟩,λ_ o h j _ _=>⟨o,h,j,rfl,rfl,rfl,rfl⟩⟩
theorem Cx.le.trans{x y z:Cx}(h:x.le y)(k:y.le z):x.le z where
 size:=wq h.size k.size
 os:=k.os.trans h.os
 tape:=k.tape.trans h.tape
 output:=k.output.trans h.output
 blk b u:=(k.blk b (u.imp (h.S b) (λf=>by rw[h.F];exact f))).trans (h.blk b u)
 S b u:=k.S b (h.S b u)
 F:=k.F.trans h.F
 n:=wq h.n k.n
 H id j w hg:=by
  obtain⟨A,B,l,q,C⟩:=k.H id j w (hg.imp (λhg=>vq hg h.n) _root_.id)
  obtain⟨o,E,F,I,J⟩:=h.H id A B (by rw[l,T6 q];exact hg)
  exact⟨o,E,F.trans l,I.trans q,C.trans J⟩
 K id j w O hg M:=by
  obtain⟨A,B,T,l,q,C,U⟩:=k.K id j w O (vq hg h.n) (vq M h.n)
  obtain⟨o,E,V,F,I,J,X⟩:=h.K id A B T (by rw[l];exact hg) (by rw[q];exact M)
  exact⟨o,E,V,F.trans l,I.trans q,J.trans C,U.trans X⟩
theorem AP.mono{x y:Cx}(h:x.le y){a}{v}(ha:AP x a v):AP y a v:=by
 have O:∀b,x.S b→y.w.heap[b]?=x.w.heap[b]?:=λb O=>h.blk b (.inl O)
 induction ha with
 | r T=>exact .r (T.mono O h.S)
 | agg U _ M=>exact .agg U M
 | tup U _ M=>exact .tup U M
 | own hg w E=>
  refine .own (vq hg h.n) w λF A l=>?_
  obtain⟨o,w,C,I,J⟩:=h.H _ F A (.inl (by rw[l];exact hg))
  rw[J,← I]
  exact E o w (C.trans l)
 | pre hg w E=>
  refine .pre (vq hg h.n) w λF A l=>?_
  obtain⟨o,w,C,I,J⟩:=h.H _ F A (.inl (by rw[l];exact hg))
  rw[J,← I]
  exact E o w (C.trans l)
 | ptr hg w E=>
  refine .ptr (vq hg h.n) w λF A l=>?_
  obtain⟨o,w,C,I,J⟩:=h.H _ F A (.inl (by rw[l];exact hg))
  rw[J,← I]
  exact E o w (C.trans l)
 | mref hg w E=>
  refine .mref (vq hg h.n) w λF A l=>?_
  obtain⟨o,w,C,I,J⟩:=h.H _ F A (.inl (by rw[l];exact hg))
  rw[J]
  exact E o w (C.trans l)
 | yld hg w E=>
  refine .yld (vq hg h.n) w λF A l=>?_
  obtain⟨o,w,C,I,J⟩:=h.H _ F A (.inl (by rw[l];exact hg))
  rw[J]
  exact E o w (C.trans l)
 | pk hg V w E=>
  refine .pk (vq hg h.n) (vq V h.n) w λF b c q m A X l B hm hp=>?_
  obtain⟨o,Z,k0,k2,k3,k4,k5⟩:=h.K _ F A X (by rw[l];exact hg) (by rw[B];exact V)
  exact E o b c q m Z k0 (k2.trans l) (k3.trans B) (by rw[k4];exact hm) (by rw[← k5];exact hp)
 | fo hg V w E=>
  refine .fo (vq hg h.n) (vq V h.n) w λF A X l B=>?_
  obtain⟨o,Z,k0,k2,k3,k4,k5⟩:=h.K _ F A X (by rw[l];exact hg) (by rw[B];exact V)
  obtain⟨e1,e2⟩:=E o Z k0 (k2.trans l) (k3.trans B)
  rw[k4] at e1 e2
  exact⟨e1,λj q m b c w C I=>e2 j q m b c w C (by rw[← k5];exact I)⟩
 | full T X=>exact .full (T.mono O h.S) X
 | @rop row k b off u hS hc T=>
  refine .rop u (λhn=>h.S _ (hS hn)) (λj d Y=>?_) (λj d Y=>(T j d Y).mono O h.S)
  have a0:row≠[]:=λe=>by subst e;simp at Y
  rw[← hc j d Y]
  exact World.cell?_of_block (O _ (hS a0))
 | fn U _ M=>exact .fn U M
 | cst v=>exact .cst v
 | whn _ C M=>exact .whn M C
 | ifc w h C=>exact .ifc w h C
 | any v=>exact .any v
def l8(P:Program)(b:Nat)(us:Array Value)(w:World)(l:Ending→World→Prop):Prop:=
 ∃f j q u,(Instr.yield b us).run P w=.ok (.round b f j q u) w∧RoundIn { Fence.wide with round:=none } (0-1) P b f j q u w l
structure su(W:Yn):Prop where
 stab:∀ys w w' κ,W.J ys w κ→w.heap.size≤w'.heap.size→w'.os=w.os→w'.tape=w.tape→w'.output=w.output→(∀c,c=W.b∨κ c∨W.S c→w'.heap[c]?=w.heap[c]?)→W.J ys w' κ
 round:∀ys y c w κ us,W.A (ys++[y])=some c→W.J ys w κ→us.size=y.length→(∀(i:Nat) (d:RV) (u:Value),y[i]?=some d→us[i]?=some u→BE w (λ_=>False) d u) →
  l8 W.P W.b us w λe w'=>e=.returned (.bool c)∧∃κ',W.J (ys++[y]) w' κ'∧w.heap.size≤w'.heap.size∧w'.os=w.os∧w'.tape=w.tape∧w'.output=w.output ∧
   (∀d,d<w.heap.size→d≠W.b→¬ κ d→w'.heap[d]?=w.heap[d]?)∧(∀d,κ' d→(κ d∨w.heap.size≤d)∧d<w'.heap.size∧d≠W.b)
def Jg(w:World)(S:Nat→Prop)(β:Option (Nat × Nat))(e:TypeId)(sz:Nat)(j:List (List RV))(u:Value):Prop:=
 (∀row∈j,row.length=sz)∧Bm β j.length u∧∃l,w.ownsRow 0 e sz u j.length l∧∀i row c d,j[i]?=some row→row[c]?=some d→∃v,l[i * sz+c]?=some v∧BE w S d v
def EQ(x:Cx)(β:Option (Nat × Nat))(κ:Nat→Option (Nat × Nat)):Ab→Prop
 | .arr _ e sz xs=>0<sz∧(∀row∈xs,row.length=sz)∧∃w A,Bm β xs.length w∧x.w.ownsRow 0 e sz w xs.length A ∧
   ∀i row c d,xs[i]?=some row→row[c]?=some d→∃u,A[i * sz+c]?=some u∧BE x.w x.S d u
 | .box _ e J=>∃(b:Nat) (B:Array Value),β=some (b,1)∧x.w.heap[b]?=some (.cells B e (0,0))∧B.size=J.length ∧
   ∀(j:Nat) (c:AV),J[j]?=some c→∃u:Value,B[j]?=some u∧u.oneCell'=true∧AP x c u
 | .hot _ e xs k id M=>k<xs.length∧(∀row∈xs,row.length=1)∧∃w A,Bm β xs.length w∧x.w.ownsRow 0 e 1 w xs.length A ∧
   (∀i row d,i≠k→xs[i]?=some row→row[0]?=some d→∃u,A[i]?=some u∧BE x.w x.S d u)∧∃u,A[k]?=some u∧AP x (.own id M) u
 | .it _ s pos=>∃b:Nat,β=some (b,1)∧x.w.heap[b]?=some (.stringIter ⟨s.toArray⟩ pos)
 | .mp _ ks X clock=>∃(b:Nat) (A:List Value),β=some (b,1)∧A.length=ks.length∧X.length=ks.length ∧
   x.w.heap[b]?=some (.map ((ks.zip A).map λp=>({ key:=.int .i64 p.1.1,val:=p.2,born:=p.1.2 } : MapEntry)).toArray clock) ∧
   ∀(j:Nat) (c:AV) (u:Value),X[j]?=some c→A[j]?=some u→AP x c u
 | .mi _ E V F Bi last=>∃b m:Nat,β=some (b,1)∧x.w.heap[b]?=some (.mapIter (some m) F Bi.toArray last)∧AP x (.mref E V) (.map (some m))
 | .lp _ e N Z assign O st T=>∃(b:Nat) (r:Loop),β=some (b,1)∧x.w.heap[b]?=some (.loop r)∧r.params=Z.toArray∧r.assign=assign∧r.body=O∧r.state=st∧r.pending=T∧r.tmps.size=N ∧
   ∀t,AP x (get e t) (r.tmps.getD t undef)
 | .md _ l=>∃(b:Nat) (C:List MapEntry),β=some (b,1)∧x.w.heap[b]?=some (.map C.toArray l.length)∧C.length=l.length ∧
   ∀(j:Nat) (k:Int) (d:RV),l[j]?=some (k,d)→∃m,C[j]?=some m∧m.key=.int .i64 k∧m.born=j∧BE x.w x.S d m.val
 | .mb _ v e l=>v<x.n∧∃(b:Nat) (C:List MapEntry),β=some (b,1)∧x.w.heap[b]?=some (.map C.toArray l.length)∧C.length=l.length ∧
   ∀(j:Nat) (k:Int) (J:List RV),l[j]?=some (k,J)→∃m I B,C[j]?=some m∧m.key=.int .i64 k∧m.born=j∧κ j=some (I,1)∧m.val=.pointer (some ⟨I,0,none⟩)∧x.w.heap[I]?=some (.cells B e (0,0))∧B.size=J.length ∧
    ∀(i:Nat) (c:RV),J[i]?=some c→∃u:Value,B[i]?=some u∧u.oneCell'=true∧BE x.w x.S c u
 | .mr _ v e sz hole l=>0<sz∧v<x.n∧∃(b:Nat) (C:List MapEntry),β=some (b,1)∧x.w.heap[b]?=some (.map C.toArray C.length)∧(match hole with | some (j,true)=>l.length=C.length+1∧j=C.length | _=>l.length=C.length) ∧
   ∀(j:Nat) (k:Int) (xs:List (List RV)),l[j]?=some (k,xs)→(∀row∈xs,row.length=sz)∧∃I cap A,κ j=some (I,cap)∧x.w.ownsRow 0 e sz (.slice (some ⟨I,0,none⟩) xs.length cap) xs.length A ∧
    (∀i row c d,xs[i]?=some row→row[c]?=some d→∃u,A[i * sz+c]?=some u∧BE x.w x.S d u) ∧
    (hole=some (j,true)∨∃m,C[j]?=some m∧m.key=.int .i64 k∧m.born=j∧(hole=some (j,false)∨m.val=.slice (some ⟨I,0,none⟩) xs.length cap))
 | .mj _ E V len Bi=>∃b m:Nat,β=some (b,1)∧x.w.heap[b]?=some (.mapIter (some m) len Bi.toArray len)∧AP x (.mref E V) (.map (some m))
 | .rr _ e sz col e2 sz2 hole xs=>(0<sz∧col<sz∧0<sz2∧∀row∈xs,row.length=sz)∧∃w A,Bm β xs.length w∧x.w.ownsRow 0 e sz w xs.length A ∧
   (∀i row c d,c≠col→xs[i]?=some row→row[c]?=some d→∃u,A[i * sz+c]?=some u∧BE x.w x.S d u) ∧
   ∀i row,xs[i]?=some row→∃u,A[i * sz+col]?=some u∧((∃r M,hole=some (i,r,M)∧AP x (.own r M) u)∨((∀r M,hole≠some (i,r,M))∧∃U,row[col]?=some (.sl U)∧Jg x.w x.S (κ i) e2 sz2 U u))
 | .cal _ W U=>∃Y,β=some (W.b,1)∧su W∧W.J U x.w Y∧(∀c,Y c→∃j q,κ j=some (c,q))∧∀c,W.S c→x.S c
structure F6(x:Cx):Prop where
 tab:∀g row,H8 g=some row→AP x (.rop row 0) (.pointer (some ⟨g,0,none⟩))
 whole:∀g cs,ef g=some cs→x.S g∧0<cs.size∧∃t p,x.w.heap[g]?=some (.cells cs t p)
 fact:∃W0:World,W4 W0∧Go.RowKit.Below W0.heap.size W0 x.w∧∀b,b<W0.heap.size→x.S b
theorem F6.le{x y:Cx}(h:F6 x)(j:x.le y):F6 y:=⟨λg row hg=>(h.tab g row hg).mono j,λg A hg=>by
 obtain⟨q,B,t,p,l⟩:=h.whole g A hg
 exact⟨j.S g q,B,t,p,by rw[j.blk g (.inl q),l]⟩,by
 obtain⟨W0,q,l,w⟩:=h.fact
 exact⟨W0,q,⟨j.os.trans l.os,j.tape.trans l.tape,j.output.trans l.output,wq l.size j.size,λb u=>(j.blk b (.inl (w b u))).trans (l.block b u)⟩,λb u=>j.S b (w b u)⟩⟩
theorem F6.same{x y:Cx}(h:F6 x)(q:y.w=x.w)(w:∀b,x.S b→y.S b):F6 y:=by
 refine⟨λg row hg=>?_,λg F hg=>by rw[q];exact⟨w g (h.whole g F hg).1,(h.whole g F hg).2⟩,by obtain⟨W0,l,A,B⟩:=h.fact;exact⟨W0,l,by rw[q];exact A,λb C=>w b (B b C)⟩⟩
 have C:∀b,x.S b→y.w.heap[b]?=x.w.heap[b]?:=λ_ _=>by rw[q]
 have l:=h.tab g row hg
 generalize I:(Value.pointer (some ⟨g,0,none⟩))=v at l
 cases l with
 | rop u l A B=>exact .rop u (λh=>w _ (l h)) (λj d E=>by rw[q];exact A j d E) (λj d E=>(B j d E).mono C w)
structure Cx.ok(x:Cx):Prop where
 S_lt:∀b,x.S b→b<x.w.heap.size
 F_lt:∀b,x.F b→b<x.w.heap.size
 SF:∀b,x.S b→¬ x.F b
 obj:∀id o,x.H id=some o→o.gen<x.n∧EQ x (x.β id) (x.K id) o
 own:∀id o b k,x.H id=some o→x.β id=some (b,k)→b<x.w.heap.size∧¬ x.S b∧¬ x.F b
 inj:∀id id' o o' b k k',x.H id=some o→x.H id'=some o'→x.β id=some (b,k)→x.β id'=some (b,k')→id=id'
 ext:∀id o j b c,x.H id=some o→x.K id j=some (b,c)→b<x.w.heap.size∧¬ x.S b∧¬ x.F b∧(∀id' o' k,x.H id'=some o'→x.β id'=some (b,k)→False) ∧
  ∀id' o' j' c',x.H id'=some o'→x.K id' j'=some (b,c')→id'=id∧j'=j
 tabs:F6 x
theorem W6{w w':World}{β}{len}{j}{e}{sz}{us}(B:∀b k,β=some (b,k)→w'.heap[b]?=w.heap[b]?)(l:Bm β len j)(h:w.ownsRow 0 e sz j len us):w'.ownsRow 0 e sz j len us:=by
 obtain⟨C,q⟩:=h
 refine⟨C,?_⟩
 rcases q with q | ⟨E,cap,u,A,F,I,J,M,O,T⟩
 ·exact .inl q
 ·refine .inr ⟨E,cap,u,A,F,?_,J,M,O,T⟩
  rw[← I]
  subst A
  cases β with
  | none=>obtain⟨_,l⟩:=l;cases l
  | some p=>
   obtain⟨b,k⟩:=p
   simp only[Bm,Value.slice.injEq,vz,Addr.mk.injEq] at l
   rw[l.1.1]
   exact B b k rfl
theorem Jg.mono{w w':World}{S S'}(q:∀b,S b→w'.heap[b]?=w.heap[b]?)(A:∀b,S b→S' b){β}(B:∀b k,β=some (b,k)→w'.heap[b]?=w.heap[b]?){e}{sz}{j}{u}(h:Jg w S β e sz j u):Jg w' S' β e sz j u:=by
 obtain⟨C,l,E,F,I⟩:=h
 exact⟨C,l,E,W6 B l F,λi row c d J M=>let ⟨v,O,T⟩:=I i row c d J M;⟨v,O,T.mono q A⟩⟩
theorem EQ.mono{x y:Cx}(h:x.le y){β:Option (Nat × Nat)}{κ:Nat→Option (Nat × Nat)}(w:∀b k,β=some (b,k)→y.w.heap[b]?=x.w.heap[b]?)(hκ:∀j b k,κ j=some (b,k)→y.w.heap[b]?=x.w.heap[b]?){o:Ab}(O:EQ x β κ o):EQ y β κ o:=by
 have Y:∀b,x.S b→y.w.heap[b]?=x.w.heap[b]?:=λb Y=>h.blk b (.inl Y)
 cases o with
 | arr g e sz xs=>
  obtain⟨Z,T,U,us,A,V,C⟩:=O
  refine⟨Z,T,U,us,A,?_,λi row c d E I=>?_⟩
  ·obtain⟨hl,hr⟩:=V
   refine⟨hl,?_⟩
   rcases hr with hr | ⟨gg,cap,F,hv,E,I,J,M,h5,h6⟩
   ·exact .inl hr
   ·refine .inr ⟨gg,cap,F,hv,E,?_,J,M,h5,h6⟩
    rw[← I]
    subst hv
    cases β with
    | none=>obtain⟨_,A⟩:=A;cases A
    | some p=>
     obtain⟨b,k⟩:=p
     simp only[Bm,Value.slice.injEq,vz,Addr.mk.injEq] at A
     rw[A.1.1]
     exact w b k rfl
  ·obtain⟨u,J,M⟩:=C i row c d E I
   exact⟨u,J,M.mono Y h.S⟩
 | box g e cs=>
  obtain⟨b,F,B,A,hs,C⟩:=O
  refine⟨b,F,B,(w b 1 B).trans A,hs,λj c hj=>?_⟩
  obtain⟨u,E,I,J⟩:=C j c hj
  exact⟨u,E,I,J.mono h⟩
 | hot g e xs k id g'=>
  obtain⟨Z,T,U,us,A,V,C,u0,hk,hu⟩:=O
  refine⟨Z,T,U,us,A,?_,λi row d a2 E I=>?_,u0,hk,hu.mono h⟩
  ·obtain⟨hl,hr⟩:=V
   refine⟨hl,?_⟩
   rcases hr with hr | ⟨gg,cap,F,hv,E,I,J,M,h5,h6⟩
   ·exact .inl hr
   ·refine .inr ⟨gg,cap,F,hv,E,?_,J,M,h5,h6⟩
    rw[← I]
    subst hv
    cases β with
    | none=>obtain⟨_,A⟩:=A;cases A
    | some p=>
     obtain⟨b,k⟩:=p
     simp only[Bm,Value.slice.injEq,vz,Addr.mk.injEq] at A
     rw[A.1.1]
     exact w b k rfl
  ·obtain⟨u,J,M⟩:=C i row d a2 E I
   exact⟨u,J,M.mono Y h.S⟩
 | it g s pos=>
  obtain⟨b,B,A⟩:=O
  exact⟨b,B,(w b 1 B).trans A⟩
 | mp g ks vs clock=>
  obtain⟨b,us,B,E,I,A,C⟩:=O
  exact⟨b,us,B,E,I,(w b 1 B).trans A,λj c u k1 k2=>(C j c u k1 k2).mono h⟩
 | mi g a6 mg a7 Bi last=>
  obtain⟨b,m,B,A,hm⟩:=O
  exact⟨b,m,B,(w b 1 B).trans A,hm.mono h⟩
 | lp g e N ps assign aa st ab=>
  obtain⟨b,r,B,A,E,I,J,M,h5,h6,he⟩:=O
  exact⟨b,r,B,(w b 1 B).trans A,E,I,J,M,h5,h6,λt=>(he t).mono h⟩
 | md g l=>
  obtain⟨b,es,B,A,hl,C⟩:=O
  exact⟨b,es,B,(w b 1 B).trans A,hl,λj k d hj=>by
   obtain⟨m,k1,k2,k3,X⟩:=C j k d hj
   exact⟨m,k1,k2,k3,X.mono Y h.S⟩⟩
 | mb g v e l=>
  obtain⟨Z,b,es,B,A,hl,C⟩:=O
  exact⟨vq Z h.n,b,es,B,(w b 1 B).trans A,hl,λj k cs hj=>by
   obtain⟨m,bb,F,k1,k2,k3,X,k5,k6,k7,k8⟩:=C j k cs hj
   exact⟨m,bb,F,k1,k2,k3,X,k5,(hκ j bb 1 X).trans k6,k7,λi c hi=>by
    obtain⟨u,e1,e2,e3⟩:=k8 i c hi
    exact⟨u,e1,e2,e3.mono Y h.S⟩⟩⟩
 | mr g v e sz hole l=>
  obtain⟨Z,hv,b,es,B,A,hl,C⟩:=O
  refine⟨Z,vq hv h.n,b,es,B,(w b 1 B).trans A,hl,λj k xs hj=>?_⟩
  obtain⟨hr,bb,cap,us,e1,⟨a8,e3⟩,e4,e5⟩:=C j k xs hj
  refine⟨hr,bb,cap,us,e1,⟨a8,?_⟩,λi row c d q1 q2=>by
   obtain⟨u,q3,q4⟩:=e4 i row c d q1 q2
   exact⟨u,q3,q4.mono Y h.S⟩,e5⟩
  rcases e3 with e3 | ⟨gg,a1,F,a0,f1,f2,f3,f4,f5,f6⟩
  ·exact .inl e3
  ·refine .inr ⟨gg,a1,F,a0,f1,?_,f3,f4,f5,f6⟩
   rw[← f2]
   simp only[Value.slice.injEq,vz,Addr.mk.injEq] at a0
   rw[← a0.1.1]
   exact hκ j bb cap e1
 | mj g a6 mg len Bi=>
  obtain⟨b,m,B,A,hm⟩:=O
  exact⟨b,m,B,(w b 1 B).trans A,hm.mono h⟩
 | rr g e sz col e2 sz2 hole xs=>
  obtain⟨Z,U,us,E,I,J,M⟩:=O
  refine⟨Z,U,us,E,W6 w E I,λi row c d C k1 k2=>?_,λi row hi=>?_⟩
  ·obtain⟨u,k3,X⟩:=J i row c d C k1 k2
   exact⟨u,k3,X.mono Y h.S⟩
  ·obtain⟨u,k1,k2⟩:=M i row hi
   exact⟨u,k1,k2.imp (λ⟨r,g',k3,X⟩=>⟨r,g',k3,X.mono h⟩) λ⟨k3,ys,X,k5⟩=>⟨k3,ys,X,k5.mono Y h.S (hκ i)⟩⟩
 | cal g W ys=>
  obtain⟨κs,E,I,J,M,h5⟩:=O
  refine⟨κs,E,I,I.stab ys x.w y.w κs J h.size h.os h.tape h.output λc C=>?_,M,λc C=>h.S c (h5 c C)⟩
  rcases C with C | C | C
  ·exact w c 1 (by rw[C];exact E)
  ·obtain⟨j,q,hq⟩:=M c C
   exact hκ j c q hq
  ·exact h.blk c (.inl (h5 c C))
def AV.one:AV→Bool
 | .agg _ | .tup _ | .any | .whn _ _=>false
 | .cst v=>v.oneCell'
 | _=>true
theorem AP.one{x}{a:AV}{v:Value}(h:AP x a v)(j:a.one=true):v.oneCell'=true:=by
 cases h<;>first | rfl | assumption | (simp[AV.one] at j;done) | skip
 ·rename_i h;exact h.one
 ·rename_i h _;exact h.one
def Cx.at(x:Cx)(id b:Nat):Prop:=(∃k,x.β id=some (b,k))∨∃j k,x.K id j=some (b,k)
theorem Cx.ok.at_lt{x:Cx}(l:x.ok){id b}{o}(h:x.H id=some o)(u:x.at id b):b<x.w.heap.size∧¬ x.S b∧¬ x.F b:=by
 rcases u with ⟨k,q⟩ | ⟨j,k,q⟩
 ·exact l.own id o b k h q
 ·obtain⟨w,A,B,_⟩:=l.ext id o j b k h q
  exact⟨w,A,B⟩
theorem Cx.ok.at_inj{x:Cx}(u:x.ok){id l b}{o w}(h:x.H id=some o)(h':x.H l=some w)(F:x.at id b)(C:x.at l b):id=l:=by
 rcases F with ⟨k,A⟩ | ⟨j,k,A⟩<;>rcases C with ⟨B,q⟩ | ⟨E,B,q⟩
 ·exact u.inj id l o w b k B h h' A q
 ·exact((u.ext l w E b B h' q).2.2.2.1 id o k h A).elim
 ·exact((u.ext id o j b k h A).2.2.2.1 l w B h' q).elim
 ·exact((u.ext id o j b k h A).2.2.2.2 l w E B h' q).1.symm
def Cx.atk(x:Cx)(id b k:Nat):Prop:=x.β id=some (b,k)∨∃j,x.K id j=some (b,k)
theorem Cx.ok.own'{x:Cx}(l:x.ok) id o b k(h:x.H id=some o)(q:x.atk id b k):b<x.w.heap.size∧¬ x.S b∧¬ x.F b:=
 l.at_lt h (q.imp (λh=>⟨k,h⟩) λ⟨j,h⟩=>⟨j,k,h⟩)
theorem Cx.ok.inj'{x:Cx}(q:x.ok){id l b k u}{o A}(h:x.H id=some o)(h':x.H l=some A)(B:x.atk id b k)(w:x.atk l b u):id=l:=
 q.at_inj h h' (B.imp (λh=>⟨k,h⟩) λ⟨j,h⟩=>⟨j,k,h⟩) (w.imp (λh=>⟨u,h⟩) λ⟨j,h⟩=>⟨j,u,h⟩)
theorem Cx.ok.extOf{x y:Cx}(B:x.ok)(C:∀id o,y.H id=some o→∃q,x.H id=some q)(M:y.β=x.β)(J:y.K=x.K)(O:x.w.heap.size≤y.w.heap.size)(T:∀id o b k,y.H id=some o→x.atk id b k→¬ y.S b)(U:∀id o b k,y.H id=some o→x.atk id b k→¬ y.F b) :
  ∀id o j b c,y.H id=some o→y.K id j=some (b,c)→b<y.w.heap.size∧¬ y.S b∧¬ y.F b∧(∀l q k,y.H l=some q→y.β l=some (b,k)→False)∧∀l q w E,y.H l=some q→y.K l w=some (b,E)→l=id∧w=j:=by
 intro id o j b c h A
 rw[J] at A
 obtain⟨V,X⟩:=C id o h
 obtain⟨Y,e2,e3,Z,e5⟩:=B.ext id V j b c X A
 refine⟨vq Y O,T id o b c h (.inr ⟨j,A⟩),U id o b c h (.inr ⟨j,A⟩),λl q k F u=>?_,λl q w E F u=>?_⟩
 ·obtain⟨o2,I⟩:=C l q F
  rw[M] at u
  exact Z l o2 k I u
 ·obtain⟨o2,I⟩:=C l q F
  rw[J] at u
  exact e5 l o2 w E I u
theorem Xo{x:Cx}(w:x.ok) id(o:Ab)(w':World) V X n' 
 (J:x.w.heap.size≤w'.heap.size) (ab:w'.os=x.w.os) (a0:w'.tape=x.w.tape) (a2:w'.output=x.w.output)
 (a6:∀b, b<x.w.heap.size→(∀F, x.H id=some F→x.at id b→False)→w'.heap[b]?=x.w.heap[b]?)
 (hβ:∀b k, V=some (b, k)→b<w'.heap.size∧(x.w.heap.size≤b∨∃F, x.H id=some F∧x.at id b))
 (hκ:∀j b k, X j=some (b, k)→(b<w'.heap.size∧(x.w.heap.size≤b∨∃F, x.H id=some F∧x.at id b))∧(∀k', V=some (b, k')→False)∧∀Z k', X Z=some (b, k')→Z=j)
 (hn:x.n≤n') (a7:o.gen<n') (a8:o.gen<x.n∨o.isCal=true→∃F, x.H id=some F∧F.gen=o.gen∧F.shape=o.shape∧V=x.β id)
 (ac:o.isFam=true→o.gen<x.n→o.ver<x.n→∃F, x.H id=some F∧F.isFam=true∧F.gen=o.gen∧F.ver=o.ver∧F.kshape=o.kshape∧X=x.K id)
 (aa:x.le { x with w := w', H := λi => if id=i then some o else x.H i, β := λi => if id=i then V else x.β i, K := λi => if id=i then X else x.K i, n := n' } →
 EQ { x with w := w', H := λi => if id=i then some o else x.H i, β := λi => if id=i then V else x.β i, K := λi => if id=i then X else x.K i, n := n' } V X o) :
    x.le { x with w := w', H := λi => if id=i then some o else x.H i, β := λi => if id=i then V else x.β i, K := λi => if id=i then X else x.K i, n := n' } ∧
    ({ x with w := w', H := λi => if id=i then some o else x.H i, β := λi => if id=i then V else x.β i, K := λi => if id=i then X else x.K i, n := n' } : Cx).ok := by
  have Y:x.le { x with w := w', H := λi => if id=i then some o else x.H i, β := λi => if id=i then V else x.β i, K := λi => if id=i then X else x.K i, n := n' } := by
    refine⟨J, ab, a0, a2, λb A => ?_, λ_ h => h, rfl, hn, λi M q hg => ?_, λi M q hf hg hv => ?_⟩
    · refine a6 b (A.elim (w.S_lt b) (w.F_lt b)) λF I E => ?_
      have := w.at_lt I E
      exact A.elim this.2.1 this.2.2
    · dsimp only at q ⊢
      split at q
      · rename_i u;subst u
        cases q
        obtain⟨F, I, E, h3, h4⟩ := a8 hg
        exact⟨F, I, E, h3, by rw[vh rfl];exact h4⟩
      · rename_i u
        exact⟨M, q, rfl, rfl, by rw[vg u]⟩
    · dsimp only at q ⊢
      split at q
      · rename_i u;subst u
        cases q
        obtain⟨F, I, h0, E, h3, h4, h5⟩ := ac hf hg hv
        exact⟨F, I, h0, E, h3, h4, by rw[vh rfl];exact h5⟩
      · rename_i u
        exact⟨M, q, hf, rfl, rfl, rfl, by rw[vg u]⟩
  have T:∀i M, i≠id→x.H i=some M→∀b, x.at i b→w'.heap[b]?=x.w.heap[b]? := by
    intro i M a1 u b A
    exact a6 b (w.at_lt u A).1 λF I E => a1 (w.at_inj u I A E)
  have C:∀b, (x.w.heap.size≤b∨∃F, x.H id=some F∧x.at id b)→(¬ x.S b∧¬ x.F b)∧∀i M, i≠id→x.H i=some M→x.at i b→False := by
    intro b A
    rcases A with A | ⟨F, I, E⟩
    · exact⟨⟨λh => by have := w.S_lt b h;omega, λh => by have := w.F_lt b h;omega⟩, λi M _ u ha => by have := (w.at_lt u ha).1;omega⟩
    · exact⟨(w.at_lt I E).2, λi M a1 u ha => a1 (w.at_inj u I ha E)⟩
  refine⟨Y, λb A => vq (w.S_lt b A) J, λb A => vq (w.F_lt b A) J, w.SF, λi M q => ?_, λi M b k q A => ?_, λi O o1 o2 b k k' I E A l => ?_, λi M j b c q A => ?_, w.tabs.le Y⟩
  · dsimp only at q ⊢
    split at q
    · rename_i u;subst u
      cases q
      rw[vh rfl, vh rfl]
      exact⟨a7, aa Y⟩
    · rename_i u
      rw[vg u, vg u]
      obtain⟨I, E⟩ := w.obj i M q
      exact⟨vq I hn, E.mono Y (λb k A => T i M (λe => u e.symm) q b (.inl ⟨k, A⟩)) λj b k A => T i M (λe => u e.symm) q b (.inr ⟨j, k, A⟩)⟩
  · dsimp only at q A ⊢
    split at A
    · rename_i u;subst u
      obtain⟨I, E⟩ := hβ b k A
      exact⟨I, (C b E).1⟩
    · rename_i u
      rw[vg u] at q
      have := w.own i M b k q A
      exact⟨vq this.1 J, this.2⟩
  · dsimp only at I E A l
    by_cases u:id=i<;>by_cases B:id=O
    · rw[← u, ← B]
    · rw[vh u] at A
      rw[vg B] at E l
      exact((C b (hβ b k A).2).2 O o2 (λe => B e.symm) E (.inl ⟨k', l⟩)).elim
    · rw[vh B] at l
      rw[vg u] at I A
      exact((C b (hβ b k' l).2).2 i o1 (λe => u e.symm) I (.inl ⟨k, A⟩)).elim
    · rw[vg u] at I A
      rw[vg B] at E l
      exact w.inj i O o1 o2 b k k' I E A l
  · dsimp only at q A ⊢
    split at A
    · rename_i u;subst u
      obtain⟨⟨I, E⟩, h3, h4⟩ := hκ j b c A
      refine⟨I, (C b E).1.1, (C b E).1.2, λO o2 k B l => ?_, λO o2 Z c' B l => ?_⟩
      · by_cases u:id=O
        · rw[vh u] at l;exact h3 k l
        · rw[vg u] at B l
          exact(C b E).2 O o2 (λe => u e.symm) B (.inl ⟨k, l⟩)
      · by_cases u:id=O
        · rw[vh u] at l;exact⟨u.symm, h4 Z c' l⟩
        · rw[vg u] at B l
          exact((C b E).2 O o2 (λe => u e.symm) B (.inr ⟨Z, c', l⟩)).elim
    · rename_i u
      rw[vg u] at q
      obtain⟨I, E, h3, h4, h5⟩ := w.ext i M j b c q A
      refine⟨vq I J, E, h3, λO o2 k B l => ?_, λO o2 Z c' B l => ?_⟩
      · by_cases U:id=O
        · rw[vh U] at l
          exact(C b (hβ b k l).2).2 i M (λe => u e.symm) q (.inr ⟨j, c, A⟩)
        · rw[vg U] at B l
          exact h4 O o2 k B l
      · by_cases U:id=O
        · rw[vh U] at l
          exact((C b (hκ Z b c' l).1.2).2 i M (λe => u e.symm) q (.inr ⟨j, c, A⟩)).elim
        · rw[vg U] at B l
          exact h5 O o2 Z c' B l
theorem EV{x:Cx}(I:x.ok)(id:Nat)(o:Ab)(w':World)(q:Option (Nat × Nat))(n':Nat)
  (u:x.w.heap.size≤w'.heap.size) (J:w'.os=x.w.os) (w:w'.tape=x.w.tape) (B:w'.output=x.w.output)
  (M:∀b,b<x.w.heap.size→(∀l k,x.H id=some l→x.β id=some (b,k)→False)→w'.heap[b]?=x.w.heap[b]?)
  (X:∀b k,q=some (b,k)→b<w'.heap.size∧(x.w.heap.size≤b∨∃l O,x.H id=some l∧x.β id=some (b,O)))
  (Z:x.n≤n') (C:o.gen<n') (E:o.gen<x.n→∃l,x.H id=some l∧l.gen=o.gen∧l.shape=o.shape∧q=x.β id)
  (F:x.le { x with w:=w',H:=λi=>if id=i then some o else x.H i,β:=λi=>if id=i then q else x.β i,K:=λi=>if id=i then λ_=>none else x.K i,n:=n' } →
   EQ { x with w:=w',H:=λi=>if id=i then some o else x.H i,β:=λi=>if id=i then q else x.β i,K:=λi=>if id=i then λ_=>none else x.K i,n:=n' } q (λ_=>none) o) (hc:o.isCal=false:=by rfl) (T:o.isFam=false:=by rfl) :
  x.le { x with w:=w',H:=λi=>if id=i then some o else x.H i,β:=λi=>if id=i then q else x.β i,K:=λi=>if id=i then λ_=>none else x.K i,n:=n' } ∧
  ({ x with w:=w',H:=λi=>if id=i then some o else x.H i,β:=λi=>if id=i then q else x.β i,K:=λi=>if id=i then λ_=>none else x.K i,n:=n' } : Cx).ok:=
 Xo I id o w' q (λ_=>none) n' u J w B (λb A h=>M b A λl k U V=>h l U (.inl ⟨k,V⟩))
  (λb k A=>⟨(X b k A).1,(X b k A).2.imp _root_.id λ⟨l,O,U,V⟩=>⟨l,U,.inl ⟨O,V⟩⟩⟩) (λj b k A=>by cases A) Z C (λh=>E (h.resolve_right (by rw[hc];exact Bool.noConfusion))) (λY=>by rw[T] at Y;cases Y) F
def zF(z:Option Nat):Fence:={ Fence.wide with round:=z }
def H5(o:Oper):Bool:=match o.op with
 | .defer _=>false
 | _=>true
def DB:Code→Bool
 | .region _ ops _=>ops.toList.all H5
 | .seq x y=>DB x&&DB y
 | .cond _ x y=>DB x&&DB y
 | .block _ x=>DB x
 | .loop x=>DB x
 | .scope x=>DB x
 | .rangeFunc _ _ _ _=>false
 | _=>true
theorem WF{z}{ρ}{o:Oper}(h:z=none∨H5 o=true):o.semAt z ρ=execOp ρ o:=by
 rcases h with rfl | h
 ·exact Oper.semAt_none ρ o
 ·exact Oper.semAt_eq z ρ o λc j=>by unfold H5 at h;rw[j] at h;cases h
theorem li{z}{P}{row}{args}{w}{R}(h:Rows P row args w R):RowsIn (zF z) (0-1) P row args w R:=
 λc j _=>let ⟨v,w',r,s⟩:=h c j;⟨v,w',r,stepsIn_wide.2 s⟩
theorem Wj{P}{o:Oper}{a:Act}{w}{K}{Q}{z}(j:z=none∨H5 o=true)(h:o.wp P a w K Q):o.wpIn (zF z) 0 P a w K Q:=by
 refine⟨λ_ _=>trivial,?_⟩
 rw[show(zF z).round=z from rfl,WF j]
 unfold Oper.wp at h
 generalize (execOp a.eval o).run P w=r at h ⊢
 cases r with
 | ok x w'=>
  cases x with
  | enter f args=>exact⟨λe=>(by cases e),callsIn_wide.2 h⟩
  | row l args=>exact⟨λe=>(by cases e),li h⟩
  | value v=>exact h
  | skip=>exact h
  | defer d=>exact h
  | _=>exact h.elim
 | halt x w'=>cases x<;>first | exact h | exact h.elim
section
variable{P:Program}{ops:Array Oper}{Q:Exit→Act→World→Prop}
theorem P7(j:¬ LetsOut Q){z}(q:z=none∨ops.toList.all H5=true):∀(l:List Nat) (a:Act) (w:World),wpOps P ops Q l a w→wpOpsIn (zF z) 0 P ops Q l a w
 | [],_,_,h=>h
 | i::rest,a,w,h=>by
  simp only[wpOps] at h
  simp only[wpOpsIn]
  split
  ·rename_i u;rw[u] at h;exact P7 j q rest a w h
  ·rename_i o u
   rw[u] at h
   simp only at h
   split
   ·rename_i A
    rw[vh A] at h
    rcases h with h | h
    ·refine Wj (q.imp id λB=>wI.1 B o ?_) (Oper.wp_mono (λa w=>P7 j q rest a w) h)
     exact wJ (by rw[w0];exact u)
    ·exact absurd h.2 j
   ·rename_i A
    rw[vg A] at h
    exact⟨λ_ _=>trivial,P7 j q rest _ w h⟩
theorem l9(j:¬ LetsOut Q){z}{id}{a}{w}{l:List Oper}(q:z=none∨DB (.region id l.toArray false)=true)(h:wpList P l.toArray Q l a w):(Code.region id l.toArray false).wpIn (zF z) 0 P Q a w:=by
 refine wpIn_region (P7 j (q.imp _root_.id λh=>h) _ a w ?_)
 rw[yj,← wV,wpOps_eq_wpList _ 0 (by simp)]
 exact h
theorem Pb(j:¬ LetsOut Q){z}{id}{a}{w:World}(l:P.follows .mixedOrders=true)(q:z=none∨DB (.region id ops true)=true)
 (h:wpAny P .any ops Q ops.size (Array.replicate ops.size false) a { w with drawn := w.drawn+1 }):(Code.region id ops true).wpIn (zF z) 0 P Q a w :=
  wpIn_region_draw λt => by
    simp only[Region.schedule, l, yX, xZ]
    exact P7 j (q.imp _root_.id λh => h) _ a _ (wpAny_sound ops.size t _ a _ h)
theorem lQ(q:¬ LetsOut Q){C}{z}{id}{a}{w:World}(u:P.follows .mixedOrders=true)(hB:Region.lexB .any ops=true)(A:z=none∨DB (.region id ops true)=true)(hC:C { w with drawn := w.drawn+1 })
 (h:wpQuiet P ops C (λj => ∀w', C w'→Q .normal j w') ops.toList a):(Code.region id ops true).wpIn (zF z) 0 P Q a w := by
  simp only[Region.lexB, vm] at hB
  refine Pb q u A (wpAny_of_quiet (Q := λj => ∀w', C w'→Q .normal j w') (λ_ w' l h => h w' l) _ _ _ _ hC ?_)
  have := wpAnyQ_lex (C := C) (md := .any) hB.1 ops.toList 0 (Array.replicate ops.size false) a (by simp) (by simpa using hB.2) h
  simpa using this
theorem tq(U:¬ LetsOut Q){z}{id}{a}{w:World}{l:List Oper} n(V:P.follows .mixedOrders=true)(hB:Region.lexTailB .any l.toArray n=true)(X:z=none∨DB (.region id l.toArray true)=true)
 (h:wpStill P l.toArray { w with drawn := w.drawn+1 } (λF => wpList P l.toArray Q (l.drop n) F { w with drawn := w.drawn+1 }) (l.take n) a):(Code.region id l.toArray true).wpIn (zF z) 0 P Q a w := by
  simp only[Region.lexTailB, vm, vi] at hB
  obtain⟨⟨⟨⟨A, J⟩, Y⟩, Z⟩, B⟩ := hB
  have a0:n<l.length := by simpa using J
  have q:(l.take n).length=n := by simp;omega
  have C:(l.drop n).length=l.toArray.size - n := by simp
  have E:HeadInv .any l.toArray n (Array.replicate l.toArray.size false) :=
    ⟨by simp, λj oj _ M => (by rw[getD_replicate_false] at M;cases M), λt _ ht => getD_in (by simpa using ht) (getD_replicate_false _ _)⟩
  have H := wpAnyL_lex (md := .any) (g := l.toArray.size - n) A Y Z J (l.take n) 0 _ a (λj O => by
    have I:j<n := by rw[q] at O;exact O
    simp[I]) (by simpa using q) E (by rw[q];exact B) h
  refine Pb U V X ?_
  have := wpAny_of_head (Q' := Q) (g := l.toArray.size - n) (λu F T => by
    have := wpAny_of_seq (md := .any) (Q' := Q) (l.drop n) n u F { w with drawn := w.drawn+1 } (λj => by simp[xJ]) (by rw[C];exact T.1) T.2
    rwa [C] at this) _ _ _ H
  rw[q, show n+(l.toArray.size - n)=l.toArray.size by omega] at this
  exact this
end
structure St where
 e:AX
 h:AO
 n:Nat
 N:Nat
def HC:Value→AV
 | .int k n=>.r (.int k n)
 | .bool b=>.r (.bool b)
 | .string s=>.r (.str s.data.toList)
 | v=>.cst v
def BK(R:AX):Operand→AV
 | .tmp t=>get R t
 | .const v=>HC v
 | .global _=>.any
 | .func f=>.fn f []
def Ev(c:Bool)(R:AX)(x:Operand)(v:AV):Prop:=BK R x=v∨∃j,(c=true→j=true)∧BK R x=.whn j v
def B6(x:Cx)(R:AX)(a:Act):Prop:=∀t,AP x (get R t) (a.tmps.getD t undef)
theorem NP x v:AP x (HC v) v:=by
 cases v<;>first | exact .r (.int _ _) | exact .r (.bool _) | exact .r (.str _) | exact .cst _
theorem B6.eval{x}{R}{a:Act}(h:B6 x R a)(o:Operand):AP x (BK R o) (a.eval o):=by
 cases o with
 | tmp t=>exact h t
 | const v=>exact NP x v
 | global g=>exact .any _
 | func f=>exact .fn rfl (λi c u h=>by simp at h)
theorem Ev.rep{x}{R}{a:Act}{c}{o}{v}(l:B6 x R a)(h:Ev c R o v)(hc:c=true):AP x v (a.eval o):=by
 have j:=l.eval o
 rcases h with h | ⟨w,q,h⟩
 ·rwa [h] at j
 ·rw[h] at j
  cases j with
  | whn u _=>exact u (q hc)
theorem B6.mono{x y:Cx}(h:x.le y){R}{a}(j:B6 x R a):B6 y R a:=λt=>(j t).mono h
theorem Lj{a:Array Value}{d t}{u}(hd:d<a.size):(a.setIfInBounds d u).getD t undef=if d=t then u else a.getD t undef:=by
 by_cases h:d=t
 ·subst h;simp[hd]
 ·simp[h]
theorem DQ d v R t:get ((d,v)::R) t=if d=t then v else get R t:=by
 show(match Nat.beq d t with | true=>v | false=>get R t)=_
 cases h:Nat.beq d t with
 | true=>rw[vh (vx h)]
 | false=>rw[vg (yG h)]
theorem Bv d v R t:hget ((d,v)::R) t=if d=t then v else hget R t:=by
 show(match Nat.beq d t with | true=>v | false=>hget R t)=_
 cases h:Nat.beq d t with
 | true=>rw[vh (vx h)]
 | false=>rw[vg (yG h)]
theorem Cn{d N}(h:Nat.blt d N=true):d<N:=wj h
theorem B6.put{x}{R}{a:Act}{d}{v}{u}(hd:d<a.tmps.size)(j:B6 x R a)(l:AP x v u) :
  B6 x ((d,v)::R) (a.put (some d) u):=by
 intro t
 simp only[Act.put,Lj hd,DQ]
 split
 ·exact l
 ·exact j t
def rO(c0:Cx)(ds:List Deferred)(y:Cx):Prop:=
 (ds.Nodup∧(ds≠[]→∀id o,y.H id=some o→o.isCal=false))∧∀d∈ds,∃D,d = { target:=.collected D,args:=#[] } ∧ c0.w.heap.size≤D∧y.S D∧y.w.heap[D]?=some (.deferred (some []))
structure Cx.leM(x:Cx)(ds:List Deferred)(y:Cx):Prop where
 le:x.le y
 marks:rO x ds y
theorem Cx.leM.refl(x:Cx):x.leM [] x:=⟨.refl x,⟨List.Pairwise.nil,λh=>absurd rfl h⟩,λd h=>by cases h⟩
theorem Cx.leM.trans{x y z:Cx}{ds}(h:x.leM ds y)(k:y.le z):x.leM ds z:=
 ⟨h.le.trans k,⟨h.marks.1.1,λhd id o w=>by
  cases q:o.isCal with
  | false=>rfl
  | true=>
   obtain⟨A,j,_,l,_⟩:=k.H id o w (.inr q)
   have:=h.marks.1.2 hd id A j
   rw[T6 l,q] at this
   cases this⟩,λd hd=>let ⟨D,j,l,u,B⟩:=h.marks.2 d hd;⟨D,j,l,k.S D u,(k.blk D (.inl u)).trans B⟩⟩
def EU(c0:Cx)(s:St)(a:Act)(w:World):Prop:=
 ∃j,a.defers=j∧a.tmps.size=s.N∧∃y:Cx,y.w=w∧c0.leM j y∧y.ok∧y.H=hget s.h∧y.n=s.n∧B6 y s.e a
def A7(P:Program)(c:Bool)(o:Oper)(R:AX)(h:AO)(n:Nat)(v:AV)(h':AO)(n':Nat):Prop:=
 c=true→∀(x:Cx) (a:Act),x.ok→x.H=hget h→x.n=n→B6 x R a→∀(K:Act→World→Prop) (Q:Exit→Act→World→Prop),
  (∀(u:Value) (y:Cx),x.le y→y.ok→y.H=hget h'→y.n=n'→AP y v u→K (a.put o.dst u) y.w)→o.wp P a x.w K Q
def Em(x:Cx)(j:World):Prop:=∀b,(x.S b∨∃id o k,x.H id=some o∧x.atk id b k)→j.heap[b]?=x.w.heap[b]?
theorem Em.cellS{x:Cx}{j:World}(h:Em x j){b k}(l:x.S b):j.cell? ⟨b,k,none⟩=x.w.cell? ⟨b,k,none⟩:=World.cell?_of_block (h b (.inl l))
theorem Em.cellO{x:Cx}{l:World}(h:Em x l){id b k j}{o}(q:x.H id=some o)(u:x.β id=some (b,k)):l.cell? ⟨b,j,none⟩=x.w.cell? ⟨b,j,none⟩:=World.cell?_of_block (h b (.inr ⟨id,o,k,q,.inl u⟩))
def AR(P:Program)(c:Bool)(o:Oper)(R:AX)(h:AO)(v:AV):Prop:=
 c=true→∀(x:Cx) (a:Act),x.ok→x.H=hget h→B6 x R a→∃u,(∀j,Em x j→(execOp a.eval o).run P j=.ok (.value u) j)∧AP x v u
theorem AR.spec{P}{c}{o}{R}{h}{v}(H:AR P c o R h v)(n:Nat):A7 P c o R h n v h n:=by
 intro q x a j l w A K Q B
 obtain⟨u,C,E⟩:=H q x a j l A
 unfold Oper.wp
 rw[C x.w λ_ _=>rfl]
 exact B u x (.refl x) j l w E
def AL(P:Program)(ops:Array Oper)(rest:List Oper)(s:St)(K:St→Prop):Prop:=
 ∀(j:Cx) (a:Act) (w:World),EU j s a w→∀Q:Exit→Act→World→Prop,(∀l q w',K l→EU j l q w'→Q .normal q w')→wpList P ops Q rest a w
section
variable{P:Program}{ops:Array Oper}{rest:List Oper}{s:St}{K:St→Prop}{o:Oper}
theorem AL.nil(h:K s):AL P ops [] s K:=λ_ a w j _ l=>l s a w h j
theorem AL.step{d}{v}{h'}{n'}(hg:o.guard=none)(hd:o.dst=some d)(T:Nat.blt d s.N=true)(U:A7 P true o s.e s.h s.n v h' n')
 (V:AL P ops rest { e := (d, v)::s.e, h := h', n := n', N := s.N } K):AL P ops (o::rest) s K := by
  intro X a w ⟨_, j, hsz, y, A, B, C, Y, Z, O⟩ Q hQ
  subst A
  refine wpList_plain hg λK' E => ?_
  refine U rfl y a C Y Z O K' Q λu z l q F I J => ?_
  refine E _ _ ?_
  have M:d<a.tmps.size := by rw[hsz];exact Cn T
  rw[hd]
  exact V X (a.put (some d) u) z.w ⟨_, j, by simpa[Act.put] using hsz, z, rfl, B.trans l, q, F, I, (O.mono l).put M J⟩ Q hQ
theorem iC{v}{h'}{n'}(hg:o.guard=none)(hd:o.dst=none)(M:A7 P true o s.e s.h s.n v h' n')
 (O:AL P ops rest { e := s.e, h := h', n := n', N := s.N } K):AL P ops (o::rest) s K := by
  intro T a w ⟨_, j, hsz, y, A, B, C, U, V, J⟩ Q X
  subst A
  refine wpList_plain hg λY E => ?_
  refine M rfl y a C U V J Y Q λu z l q F I Z => ?_
  refine E _ _ ?_
  rw[hd]
  exact O T _ _ ⟨_, j, hsz, z, rfl, B.trans l, q, F, I, J.mono l⟩ Q X
end
def ED(c0:Cx)(Q:Exit→St→Prop)(e:Exit)(a:Act)(w:World):Prop:=e≠.outgrown∧∃j,Q e j∧EU c0 j a w
theorem Jz{c0}{Q} : ¬ LetsOut (ED c0 Q):=λ⟨_,_,h,_⟩=>h rfl
theorem ED.mono{c0}{Q Q'}(h:∀e s,Q e s→Q' e s){e}{a}{w} : ED c0 Q e a w→ED c0 Q' e a w
 | ⟨l,j,q,u⟩=>⟨l,j,h e j q,u⟩
def AW(P:Program)(c:Code)(Q:Exit→St→Prop)(s:St):Prop:=
 ∀z:Option Nat,(z=none∨DB c=true)→∀(j:Cx) (a:Act) (w:World),EU j s a w→c.wpIn (zF z) 0 P (ED j Q) a w
def E6(K:St→Prop)(Q:Exit→St→Prop):Exit→St→Prop
 | .normal,s=>K s
 | e,s=>Q e s
def Qk(id:Nat)(Q:Exit→St→Prop):Exit→St→Prop
 | .exit i,s=>if i=id then Q .normal s else Q (.exit i) s
 | e,s=>Q e s
def Ae(s s':St):Prop:=∀j a w,EU j s a w→EU j s' a w
section
variable{P:Program}{Q:Exit→St→Prop}{s:St}{x y:Code}
theorem AW.mono{Q'}(h:AW P x Q s)(j:∀e s,Q e s→Q' e s):AW P x Q' s:=
 λz l q a w u=>wpIn_mono (h z l q a w u) λ_ _ _ hp=>hp.mono j
theorem AW.weak{s'}(j:Ae s s')(h:AW P x Q s'):AW P x Q s:=λz l q a w u=>h z l q a w (j _ _ _ u)
theorem AW.skip(h:Q .normal s):AW P .skip Q s:=λ_ _ _ _ _ j=>wpIn_skip ⟨by simp,s,h,j⟩
theorem AW.ret(h:Q .ret s):AW P .ret Q s:=λ_ _ _ _ _ j=>wpIn_ret ⟨by simp,s,h,j⟩
theorem AW.exit{id}(h:Q (.exit id) s):AW P (.exit id) Q s:=λ_ _ _ _ _ j=>wpIn_exit ⟨by simp,s,h,j⟩
theorem AW.seq(h:AW P x (E6 (AW P y Q) Q) s):AW P (.seq x y) Q s:=by
 intro z E F a w I
 have B:z=none∨DB x=true:=E.imp id λh=>by simp only[DB,vm] at h;exact h.1
 have C:z=none∨DB y=true:=E.imp id λh=>by simp only[DB,vm] at h;exact h.2
 refine wpIn_seq (wpIn_mono (h z B F a w I) λe J w' ⟨q,A,u,j⟩=>?_)
 cases e with
 | normal=>exact u z C F J w' j
 | exit id=>exact⟨q,A,u,j⟩
 | goto l=>exact⟨q,A,u,j⟩
 | ret=>exact⟨q,A,u,j⟩
 | panic M=>exact⟨q,A,u,j⟩
 | outgrown=>exact absurd rfl q
theorem u7(h:∀K:St→Prop,(∀s,AW P y Q s→K s)→AW P x (E6 K Q) s):AW P (.seq x y) Q s:=.seq (h _ λ_ h=>h)
theorem AW.block{id}(h:AW P x (Qk id Q) s):AW P (.block id x) Q s:=by
 intro z C E a w F
 refine wpIn_block (wpIn_mono (h z C E a w F) λe I w' ⟨A,u,q,j⟩=>?_)
 cases e with
 | exit i=>
  simp only[Qk,Exit.inBlock] at q ⊢
  split
  ·rename_i B;rw[vh B] at q;exact⟨by simp,u,q,j⟩
  ·rename_i B;rw[vg B] at q;exact⟨by simp,u,q,j⟩
 | normal=>exact⟨A,u,q,j⟩
 | goto l=>exact⟨A,u,q,j⟩
 | ret=>exact⟨A,u,q,j⟩
 | panic J=>exact⟨A,u,q,j⟩
 | outgrown=>exact absurd rfl A
theorem AW.cond{c}{b}(hc:BK s.e c=.r (.bool b))(C:b=true→AW P x Q s)(E:b=false→AW P y Q s):AW P (.cond c x y) Q s:=by
 intro z l q a w j
 have F:a.eval c=.bool b:=by
  obtain⟨_,_,_,z,_,_,_,_,_,I⟩:=j
  have A:=I.eval c
  rw[hc] at A
  cases A with
  | r B=>generalize a.eval c=u at B ⊢;cases B;rfl
 exact wpIn_cond_split F (λh=>C h z (l.imp id λh=>by simp only[DB,vm] at h;exact h.1) q a w j) (λh=>E h z (l.imp id λh=>by simp only[DB,vm] at h;exact h.2) q a w j)
theorem AW.loop(I:Nat→St→Prop)(m:Nat)(U:∃q,Ae s q∧I m q)(round:∀m s,I m s→AW P x (E6 (λq=>∃C,C<m∧∃u,Ae q u∧I C u) Q) s):AW P (.loop x) Q s:=by
 intro z V T a w X
 obtain⟨Y,E,F⟩:=U
 refine wpIn_loop_ghost (λk a w=>∃s,I k s∧EU T s a w) m ⟨Y,F,E _ _ _ X⟩ ?_
 intro k a w ⟨Z,hI,J⟩
 refine wpIn_mono (round k Z hI z (V.imp id λh=>h) T a w J) λe a' w' ⟨A,q,B,j⟩=>?_
 cases e with
 | normal=>
  obtain⟨C,M,u,hw,O⟩:=B
  exact⟨C,M,u,O,hw _ _ _ j⟩
 | exit id=>exact⟨A,q,B,j⟩
 | goto l=>exact⟨A,q,B,j⟩
 | ret=>exact⟨A,q,B,j⟩
 | panic ch=>exact⟨A,q,B,j⟩
 | outgrown=>exact absurd rfl A
theorem AW.region{id}{l:List Oper}(h:AL P l.toArray l s (Q .normal)):AW P (.region id l.toArray false) Q s:=by
 intro z q u a w A
 exact l9 Jz q (h u a w A _ λB E w' C j=>⟨by simp,B,C,j⟩)
end
theorem Ae.refl s:Ae s s:=λ_ _ _ h=>h
theorem Ae.trans{a b c}(h:Ae a b)(k:Ae b c):Ae a c:=λ_ _ _ x=>k _ _ _ (h _ _ _ x)
def P8:AO→AO→Prop
 | [],_=>True
 | (id,o)::r,h=>(o=none∨hget h id=o)∧P8 r h
theorem P8.get{h' h}(k:P8 h' h)(t:Nat):hget h' t=none∨hget h' t=hget h t:=by
 induction h' with
 | nil=>exact .inl rfl
 | cons p r l=>
  obtain⟨d,v⟩:=p
  rw[Bv]
  split
  ·rename_i hd;subst hd
   rcases k.1 with j | j
   ·exact .inl j
   ·exact .inr j.symm
  ·exact l k.2
theorem iF{y:Cx}(j:y.ok) u(l:∀id o,u id=some o→y.H id=some o) n'(B:y.n≤n') :
  y.le { y with H:=u,n:=n' } ∧ ({ y with H:=u,n:=n' } : Cx).ok:=by
 have q:y.le { y with H:=u,n:=n' }:=⟨vu _,rfl,rfl,rfl,λ_ _=>rfl,λ_ h=>h,rfl,B,λid o h _=>⟨o,l id o h,rfl,rfl,rfl⟩,λid o h C _ _=>⟨o,l id o h,C,rfl,rfl,rfl,rfl⟩⟩
 refine⟨q,j.S_lt,j.F_lt,j.SF,λid o h=>?_,λid o b k h=>j.own id o b k (l _ _ h),λid w o E b k F h I=>j.inj id w o E b k F (l _ _ h) (l _ _ I),j.extOf (λid o h=>⟨o,l id o h⟩) rfl rfl (vu _) (λid o b k h A=>(j.own' id o b k (l _ _ h) A).2.1) (λid o b k h A=>(j.own' id o b k (l _ _ h) A).2.2),j.tabs.le q⟩
 obtain⟨J,M⟩:=j.obj id o (l _ _ h)
 exact⟨vq J B,M.mono q (λ_ _ _=>rfl) λ_ _ _ _=>rfl⟩
section
variable{x:Cx}{w':World}
def LO(x:Cx)(w':World):Prop:=∀b,x.S b→w'.heap[b]?=x.w.heap[b]?∨∀k,x.w.cell? ⟨b,k,none⟩=none
theorem LO.cell(h:LO x w'){b k}{v}(j:x.S b)(hc:x.w.cell? ⟨b,k,none⟩=some v):w'.cell? ⟨b,k,none⟩=some v:=by
 rcases h b j with h | h
 ·rw[← hc];exact World.cell?_of_block h
 ·rw[h k] at hc;cases hc
theorem BE.off(C:LO x w'){d}{v}(h:BE x.w x.S d v):BE w' x.S d v:=by
 induction h with
 | int k n=>exact .int k n
 | bool b=>exact .bool b
 | str s=>exact .str s
 | snil=>exact .snil
 | sl0 a=>exact .sl0 a
 | sl b off xs cap size u l E F hsz j A q=>
  refine .sl b off xs cap size u l E F hsz (λi row c x B I=>?_) q
  have w:xs≠[]:=by rintro rfl;simp at B
  exact C.cell (l w) (j i row c x B I)
 | any v h=>exact .any v h
 | slf _ J q=>exact .slf q J
theorem AP.off(C:LO x w'){a}{v}(O:AP x a v):AP { x with w:=w' } a v:=by
 induction O with
 | r A=>exact .r (A.off C)
 | agg B _ w=>exact .agg B w
 | tup B _ w=>exact .tup B w
 | own hg l q=>exact .own hg l q
 | pre hg l q=>exact .pre hg l q
 | ptr hg l q=>exact .ptr hg l q
 | mref hg l q=>exact .mref hg l q
 | yld hg l q=>exact .yld hg l q
 | pk hg F l q=>exact .pk hg F l q
 | fo hg F l q=>exact .fo hg F l q
 | full A T=>exact .full (A.off C) T
 | @rop row k b off u M U A=>
  refine .rop u M (λj d E=>?_) (λj d E=>(A j d E).off C)
  have I:row≠[]:=λe=>by subst e;simp at E
  exact C.cell (M I) (U j d E)
 | fn B _ w=>exact .fn B w
 | cst v=>exact .cst v
 | whn _ J w=>exact .whn w J
 | ifc l h J=>exact .ifc l h J
 | any v=>exact .any v
theorem EQ.off(I:LO x w'){β}{κ}(q:∀b k,β=some (b,k)→w'.heap[b]?=x.w.heap[b]?)(hκ:∀j b k,κ j=some (b,k)→w'.heap[b]?=x.w.heap[b]?){o:Ab}(a2:o.isCal=false)(O:EQ x β κ o):EQ { x with w:=w' } β κ o:=by
 have T:∀ {e:TypeId} {sz:Nat} {B:Value} {len:Nat} {J:List Value},Bm β len B→x.w.ownsRow 0 e sz B len J→w'.ownsRow 0 e sz B len J:=by
  intro e sz B len J w ⟨hl,hr⟩
  refine⟨hl,?_⟩
  rcases hr with hr | ⟨gg,cap,E,hv,C,M,U,Y,h5,h6⟩
  ·exact .inl hr
  ·refine .inr ⟨gg,cap,E,hv,C,?_,U,Y,h5,h6⟩
   rw[← M]
   subst hv
   cases β with
   | none=>obtain⟨_,w⟩:=w;cases w
   | some p=>
    obtain⟨b,k⟩:=p
    simp only[Bm,Value.slice.injEq,vz,Addr.mk.injEq] at w
    rw[w.1.1]
    exact q b k rfl
 cases o with
 | arr g e sz xs=>
  obtain⟨Z,C,B,J,w,V,F⟩:=O
  exact⟨Z,C,B,J,w,T w V,λi row c d C M=>let ⟨u,U,Y⟩:=F i row c d C M;⟨u,U,Y.off I⟩⟩
 | box g e cs=>
  obtain⟨b,E,A,w,hs,F⟩:=O
  exact⟨b,E,A,(q b 1 A).trans w,hs,λj c hj=>let ⟨u,C,M,U⟩:=F j c hj;⟨u,C,M,U.off I⟩⟩
 | hot g e xs k id g'=>
  obtain⟨Z,C,B,J,w,V,F,u0,hk,hu⟩:=O
  exact⟨Z,C,B,J,w,T w V,λi row d a6 C M=>let ⟨u,U,Y⟩:=F i row d a6 C M;⟨u,U,Y.off I⟩,u0,hk,hu.off I⟩
 | it g s pos=>obtain⟨b,A,w⟩:=O;exact⟨b,A,(q b 1 A).trans w⟩
 | mp g ks vs clock=>obtain⟨b,J,A,C,M,w,F⟩:=O;exact⟨b,J,A,C,M,(q b 1 A).trans w,λj c u k1 k2=>(F j c u k1 k2).off I⟩
 | mi g a7 mg a8 Bi last=>obtain⟨b,m,A,w,hm⟩:=O;exact⟨b,m,A,(q b 1 A).trans w,hm.off I⟩
 | lp g e N ps assign ac st ad=>
  obtain⟨b,r,A,w,C,M,U,Y,h5,h6,he⟩:=O
  exact⟨b,r,A,(q b 1 A).trans w,C,M,U,Y,h5,h6,λt=>(he t).off I⟩
 | md g l=>
  obtain⟨b,es,A,w,hl,F⟩:=O
  exact⟨b,es,A,(q b 1 A).trans w,hl,λj k d hj=>let ⟨m,k1,k2,k3,X⟩:=F j k d hj;⟨m,k1,k2,k3,X.off I⟩⟩
 | mb g v e l=>
  obtain⟨Z,b,es,A,w,hl,F⟩:=O
  exact⟨Z,b,es,A,(q b 1 A).trans w,hl,λj k cs hj=>let ⟨m,bb,E,k1,k2,k3,X,k5,k6,k7,k8⟩:=F j k cs hj;⟨m,bb,E,k1,k2,k3,X,k5,(hκ j bb 1 X).trans k6,k7,λi c hi=>let ⟨u,e1,e2,e3⟩:=k8 i c hi;⟨u,e1,e2,e3.off I⟩⟩⟩
 | mr g v e sz hole l=>
  obtain⟨Z,hv,b,es,A,w,hl,F⟩:=O
  refine⟨Z,hv,b,es,A,(q b 1 A).trans w,hl,λj k xs hj=>?_⟩
  obtain⟨hr,bb,cap,J,e1,⟨aa,e3⟩,e4,e5⟩:=F j k xs hj
  refine⟨hr,bb,cap,J,e1,⟨aa,?_⟩,λi row c d q1 q2=>let ⟨u,q3,q4⟩:=e4 i row c d q1 q2;⟨u,q3,q4.off I⟩,e5⟩
  rcases e3 with e3 | ⟨gg,a1,E,a0,f1,f2,f3,f4,f5,f6⟩
  ·exact .inl e3
  ·refine .inr ⟨gg,a1,E,a0,f1,?_,f3,f4,f5,f6⟩
   rw[← f2]
   simp only[Value.slice.injEq,vz,Addr.mk.injEq] at a0
   rw[← a0.1.1]
   exact hκ j bb cap e1
 | mj g a7 mg len Bi=>
  obtain⟨b,m,A,w,hm⟩:=O
  exact⟨b,m,A,(q b 1 A).trans w,hm.off I⟩
 | rr g e sz col e2 sz2 hole xs=>
  obtain⟨Z,B,J,C,M,U,Y⟩:=O
  exact⟨Z,B,J,C,T C M,λi row c d F k1 k2=>let ⟨u,k3,X⟩:=U i row c d F k1 k2;⟨u,k3,X.off I⟩,λi row hi=>let ⟨u,k1,k2⟩:=Y i row hi
   ⟨u,k1,k2.imp (λ⟨r,g',k3,X⟩=>⟨r,g',k3,X.off I⟩) λ⟨k3,ys,X,k5,k6,ab,k7,k8⟩=>⟨k3,ys,X,k5,k6,ab,W6 (hκ i) k6 k7,λi row c d q1 q2=>let ⟨v,q3,q4⟩:=k8 i row c d q1 q2;⟨v,q3,q4.off I⟩⟩⟩⟩
 | cal g W ys=>cases a2
end
theorem vO{y:Cx}(l:y.ok){D}(J:y.S D)(hc:∀k,y.w.cell? ⟨D,k,none⟩=none)(O:∃W0:World,W4 W0∧Go.RowKit.Below W0.heap.size W0 y.w∧(∀b,b<W0.heap.size→y.S b)∧W0.heap.size≤D)(E:∀id u,y.H id=some u→u.isCal=false)(o:Obj):LO y (y.w.putObj D o)∧({ y with w:=y.w.putObj D o } : Cx).ok:=by
 have q:LO y (y.w.putObj D o):=λb _=>by
  by_cases h:b=D
  ·subst h;exact .inr hc
  ·exact .inl (World.putObj_heap_other h)
 refine⟨q,?_⟩
 refine⟨λb w=>by show b<(y.w.putObj D o).heap.size;rw[World.putObj_size];exact l.S_lt b w,λb w=>by show b<(y.w.putObj D o).heap.size;rw[World.putObj_size];exact l.F_lt b w,l.SF,λid u h=>?_,λid u b k B A=>?_,l.inj,l.extOf (y:={ y with w:=y.w.putObj D o }) (λid o h=>⟨o,h⟩) rfl rfl (by show _≤(y.w.putObj D o).heap.size;rw[World.putObj_size];exact vu _) (λid o b k h F=>(l.own' id o b k h F).2.1) (λid o b k h F=>(l.own' id o b k h F).2.2),?_⟩
 ·obtain⟨B,A⟩:=l.obj id u h
  exact⟨B,A.off q (λb k w=>World.putObj_heap_other λe=>by subst e;exact(l.own id u b k h w).2.1 J) (λj b k w=>World.putObj_heap_other λe=>by subst e;exact(l.own' id u b k h (.inr ⟨j,w⟩)).2.1 J) (E id u h)⟩
 ·have:=l.own id u b k B A
  exact⟨by show b<(y.w.putObj D o).heap.size;rw[World.putObj_size];exact this.1,this.2⟩
 ·refine⟨λg row hg=>(l.tabs.tab g row hg).off q,λg T hg=>?_,by
   obtain⟨W0,U,f2,V,X⟩:=O
   exact⟨W0,U,⟨f2.os,f2.tape,f2.output,by rw[World.putObj_size];exact f2.size,λb w=>(World.putObj_heap_other (by omega)).trans (f2.block b w)⟩,V⟩⟩
  obtain⟨B,M,t,p,A⟩:=l.tabs.whole g T hg
  refine⟨B,M,t,p,?_⟩
  have I:g≠D:=by
   intro e
   subst e
   have C:=hc 0
   unfold World.cell? at C
   rw[A] at C
   simp only[wS M] at C
   cases C
  show(y.w.putObj D o).heap[g]?=_
  rw[World.putObj_heap_other I,A]
theorem fk{P}{fn}{tmps:Array Value}{R}{c0:Cx}{e} : ∀(ds:List Deferred) (y:Cx),y.ok→c0.ok→c0.leM ds y→(∀t,AP y (get e t) (tmps.getD t undef)) →
  (∀q,c0.le q→q.ok→q.H=y.H→q.n=y.n→(∀t,AP q (get e t) (tmps.getD t undef))→∃u,(results fn tmps).run P q.w=.ok u q.w∧R (.returned u) q.w)→LeavesInM Fence.wide 0 P fn tmps R ds .returning y.w
 | [],y,w,_,j,I,A=>A y j.le w rfl rfl I
 | d::ds,y,w,l,j,I,A=>by
  obtain⟨D,J,U,V,M⟩:=j.marks.2 d (vn ..)
  have C:=List.nodup_cons.1 j.marks.1.1
  have X:∀k,y.w.cell? ⟨D,k,none⟩=none:=λk=>by simp[World.cell?,M]
  obtain⟨Y,Z⟩:=vO w V X (by
   obtain⟨W0,f1,f2,O⟩:=l.tabs.fact
   exact⟨W0,f1,⟨j.le.os.trans f2.os,j.le.tape.trans f2.tape,j.le.output.trans f2.output,wq f2.size j.le.size,λb B=>(j.le.blk b (.inl (O b B))).trans (f2.block b B)⟩,λb B=>j.le.S b (O b B),wq f2.size U⟩) (j.marks.1.2 (yk _ _)) (.deferred none)
  have E:c0.le { y with w:=y.w.putObj D (.deferred none) }:=
   ⟨by show _≤(y.w.putObj D (.deferred none)).heap.size;rw[World.putObj_size];exact j.le.size,j.le.os,j.le.tape,j.le.output,λb B=>by
    refine(World.putObj_heap_other λe=>?_).trans (j.le.blk b B)
    subst e
    have:=B.elim (l.S_lt b) (l.F_lt b)
    omega,j.le.S,j.le.F,j.le.n,j.le.H,j.le.K⟩
  refine⟨by simp,.inl ⟨D,_,by rw[J],run_takeDeferred M,?_⟩⟩
  refine fk ds { y with w:=y.w.putObj D (.deferred none) } Z l ⟨E,⟨C.2,λ_=>j.marks.1.2 (yk _ _)⟩,λd' F=>?_⟩ (λt=>(I t).off Y) λq k1 k2 k3 k4 k5=>A q k1 k2 k3 k4 k5
  obtain⟨D',T,e2,e3,e4⟩:=j.marks.2 d' (vp _ F)
  refine⟨D',T,e2,e3,(World.putObj_heap_other λe=>?_).trans e4⟩
  subst e
  exact C.1 (by rw[J,← T];exact F)
theorem RA{P:Program}{f}{fn:Func}{code}{vs:Array Value}{R}{c0:Cx}{I}{Q}(U:P.funcs[f]?=some fn)(V:fn.body=some code)(j:c0.ok)
 (l:EU c0 I { tmps := vs++Array.replicate (fn.ntmps - vs.size) undef, defers := [] } c0.w) (X:AW P code Q I)
 (q:∀(e:Exit) (s:St) (a:Act) (y:Cx), Q e s→c0.le y→y.ok→y.H=hget s.h→y.n=s.n→B6 y s.e a→(e=.normal∨e=.ret)∧∃u, (results fn a.tmps).run P y.w=.ok u y.w∧R (.returned u) y.w):Calls P f vs c0.w R := by
  refine callsIn_wide.1 (callsIn_of_wp_marks (n := 0) U V trivial (wpIn_mono (X none (.inl rfl) c0 _ _ l) λe a w ⟨ho, s, J, Y⟩ => ?_))
  obtain⟨Z, A, _, y, E, B, C, M, O, T⟩ := Y
  subst E
  have key:LeavesInM Fence.wide 0 P fn a.tmps R a.defers .returning y.w := by
    rw[A]
    exact fk (e := s.e) Z y C j B T λy' k1 k2 k3 k4 k5 => (q e s a y' J k1 k2 (k3.trans M) (k4.trans O) k5).2
  have F := (q e s a y J B.le C M O T).1
  rcases F with rfl | rfl
  · exact key
  · exact key
def GG:TypeDesc→Bool
 | .struct _ | .array _ _=>false
 | _=>true
def Bd(P:Program)(t:TypeId):Prop:=∃d i,P.underlying t=some d∧GG d=true∧P.info? t=some i∧i.size=1
def Bf(P:Program)(t:TypeId)(sz:Nat):Prop:=∃d i,P.underlying t=some d∧GG d=false∧P.info? t=some i∧i.size=sz
def EO(P:Program)(t e:TypeId)(sz:Nat):Prop:=P.underlying t=some (.slice e)∧∃i,P.info? e=some i∧i.size=sz
def AY(P:Program)(t:TypeId)(f off:Nat):Prop:=∃l j i,P.underlying t=some (.struct l)∧l[f]?=some j∧j.offset=off∧P.info? j.type=some i∧i.size≠0
section
variable{P:Program}{c:Bool}{o:Oper}{R:AX}{h:AO}
theorem J0{t}{d}(hd:P.underlying t=some d) w:(isAgg t).run P w=.ok (!GG d) w:=by
 cases d<;>simp[isAgg,run_underlying hd,GG]
theorem Dn{t}{i:TypeInfo}(j:P.info? t=some i) w:(sizeOf t).run P w=.ok i.size w:=by
 simp[sizeOf,typeInfo,j]
theorem AK{x}{v}(j:o.op=.move x)(l:Ev c R x v):AR P c o R h v:=by
 intro q y a _ _ u
 exact⟨a.eval x,λ_ _=>by unfold execOp;rw[j];rfl,l.rep u q⟩
theorem Dj{x}{v}(j:o.op=.assign x)(l:Ev c R x v):AR P c o R h v:=by
 intro q y a _ _ u
 exact⟨a.eval x,λ_ _=>by unfold execOp;rw[j];rfl,l.rep u q⟩
theorem CZ{x}{k}{n}{v}(h:AP x (.r (.int k n)) v):v=.int k n:=by
 cases h with
 | r h=>cases h;rfl
theorem Gp{x}{b}{v}(h:AP x (.r (.bool b)) v):v=.bool b:=by
 cases h with
 | r h=>cases h;rfl
theorem Hg{x}{s:List UInt8}{v}(h:AP x (.r (.str s)) v):v=.string ⟨s.toArray⟩:=by
 cases h with
 | r h=>cases h;rfl
theorem Et{op}{t q}{x y}{k}{m n}{v}{u}(A:o.op=.binOp op t x y q)(B:Ev c R x (.r (.int k m)))(C:Ev c R y (.r (.int k n)))
 (E:∀w, (binOp op t (.int k m) (.int k n)).run P w=.ok u w) (F:∀w S, BE w S v u):AR P c o R h (.r v) := by
  intro j z a _ _ l
  refine⟨u, λJ I => ?_, .r (F _ _)⟩
  unfold execOp
  rw[A]
  simp only[CZ (B.rep l j), CZ (C.rep l j), eqGuard_at_int]
  simp[E]
theorem nc{t j}{x y}{k:IntKind}{m n}(l:o.op=.binOp .add t x y j)(q:Ev c R x (.r (.int k m)))(u:Ev c R y (.r (.int k n)))
 (A:k.wrap (m+n)=m+n):AR P c o R h (.r (.int k (m+n))) :=
  Et l q u (λw => by rw[binOp_add];simp only[Op.intArith, A];rfl) (λ_ _ => .int _ _)
theorem ib{t j}{x y}{k:IntKind}{m n}(l:o.op=.binOp .sub t x y j)(q:Ev c R x (.r (.int k m)))(u:Ev c R y (.r (.int k n)))
 (A:k.wrap (m - n)=m - n):AR P c o R h (.r (.int k (m - n))) :=
  Et l q u (λw => by rw[binOp_sub];simp only[Op.intArith, A];rfl) (λ_ _ => .int _ _)
theorem nR{t j}{x y}{k:IntKind}{m n}(l:o.op=.binOp .mul t x y j)(q:Ev c R x (.r (.int k m)))(u:Ev c R y (.r (.int k n)))
 (A:k.wrap (m * n)=m * n):AR P c o R h (.r (.int k (m * n))) :=
  Et l q u (λw => by rw[binOp_mul];simp only[Op.intArith, A];rfl) (λ_ _ => .int _ _)
theorem uc{t j}{x y}{k:IntKind}{m n}(l:o.op=.binOp .add t x y j)(q:Ev c R x (.r (.int k m)))(u:Ev c R y (.r (.int k n))) :
  AR P c o R h (.r (.int k (k.wrap (m+n)))):=
 Et l q u (λw=>by rw[binOp_add];simp only[Op.intArith];rfl) (λ_ _=>.int _ _)
theorem tY{t j}{x y}{k:IntKind}{m n}(l:o.op=.binOp .sub t x y j)(q:Ev c R x (.r (.int k m)))(u:Ev c R y (.r (.int k n))) :
  AR P c o R h (.r (.int k (k.wrap (m-n)))):=
 Et l q u (λw=>by rw[binOp_sub];simp only[Op.intArith];rfl) (λ_ _=>.int _ _)
theorem lK{t j}{x y}{k:IntKind}{m n:Int}(l:o.op=.binOp .quo t x y j)(q:Ev c R x (.r (.int k m)))(u:Ev c R y (.r (.int k n)))
 (A:n≠0) (B:k.wrap (m.tdiv n)=m.tdiv n):AR P c o R h (.r (.int k (m.tdiv n))) :=
  Et l q u (λw => by rw[binOp_quo];simp only[Op.intDiv, vg A, B];rfl) (λ_ _ => .int _ _)
theorem uU{t j}{x y}{k}{m n:Int}(l:o.op=.binOp .rem t x y j)(q:Ev c R x (.r (.int k m)))(u:Ev c R y (.r (.int k n)))
 (A:n≠0):AR P c o R h (.r (.int k (m.tmod n))) :=
  Et l q u (λw => by rw[binOp_rem];simp only[Op.intDiv, vg A];rfl) (λ_ _ => .int _ _)
theorem Am{t j}{x y}{k}{m n}(l:o.op=.binOp .eql t x y j)(q:Ev c R x (.r (.int k m)))(u:Ev c R y (.r (.int k n))) :
  AR P c o R h (.r (.bool (decide (m=n)))):=
 Et l q u (λw=>by rw[binOp_eql];rfl) (λ_ _=>.bool _)
theorem Ct{t j}{x y}{k}{m n}(l:o.op=.binOp .neq t x y j)(q:Ev c R x (.r (.int k m)))(u:Ev c R y (.r (.int k n))) :
  AR P c o R h (.r (.bool (!(m=n)))):=
 Et l q u (λw=>by rw[binOp_neq];rfl) (λ_ _=>.bool _)
theorem B5{t j}{x y}{k}{m n}(l:o.op=.binOp .lss t x y j)(q:Ev c R x (.r (.int k m)))(u:Ev c R y (.r (.int k n))) :
  AR P c o R h (.r (.bool (decide (m<n)))):=
 Et l q u (λw=>by rw[binOp_lss];rfl) (λ_ _=>.bool _)
theorem FG{t j}{x y}{k}{m n}(l:o.op=.binOp .leq t x y j)(q:Ev c R x (.r (.int k m)))(u:Ev c R y (.r (.int k n))) :
  AR P c o R h (.r (.bool (decide (m≤n)))):=
 Et l q u (λw=>by rw[binOp_leq];rfl) (λ_ _=>.bool _)
theorem A9{t j}{x y}{k}{m n}(l:o.op=.binOp .gtr t x y j)(q:Ev c R x (.r (.int k m)))(u:Ev c R y (.r (.int k n))) :
  AR P c o R h (.r (.bool (decide (n<m)))):=
 Et l q u (λw=>by rw[binOp_gtr];rfl) (λ_ _=>.bool _)
theorem C1{t j}{x y}{k}{m n}(l:o.op=.binOp .geq t x y j)(q:Ev c R x (.r (.int k m)))(u:Ev c R y (.r (.int k n))) :
  AR P c o R h (.r (.bool (decide (n≤m)))):=
 Et l q u (λw=>by rw[binOp_geq];rfl) (λ_ _=>.bool _)
def Ay(a b:List UInt8):Bool:=Op.bytesLess a b
theorem Kf{op}{t q}{x y}{a b:List UInt8}{v}{u}(A:o.op=.binOp op t x y q)(B:Ev c R x (.r (.str a)))(C:Ev c R y (.r (.str b)))
 (E:∀w, (binOp op t (.string ⟨a.toArray⟩) (.string ⟨b.toArray⟩)).run P w=.ok u w) (F:∀w S, BE w S v u):AR P c o R h (.r v) := by
  intro j z w _ _ l
  refine⟨u, λJ I => ?_, .r (F _ _)⟩
  unfold execOp
  rw[A]
  simp only[Hg (B.rep l j), Hg (C.rep l j), eqGuard_at_string]
  simp[E]
theorem Cz{t j}{x y}{a b}(l:o.op=.binOp .eql t x y j)(q:Ev c R x (.r (.str a)))(u:Ev c R y (.r (.str b))) :
  AR P c o R h (.r (.bool (decide (a=b)))):=
 Kf (u:=.bool (a==b)) l q u (λw=>by simp[binOp,Op.stringOp,ByteArray.toList_eq]) (λ_ _=>by
  have:(a==b)=decide (a=b):=by by_cases h:a=b<;>simp[h]
  rw[this];exact .bool _)
theorem DJ{t j}{x y}{a b}(l:o.op=.binOp .neq t x y j)(q:Ev c R x (.r (.str a)))(u:Ev c R y (.r (.str b))) :
  AR P c o R h (.r (.bool (!(a=b)))):=
 Kf (u:=.bool (!(a==b))) l q u (λw=>by simp[binOp,Op.stringOp,ByteArray.toList_eq]) (λ_ _=>by
  have:(a==b)=decide (a=b):=by by_cases h:a=b<;>simp[h]
  rw[this];exact .bool _)
theorem LP{t j}{x y}{a b}(l:o.op=.binOp .lss t x y j)(q:Ev c R x (.r (.str a)))(u:Ev c R y (.r (.str b))) :
  AR P c o R h (.r (.bool (Ay a b))):=
 Kf (u:=.bool (Ay a b)) l q u (λw=>by simp[binOp,Op.stringOp,ByteArray.toList_eq,Ay]) (λ_ _=>.bool _)
theorem Wy{t j}{x y}{a b}(l:o.op=.binOp .geq t x y j)(q:Ev c R x (.r (.str a)))(u:Ev c R y (.r (.str b))) :
  AR P c o R h (.r (.bool (!Ay a b))):=
 Kf (u:=.bool (!Ay a b)) l q u (λw=>by simp[binOp,Op.stringOp,ByteArray.toList_eq,Ay]) (λ_ _=>.bool _)
theorem dQ{t j}{x y}{a b}(l:o.op=.binOp .leq t x y j)(q:Ev c R x (.r (.str a)))(u:Ev c R y (.r (.str b))) :
  AR P c o R h (.r (.bool (Ay a b||(a=b)))):=
 Kf (u:=.bool (Ay a b||(a==b))) l q u (λw=>by simp[binOp,Op.stringOp,ByteArray.toList_eq,Ay]) (λ_ _=>by
  have:(a==b)=decide (a=b):=by by_cases h:a=b<;>simp[h]
  rw[this];exact .bool _)
theorem ku{t j}{x y}{a b}(l:o.op=.binOp .gtr t x y j)(q:Ev c R x (.r (.str a)))(u:Ev c R y (.r (.str b))) :
  AR P c o R h (.r (.bool (!(Ay a b||(a=b))))):=
 Kf (u:=.bool (!(Ay a b||(a==b)))) l q u (λw=>by simp[binOp,Op.stringOp,ByteArray.toList_eq,Ay]) (λ_ _=>by
  have:(a==b)=decide (a=b):=by by_cases h:a=b<;>simp[h]
  rw[this];exact .bool _)
theorem tT{t l}{x y}{a b:List UInt8}(q:o.op=.binOp .add t x y l)(u:Ev c R x (.r (.str a)))(A:Ev c R y (.r (.str b)))
 (C:a.length+b.length≤9223372036854775807):AR P c o R h (.r (.str (a++b))) :=
  Kf (u := .string (⟨a.toArray⟩++⟨b.toArray⟩)) q u A (λw => by
    have j:(⟨a.toArray⟩:ByteArray).size=a.length := rfl
    have B:(⟨b.toArray⟩:ByteArray).size=b.length := rfl
    have:¬ (9223372036854775807:Int)<(a.length:Int)+(b.length:Int) := by omega
    simp[binOp, Op.stringOp, j, B, this]) (λw S => by
    have j:(a++b)=((⟨a.toArray⟩:ByteArray)++⟨b.toArray⟩).data.toList := by simp[ByteArray.data_append]
    rw[j];exact .str _)
theorem A3{t}{x}{b}(j:o.op=.unOp .not t x)(l:Ev c R x (.r (.bool b))):AR P c o R h (.r (.bool (!b))):=by
 intro q z w _ _ u
 refine⟨.bool (!b),λB A=>?_,.r (.bool _)⟩
 unfold execOp
 rw[j]
 simp[Gp (l.rep u q),Op.unary]
theorem qp{t}{x}{k:IntKind}{m}(j:o.op=.unOp .neg t x)(l:Ev c R x (.r (.int k m)))(q:k.wrap (-m) = -m):AR P c o R h (.r (.int k (-m))):=by
 intro u z w _ _ A
 refine⟨.int k (-m),λC B=>?_,.r (.int _ _)⟩
 unfold execOp
 rw[j]
 simp[CZ (l.rep A u),Op.unary,Op.intArith,q]
theorem BI{x y}{a b}(q:o.op=.pick x y (.const (.bool false)))(u:Ev c R x (.r (.bool a)))(A:Ev (c&&(a==true)) R y (.r (.bool b))) :
  AR P c o R h (.r (.bool (a&&b))):=by
 intro j z w _ _ l
 refine⟨.bool (a&&b),λE B=>?_,.r (.bool _)⟩
 unfold execOp
 rw[q]
 simp only[Gp (u.rep l j),asBool]
 cases a with
 | true=>
  have C:w.eval y=.bool b:=Gp (A.rep l (by simp[j]))
  simp[C]
 | false=>simp[Act.eval]
theorem CW{x y}{a b}(q:o.op=.pick x (.const (.bool true)) y)(u:Ev c R x (.r (.bool a)))(A:Ev (c&&(a==false)) R y (.r (.bool b))) :
  AR P c o R h (.r (.bool (a||b))):=by
 intro j z w _ _ l
 refine⟨.bool (a||b),λE B=>?_,.r (.bool _)⟩
 unfold execOp
 rw[q]
 simp only[Gp (u.rep l j),asBool]
 cases a with
 | false=>
  have C:w.eval y=.bool b:=Gp (A.rep l (by simp[j]))
  simp[C]
 | true=>simp[Act.eval]
theorem SE{x:Cx}{xs:List (List RV)}{v}(j:AP x (.r (.sl xs)) v):(xs=[]∧(v=.slice none 0 0∨∃a,v=.slice (some a) 0 0)) ∨
  ∃(b off cap size:Nat) (u:Nat→Nat→Value),v=.slice (some ⟨b,off,none⟩) xs.length cap∧(xs≠[]→x.S b)∧xs.length≤cap∧cap≤maxLen∧(∀row∈xs,row.length=size) ∧
   (∀i row k d,xs[i]?=some row→row[k]?=some d→x.w.cell? ⟨b,off+i * size+k,none⟩=some (u i k)) ∧
   ∀i row k d,xs[i]?=some row→row[k]?=some d→BE x.w x.S d (u i k):=by
 cases j with
 | r h=>cases h with
  | snil=>exact .inl ⟨rfl,.inl rfl⟩
  | sl0 a=>exact .inl ⟨rfl,.inr ⟨a,rfl⟩⟩
  | sl b off _ cap size u l q w A B C=>exact .inr ⟨b,off,cap,size,u,rfl,l,q,w,A,B,C⟩
theorem Zp{t}{e}{sz}{x}{xs:List (List RV)}(A:o.op=.call { callee:=.builtin .len,args:=#[x],argTypes:=#[t] })(l:EO P t e sz)(B:Ev c R x (.r (.sl xs))) :
  AR P c o R h (.r (.int .i64 xs.length)):=by
 intro C z w _ _ E
 refine⟨.int .i64 xs.length,λI F=>?_,.r (.int _ _)⟩
 unfold execOp
 rw[A]
 rcases SE (B.rep E C) with ⟨q,j | ⟨a,j⟩⟩ | ⟨b,off,cap,size,u,j,_⟩
 ·subst q;simp[resolve,invoke,builtin,j,Builtin.len_,run_underlying l.1,goInt]
 ·subst q;simp[resolve,invoke,builtin,j,Builtin.len_,run_underlying l.1,goInt]
 ·simp[resolve,invoke,builtin,j,Builtin.len_,run_underlying l.1,goInt]
theorem Xv{t}{e e'}{sz l}{x}{id g}{xs:List (List RV)}(B:o.op=.call { callee := .builtin .len, args := #[x], argTypes := #[t] })(q:EO P t e sz)(C:Ev c R x (.own id g))
 (E:hget h id=some (.arr g e' l xs)):AR P c o R h (.r (.int .i64 xs.length)) := by
  intro F z w _ I J
  refine⟨.int .i64 xs.length, λU M => ?_, .r (.int _ _)⟩
  unfold execOp
  rw[B]
  have u := C.rep J F
  generalize A:w.eval x=v at u
  cases u with
  | own _ _ O =>
    have j := O _ (by rw[I];exact E) rfl
    simp only[Ab.shape] at j
    unfold Bm at j
    split at j
    · obtain⟨T, rfl⟩ := j
      simp[resolve, invoke, builtin, A, T, Builtin.len_, run_underlying q.1, goInt]
    · subst j
      simp[resolve, invoke, builtin, A, Builtin.len_, run_underlying q.1, goInt]
theorem rJ{t}{e}{sz}{x}(l:o.op=.call { callee:=.builtin .len,args:=#[x],argTypes:=#[t] })(q:EO P t e sz)(u:Ev c R x (.cst (.slice none 0 0))) :
  AR P c o R h (.r (.int .i64 0)):=by
 intro A z w _ _ B
 refine⟨.int .i64 0,λF C=>?_,.r (.int _ _)⟩
 unfold execOp
 rw[l]
 have j:=u.rep B A
 generalize E:w.eval x=v at j
 cases j
 simp[resolve,invoke,builtin,E,Builtin.len_,run_underlying q.1,goInt]
theorem Ds{t}{x}{s:List UInt8}(j:o.op=.call { callee:=.builtin .len,args:=#[x],argTypes:=#[t] })(l:P.underlying t=some .string)(q:Ev c R x (.r (.str s))) :
  AR P c o R h (.r (.int .i64 s.length)):=by
 intro u z w _ _ A
 refine⟨.int .i64 s.length,λC B=>?_,.r (.int _ _)⟩
 unfold execOp
 rw[j]
 have hsz:(⟨s.toArray⟩:ByteArray).size=s.length:=rfl
 simp[resolve,invoke,builtin,Hg (q.rep A u),Builtin.len_,run_underlying l,goInt,hsz]
theorem Yc{t e}{sz}{x i}{xs:List (List RV)}{k}{n:Int}{row:List RV}(Z:o.op=.indexAddr t x i)(ht:EO P t e sz)(hx:Ev c R x (.r (.sl xs)))
 (hi:Ev c R i (.r (.int k n))) (h0:c=true→0≤n) (A:c=true→xs[n.toNat]?=some row) (B:row.length=sz):AR P c o R h (.rop row 0) := by
  intro I z w _ _ X
  obtain⟨M, ii, O, T⟩ := ht
  have J := A I
  have C:n.toNat<xs.length := (vl.1 J).1
  have U := h0 I
  have E:n<xs.length := by omega
  rcases SE (hx.rep X I) with ⟨h1, _⟩ | ⟨b, off, cap, size, u, h2, hS, Y, hm, hsz, l, F⟩
  · subst h1;simp at C
  · have q:size=sz := by rw[← hsz row (wJ J)];exact B
    subst q
    refine⟨.pointer (some ⟨b, (off+n.toNat * size)+0, none⟩), λw2 a0 => ?_, .rop (λj => u n.toNat j) (λ_ => hS (by rintro rfl;simp at C)) (λj d V => l _ _ _ _ J V) (λj d V => F _ _ _ _ J V)⟩
    unfold execOp
    rw[Z]
    simp[h2, CZ (hi.rep X I), Instr.indexAt, asIntOf, run_underlying M, U, E, Dn O, T, Addr.add_lit]
theorem Kt{x:Cx}(j:x.ok){id g}{e}{sz}{xs:List (List RV)}{v}(A:x.H id=some (.arr g e sz xs))(l:AP x (.own id g) v) :
  0<sz∧(∀row∈xs,row.length=sz)∧∃us,Bm (x.β id) xs.length v∧x.w.ownsRow 0 e sz v xs.length us ∧
   ∀i row c d,xs[i]?=some row→row[c]?=some d→∃u,us[i * sz+c]?=some u∧BE x.w x.S d u:=by
 obtain⟨_,C,E,q,us,w,F,I⟩:=j.obj _ _ A
 cases l with
 | own _ _ l=>
  have B:=l _ A rfl
  simp only[Ab.shape] at B
  have:v=q:=by
   unfold Bm at w B
   split at w<;>simp_all
  subst this
  exact⟨C,E,us,w,F,I⟩
theorem ZX{t e}{sz}{x i}{id g}{e'}{xs:List (List RV)}{k}{n:Int}(T:o.op=.indexAddr t x i)(U:EO P t e sz)(V:Ev c R x (.own id g))
 (X:hget h id=some (.arr g e' sz xs)) (Y:Ev c R i (.r (.int k n))) (Z:c=true→0≤n) (h1:c=true→n<xs.length):AR P c o R h (.ptr id g n.toNat 0) := by
  intro u z w A hH J
  obtain⟨B, ii, C, E⟩ := U
  have F := Z u
  have l := h1 u
  have j:z.H id=some (.arr g e' sz xs) := by rw[hH];exact X
  have M := V.rep J u
  obtain⟨_, _, us, hd, _, _⟩ := Kt A j M
  have hg:g<z.n := by cases M with | own hg _ _ => exact hg
  cases I:z.β id with
  | none => rw[I] at hd;have := hd.1;omega
  | some p =>
    obtain⟨b, cap⟩ := p
    rw[I] at hd
    simp only[Bm] at hd
    refine⟨.pointer (some ⟨b, n.toNat * sz+0, none⟩), λw2 a0 => ?_, .ptr hg rfl λo' q O => ?_⟩
    · unfold execOp
      rw[T]
      simp[hd, CZ (Y.rep J u), Instr.indexAt, asIntOf, run_underlying B, F, l, Dn C, E, Addr.add_lit]
    · rw[j] at q;cases q
      exact⟨b, cap, I, rfl⟩
end
section
variable{P:Program}{c:Bool}{o:Oper}{R:AX}{h:AO}
theorem YV{t}{x i}{s:List UInt8}{k}{n:Int}{l:UInt8}(B:o.op=.index t x i)(C:P.underlying t=some .string)(E:Ev c R x (.r (.str s)))
 (F:Ev c R i (.r (.int k n))) (I:c=true→0≤n) (j:c=true→s[n.toNat]?=some l):AR P c o R h (.r (.int .u8 l.toNat)) := by
  intro q z w _ _ A
  refine⟨.int .u8 l.toNat, λU J => ?_, .r (.int _ _)⟩
  obtain⟨M, O⟩ := vl.1 (j q)
  have u:n.toNat<(⟨s.toArray⟩:ByteArray).size := M
  have T:(if 0≤n then(⟨s.toArray⟩:ByteArray)[n.toNat]? else none)=some l := by
    rw[vh (I q), ByteArray.getElem?_lt' _ _ u]
    exact yC some O
  unfold execOp
  rw[B]
  simp only[Hg (E.rep A q), CZ (F.rep A q), Instr.index, asIntOf]
  simp[run_underlying C, T]
theorem A4{t}{x}{f off}{row}{k}(A:o.op=.fieldAddr t x f)(B:AY P t f off)(C:Ev c R x (.rop row k)):AR P c o R h (.rop row (k+off)):=by
 intro E z w _ _ F
 obtain⟨Z,fl,i,I,J,M,O,T⟩:=B
 have q:=C.rep F E
 generalize U:w.eval x=v at q
 cases q with
 | @rop _ _ b j u V l X=>
  refine⟨.pointer (some ⟨b,j+(k+off),none⟩),λw2 Y=>?_,.rop u V l X⟩
  unfold execOp
  rw[A]
  simp[U,Instr.fieldAt,run_underlying I,J,Instr.sureAddr,fieldPlace,Dn O,T,M,Addr.add_lit,xl]
theorem GQ{t}{x}{f off}{id g i k}{ob:Ab}(B:o.op=.fieldAddr t x f)(C:AY P t f off)(E:Ev c R x (.ptr id g i k))(F:c=true→hget h id=some ob)
 (hg:ob.gen=g):AR P c o R h (.ptr id g i (k+off)) := by
  intro u z w _ I J
  obtain⟨fs, fl, ii, M, O, T, U, V⟩ := C
  have A := E.rep J u
  generalize X:w.eval x=v at A
  cases A with
  | ptr q _ hp =>
    have j:z.H id=some ob := by rw[I];exact F u
    obtain⟨b, cap, Y, rfl⟩ := hp ob j hg
    refine⟨.pointer (some ⟨b, i * ob.shape.2.1+(k+off), none⟩), λw2 Z => ?_, .ptr q rfl λo' l _ => ?_⟩
    · unfold execOp
      rw[B]
      simp[X, Instr.fieldAt, run_underlying M, O, Instr.sureAddr, fieldPlace, Dn U, V, T, Addr.add_lit, xl]
    · rw[j] at l;cases l;exact⟨b, cap, Y, rfl⟩
theorem Ro{t}(j:Bd P t){w:World}{b k}{u}(hc:w.cell? ⟨b,k,none⟩=some u):(Instr.loadAt t (.pointer (some ⟨b,k,none⟩))).run P w=.ok u w:=by
 obtain⟨d,i,l,q,_,_⟩:=j
 simp[Instr.loadAt,Instr.sureAddr,loadVar,J0 l,q,hc]
theorem Kq{t}{sz}(l:Bf P t sz){w:World}{b k}(f:Nat→Value)(hc:∀j,j<sz→w.cell? ⟨b,k+j,none⟩=some (f j)) :
  (Instr.loadAt t (.pointer (some ⟨b,k,none⟩))).run P w=.ok (.agg ((List.range sz).map f).toArray) w:=by
 obtain⟨d,i,q,u,A,B⟩:=l
 have C:=run_loadCells (P:=P) w ⟨b,k,none⟩ sz f (λj E=>by rw[Addr.add_lit];exact hc j E)
 simp[Instr.loadAt,Instr.sureAddr,loadVar,J0 q,u,Dn A,B,C]
theorem LV{x}{cs:List AV}{sz}(w:cs.length=sz) f(A:∀j a,cs[j]?=some a→AP x a (f j)):AP x (.agg cs) (.agg ((List.range sz).map f).toArray):=by
 refine .agg (by simp[w]) λi a u l q=>?_
 have B:i<sz:=by have:=(vl.1 l).1;omega
 simp[B] at q
 subst q
 exact A i a l
theorem fI{t}{x}{row}{k}{d}(E:o.op=.load t x)(F:Bd P t)(I:Ev c R x (.rop row k))(hd:c=true→row[k]?=some d):AR P c o R h (.r d):=by
 intro j z w _ _ J
 have B:=I.rep J j
 generalize M:w.eval x=v at B
 cases B with
 | @rop _ _ b C u O l T=>
  refine⟨u k,λU q=>?_,.r (T _ _ (hd j))⟩
  unfold execOp
  rw[E]
  have A:row≠[]:=by have:=hd j;rintro rfl;simp at this
  simp[M,Ro F ((q.cellS (O A)).trans (l _ _ (hd j)))]
theorem bX{t}{x}{row:List RV}{sz}(E:o.op=.load t x)(F:Bf P t sz)(I:Ev c R x (.rop row 0))(hd:row.length=sz):AR P c o R h (.agg (row.map .r)):=by
 intro J z w _ _ M
 have C:=I.rep M J
 generalize O:w.eval x=v at C
 cases C with
 | @rop _ _ b l u T q U=>
  refine⟨.agg ((List.range sz).map u).toArray,λV A=>?_,LV (by simp[hd]) u λj a B=>?_⟩
  ·unfold execOp
   rw[E]
   have:=Kq F (w:=V) (b:=b) (k:=l+0) u (λj B=>(A.cellS (T (by rintro rfl;simp at hd;omega))).trans (q j (row[j]'(by omega)) (vo _)))
   simp only[ws] at this
   simp[O,this]
  ·simp only[wD,v8] at B
   obtain⟨d,X,rfl⟩:=B
   exact .r (U _ _ X)
theorem IQ{x:Cx}(q:x.ok){id g k}{e}{cs:List AV}{v}(B:x.H id=some (.box g e cs))(w:AP x (.ptr id g 0 k) v) :
  ∃b l,x.β id=some (b,1)∧v=.pointer (some ⟨b,k,none⟩)∧x.w.heap[b]?=some (.cells l e (0,0))∧l.size=cs.length ∧
   ∀(j:Nat) (a:AV),cs[j]?=some a→∃u:Value,l[j]?=some u∧u.oneCell'=true∧AP x a u:=by
 obtain⟨_,b,l,C,E,F,I⟩:=q.obj _ _ B
 cases w with
 | ptr _ _ w=>
  obtain⟨M,cap,A,J⟩:=w _ B rfl
  rw[C] at A
  simp only[vz,wA] at A
  obtain⟨rfl,rfl⟩:=A
  exact⟨b,l,C,by rw[J,zR,wK],E,F,I⟩
theorem Ug{t}{x}{id g k}{e}{cs}{a}(C:o.op=.load t x)(E:Bd P t)(F:Ev c R x (.ptr id g 0 k))(I:c=true→hget h id=some (.box g e cs))
 (J:c=true→cs[k]?=some a):AR P c o R h a := by
  intro l z w q M O
  have j:z.H id=some (.box g e cs) := by rw[M];exact I l
  obtain⟨b, A, T, U, V, h4, X⟩ := IQ q j (F.rep O l)
  obtain⟨u, Y, _, Z⟩ := X _ _ (J l)
  refine⟨u, λw2 B => ?_, Z⟩
  unfold execOp
  rw[C]
  simp[U, Ro E ((B.cellO j T).trans ((cell_of_row _ b k A e _ V).trans Y))]
theorem j9{t}{x}{id g}{e}{sz}{cs:List AV}(J:o.op=.load t x)(M:Bf P t sz)(O:Ev c R x (.ptr id g 0 0))(T:c=true→hget h id=some (.box g e cs))
 (U:cs.length=sz):AR P c o R h (.agg cs) := by
  intro I z w C V X
  have q:z.H id=some (.box g e cs) := by rw[V];exact T I
  obtain⟨b, l, Y, Z, h3, h4, h5⟩ := IQ C q (O.rep X I)
  have A:∀j, j<sz→z.w.cell? ⟨b, 0+j, none⟩=some ((λj => l.getD j undef) j) := by
    intro j B
    have E:j<l.size := by omega
    rw[wK, cell_of_row _ b j l e _ h3]
    simp[E]
  refine⟨.agg ((List.range sz).map λj => l.getD j undef).toArray, λw2 F => ?_, LV U _ λj a B => ?_⟩
  · unfold execOp
    rw[J]
    simp[Z, Kq M _ (λj B => (F.cellO q Y).trans (A j B))]
  · obtain⟨u, h6, _, h7⟩ := h5 _ _ B
    obtain⟨h8, h9⟩ := wm.1 h6
    simpa[h8, h9] using h7
theorem Iw{w:World}{e}{sz n cap b}{us}(h:w.ownsRow 0 e sz (.slice (some ⟨b,0,none⟩) n cap) n us){j}{u}(l:us[j]?=some u):w.cell? ⟨b,j,none⟩=some u:=by
 have:=h.cells (g:=b) rfl j u l
 rwa [Addr.add_lit,wK] at this
theorem SQ{x:Cx}(j:x.ok){id g i k}{e}{sz}{xs:List (List RV)}{v}(w:x.H id=some (.arr g e sz xs))(_hi:i<xs.length)(l:AP x (.ptr id g i k) v) :
  ∃b cap us,x.β id=some (b,cap)∧v=.pointer (some ⟨b,i * sz+k,none⟩)∧x.w.ownsRow 0 e sz (.slice (some ⟨b,0,none⟩) xs.length cap) xs.length us∧(∀row∈xs,row.length=sz) ∧
   ∀i row c d,xs[i]?=some row→row[c]?=some d→∃u,us[i * sz+c]?=some u∧BE x.w x.S d u:=by
 obtain⟨_,J,B,C,us,q,E,F⟩:=j.obj _ _ w
 cases l with
 | ptr _ _ l=>
  obtain⟨b,cap,A,I⟩:=l _ w rfl
  rw[A] at q
  simp only[Bm] at q
  subst q
  exact⟨b,cap,us,A,I,E,B,F⟩
theorem YA{t}{x}{id g i k}{e}{sz}{xs}{row}{d}(C:o.op=.load t x)(E:Bd P t)(F:Ev c R x (.ptr id g i k))(I:c=true→hget h id=some (.arr g e sz xs))
 (j:c=true→xs[i]?=some row) (J:c=true→row[k]?=some d):AR P c o R h (.r d) := by
  intro q z w A M O
  have l:z.H id=some (.arr g e sz xs) := by rw[M];exact I q
  obtain⟨b, cap, us, T, U, V, _, X⟩ := SQ A l (vl.1 (j q)).1 (F.rep O q)
  obtain⟨u, Y, Z⟩ := X _ _ _ _ (j q) (J q)
  refine⟨u, λw2 B => ?_, .r Z⟩
  unfold execOp
  rw[C]
  simp[U, Ro E ((B.cellO l T).trans (Iw V Y))]
theorem ez{t}{x}{id g i}{e}{sz}{xs}{row:List RV}(O:o.op=.load t x)(T:Bf P t sz)(U:Ev c R x (.ptr id g i 0))(V:c=true→hget h id=some (.arr g e sz xs))
 (l:c=true→xs[i]?=some row):AR P c o R h (.agg (row.map .r)) := by
  intro B z w F X Y
  have q:z.H id=some (.arr g e sz xs) := by rw[X];exact V B
  obtain⟨b, cap, J, Z, h2, h3, h4, M⟩ := SQ F q (vl.1 (l B)).1 (U.rep Y B)
  have hl := h4 row (wJ (l B))
  have A:∀j, j<sz→z.w.cell? ⟨b, i * sz+0+j, none⟩=some ((λj => J.getD (i * sz+j) undef) j) := by
    intro j C
    obtain⟨u, E, _⟩ := M i row j (row[j]'(by omega)) (l B) (vo _)
    rw[ws, Iw h3 E]
    simp[List.getD, E]
  refine⟨.agg ((List.range sz).map λj => J.getD (i * sz+j) undef).toArray, λw2 I => ?_, LV (by simp[hl]) _ λj a C => ?_⟩
  · unfold execOp
    rw[O]
    simp only[h2, Kq T _ (λj C => (I.cellO q Z).trans (A j C)), Sem.run_bind, Result.andThen_ok, Sem.run_pure]
  · simp only[wD, v8] at C
    obtain⟨d, E, rfl⟩ := C
    obtain⟨u, h7, h8⟩ := M i row j d (l B) E
    simpa[List.getD, h7] using AP.r h8
theorem aB{x}{vs}{i}{a}(B:o.op=.extract x i)(C:Ev c R x (.tup vs))(q:vs[i]?=some a):AR P c o R h a:=by
 intro E z w _ _ F
 have u:=C.rep F E
 generalize I:w.eval x=v at u
 cases u with
 | @tup _ l M j=>
  have A:i<l.size:=by have:=(vl.1 q).1;omega
  refine⟨l[i],λO J=>?_,j i a l[i] q (wS A)⟩
  unfold execOp
  rw[B]
  simp[I,Instr.extract,wS A]
theorem sp{x}{row}{k}(q:o.op=.nilCheck x)(A:Ev c R x (.rop row k)):AR P c o R h (.rop row k):=by
 intro B z w _ _ C
 have j:=A.rep C B
 refine⟨w.eval x,λJ E=>?_,j⟩
 generalize F:w.eval x=v at j
 cases j with
 | @rop _ _ b l u M I O=>
  unfold execOp
  rw[q]
  simp[F]
theorem B7{x}{id g i k}{ob:Ab}(q:o.op=.nilCheck x)(u:Ev c R x (.ptr id g i k))(A:c=true→hget h id=some ob)(hg:ob.gen=g):AR P c o R h (.ptr id g i k):=by
 intro l z w _ B C
 have j:=u.rep C l
 refine⟨w.eval x,λJ E=>?_,j⟩
 generalize F:w.eval x=v at j
 cases j with
 | ptr I _ hp=>
  obtain⟨b,cap,M,rfl⟩:=hp ob (by rw[B];exact A l) hg
  unfold execOp
  rw[q]
  simp[F]
theorem Ea{t q}{x}{k j:IntKind}{n}{d}(u:o.op=.convert t q x)(A:P.underlying t=some d)(l:P.underlying q=some (.int j))(B:Ev c R x (.r (.int k n))) :
  AR P c o R h (.r (.int j (j.wrap n))):=by
 intro C z w _ _ E
 refine⟨.int j (j.wrap n),λI F=>?_,.r (.int _ _)⟩
 unfold execOp
 rw[u]
 simp[CZ (B.rep E C),convert,run_underlying A,run_underlying l,Conv.intToInt]
theorem LS{j}{x y}{k}{m n}(u:o.op=.call { callee:=.builtin .min,args:=#[x,y],argTypes:=j })(A:Ev c R x (.r (.int k m)))(B:Ev c R y (.r (.int k n))) :
  AR P c o R h (.r (.int k (min m n))):=by
 intro l z w _ _ q
 refine⟨.int k (if n<m then n else m),λE C=>?_,?_⟩
 ·unfold execOp
  rw[u]
  simp[resolve,invoke,builtin,CZ (A.rep q l),CZ (B.rep q l),Builtin.min_,Builtin.min2]
 ·have:(if n<m then n else m)=min m n:=by omega
  rw[this];exact .r (.int _ _)
theorem Wz{j}{x y}{k}{m n}(u:o.op=.call { callee:=.builtin .max,args:=#[x,y],argTypes:=j })(A:Ev c R x (.r (.int k m)))(B:Ev c R y (.r (.int k n))) :
  AR P c o R h (.r (.int k (max m n))):=by
 intro l z w _ _ q
 refine⟨.int k (if n > m then n else m),λE C=>?_,?_⟩
 ·unfold execOp
  rw[u]
  simp[resolve,invoke,builtin,CZ (A.rep q l),CZ (B.rep q l),Builtin.max_,Builtin.max2]
 ·have:(if n > m then n else m)=max m n:=by omega
  rw[this];exact .r (.int _ _)
end
section
variable{P:Program}{c:Bool}{o:Oper}{R:AX}{h:AO}{n:Nat}
theorem D3 id ob h:(λi=>if id=i then some ob else hget h i)=hget ((id,some ob)::h):=by
 funext i;rw[Bv]
def BV:AV→List AV
 | .agg j=>j
 | a=>[a]
theorem M1{x}{a}{v:Value}(J:AP x a v)(E:∀b∈BV a,b.one=true) :
  v.cells.size=(BV a).length∧(∀(j:Nat) (b:AV),(BV a)[j]?=some b→∃u:Value,v.cells[j]?=some u∧u.oneCell'=true∧AP x b u)∧∀u∈v.cells.toList,u.oneCell'=true:=by
 have key:∀(A:List AV) (w:Array Value),A.length=w.size→(∀(i:Nat) (c:AV) (u:Value),A[i]?=some c→w[i]?=some u→AP x c u)→(∀b∈A,b.one=true) →
   w.size=A.length∧(∀(j:Nat) (b:AV),A[j]?=some b→∃u:Value,w[j]?=some u∧u.oneCell'=true∧AP x b u)∧∀u∈w.toList,u.oneCell'=true:=by
  intro A w M l B
  refine⟨M.symm,λj b C=>?_,λu F=>?_⟩
  ·have q:j<w.size:=by have:=(vl.1 C).1;omega
   exact⟨w[j],wS q,(l j b w[j] C (wS q)).one (B b (wJ C)),l j b w[j] C (wS q)⟩
  ·obtain⟨j,C⟩:=yK.1 F
   have q:j<A.length:=by have:=(vl.1 C).1;simp at this;omega
   have E:=l j A[j] u (vo q) (by simpa using C)
   exact E.one (B _ (xr q))
 cases a with
 | agg A=>
  cases J with
  | agg M l=>exact key _ _ M l E
 | _=>
  have O:=J.one (E _ (by simp[BV]))
  have T:v.cells = #[v]:=by cases v<;>first | rfl | (simp[Value.oneCell'] at O)
  rw[T]
  refine key _ _ rfl (λi c u I F=>?_) E
  simp only[BV,List.getElem?_singleton] at I
  split at I
  ·rename_i U;subst U
   cases I;simp at F;subst F;exact J
  ·cases I
theorem cP{x:Cx}(w:x.ok)(id:Nat)(e:TypeId)(a:AV){v:Value}(C:AP x a v)(E:∀b∈BV a,b.one=true) :
  ∃y:Cx,x.le y∧y.ok∧y.w=x.w.alloc (.cells v.cells e)∧y.H=(λi=>if id=i then some (.box x.n e (BV a)) else x.H i)∧y.n=x.n+1 ∧
   AP y (.ptr id x.n 0 0) (.pointer (some ⟨x.w.heap.size,0,none⟩)):=by
 obtain⟨F,l,_⟩:=M1 C E
 have:=EV w id (.box x.n e (BV a)) (x.w.alloc (.cells v.cells e)) (some (x.w.heap.size,1)) (x.n+1) (by simp) rfl rfl rfl
  (λb A _=>heap_alloc_old _ _ A) (λb k A=>by cases A;simp) (by omega) (by simp[Ab.gen]) (λhg=>absurd hg (by simp[Ab.gen]))
  (λB=>⟨x.w.heap.size,v.cells,rfl,heap_alloc_new _ _,F,λj b I=>by
   obtain⟨u,J,M,O⟩:=l j b I
   exact⟨u,J,M,O.mono B⟩⟩)
 refine⟨_,this.1,this.2,rfl,rfl,rfl,.ptr (by simp) rfl λT q _=>?_⟩
 simp only[vh] at q
 cases q
 exact⟨x.w.heap.size,1,by simp,by simp⟩
theorem gY{t}{v:Value}{w:World} : (newVar t v).run P w=.ok ⟨w.heap.size,0,none⟩ (w.alloc (.cells v.cells t)):=by
 simp[newVar,newRow]
def CO(P:Program)(t:TypeId)(z:Value):Prop:=∃i,P.info? t=some i∧i.zero=some z
def F1(z:Value):AV:=
 match z with
 | .agg j=>.agg (j.toList.map HC)
 | v=>HC v
theorem RT x z:AP x (F1 z) z:=by
 cases z with
 | agg q=>
  refine .agg (by simp) λi a u l w=>?_
  have j:q.toList[i]?=some u:=by simpa using w
  simp only[wD,j,xD,vz] at l
  subst l;exact NP x u
 | _=>simp only[F1];exact NP x _
theorem cQ{t:TypeId}{x:Operand}{a:AV}(id:Nat)(q:o.op=.box t x)(u:Ev c R x a)(A:(BV a).all AV.one=true):A7 P c o R h n (.ptr id n 0 0) ((id,some (.box n t (BV a)))::h) (n+1):=by
 intro B z w j C l E K Q F
 obtain⟨y,I,J,M,O,T,U⟩:=cP j id t a (u.rep E B) (λb V=>wI.1 A b V)
 unfold Oper.wp execOp
 rw[q]
 simp only[Instr.box,Sem.run_bind,gY,Result.andThen_ok,Sem.run_pure]
 have:=F (.pointer (some ⟨z.w.heap.size,0,none⟩)) y I J (by rw[O,C,l,D3]) (by rw[T,l]) (by rw[← l];exact U)
 rw[M] at this
 exact this
theorem aP{t:TypeId}{j:Value}(id:Nat)(A:o.op=.alloc t)(l:CO P t j)(B:(BV (F1 j)).all AV.one=true) :
  A7 P c o R h n (.ptr id n 0 0) ((id,some (.box n t (BV (F1 j))))::h) (n+1):=by
 intro X z w q C u Y K Q E
 obtain⟨i,F,l⟩:=l
 obtain⟨y,I,J,M,O,T,U⟩:=cP q id t (F1 j) (RT z j) (λb V=>wI.1 B b V)
 unfold Oper.wp execOp
 rw[A]
 simp only[Instr.alloc,zeroValue,typeInfo,Sem.run_bind,run_program,Result.andThen_ok,F,Sem.run_pure,l,gY]
 have:=E (.pointer (some ⟨z.w.heap.size,0,none⟩)) y I J (by rw[O,C,u,D3]) (by rw[T,u]) (by rw[← u];exact U)
 rw[M] at this
 exact this
theorem R2{t}{i:TypeInfo}(q:P.info? t=some i){w:World}{b k}{e}{j:Array Value}(A:w.heap[b]?=some (.cells j e (0, 0))){v:Value}(B:v.cells.size=i.size)
 (C:∀u ∈ v.cells.toList, u.oneCell'=true) (l:k+v.cells.size≤j.size) :
    (Instr.storeAt t (.pointer (some ⟨b, k, none⟩)) v).run P w=.ok () (w.setRow b (j.toList.take k++v.cells.toList++j.toList.drop (k+v.cells.size)).toArray) := by
  have := run_storeCells_at P b k e v.cells.toList 0 j w A (by simpa using l) C
  simp only[ws, wV] at this
  simp[Instr.storeAt, Instr.sureAddr, storeVar, Dn q, B, this]
theorem Jt{α:Type}(l vs:List α) k j(u:k+vs.length≤l.length):(l.take k++vs++l.drop (k+vs.length))[j]?=if k≤j∧j<k+vs.length then vs[j-k]? else l[j]?:=by
 by_cases q:j<k
 ·rw[vg (by omega),vy,wO (by simp;omega),wW,vh q]
 ·by_cases w:j<k+vs.length
  ·rw[vh (by omega),vy,wN (by simp;omega),wO (by simp;omega)]
   congr 1
   simp only[wi]
   omega
  ·rw[vg (by omega),wN (by simp;omega)]
   simp only[vw,wi,xJ]
   congr 1<;>omega
def GP(cs:List AV)(k:Nat)(vs:List AV):List AV:=cs.take k++vs++cs.drop (k+vs.length)
theorem gn{t}{x y}{id g k}{e}{cs:List AV}{a}{sz}(ho:o.op=.store t x y)(ht:∃i, P.info? t=some i∧i.size=sz)(hx:Ev c R x (.ptr id g 0 k))
 (hh:hget h id=some (.box g e cs)) (hy:Ev c R y a) (hsz:(BV a).length=sz) (h1:(BV a).all AV.one=true) (I:Nat.ble (k+sz) cs.length=true) :
    A7 P c o R h n .any ((id, some (.box g e (GP cs k (BV a))))::h) n := by
  intro hc z w q hH hn he K Q hK
  obtain⟨ii, hi, a7⟩ := ht
  have l:z.H id=some (.box g e cs) := by rw[hH];exact hh
  have V:k+sz≤cs.length := wj I
  obtain⟨b, E, U, X, B, a8, A⟩ := IQ q l (hx.rep he hc)
  obtain⟨Y, Z, a0⟩ := M1 (hy.rep he hc) (λb hb => wI.1 h1 b hb)
  have J := R2 (P := P) (k := k) hi B (v := w.eval y) (by omega) a0 (by omega)
  have a1 := (q.obj _ _ l).1
  have hl:(GP cs k (BV a)).length=cs.length := by simp[GP];omega
  have M := EV q id (.box g e (GP cs k (BV a))) (z.w.setRow b (E.toList.take k++(w.eval y).cells.toList++E.toList.drop (k+(w.eval y).cells.size)).toArray) (some (b, 1)) z.n (by simp[World.setRow]) rfl rfl rfl
    (λb' _ a2 => setRow_other _ _ _ _ (λe => a2 _ 1 l (by rw[e];exact U))) (λb' k' hb => by
      cases hb
      exact⟨by simpa[World.setRow] using(q.own id _ b 1 l U).1, .inr ⟨_, _, l, U⟩⟩) (vu _) a1
    (λ_ => ⟨_, l, rfl, by simp[Ab.shape, hl], U.symm⟩)
    (λO => ⟨b, _, rfl, setRow_heap _ _ _ _ _ _ B, by simp;omega, λj d T => by
      have a6 := Jt cs (BV a) k j (by omega)
      have C := Jt E.toList (w.eval y).cells.toList k j (by simp;omega)
      rw[wV] at C
      rw[List.getElem?_toArray, C]
      unfold GP at T
      rw[a6, ← Y] at T
      split at T
      · rename_i F
        obtain⟨u, k1, k2, k3⟩ := Z _ _ T
        exact⟨u, by rw[vh F];simpa using k1, k2, k3.mono O⟩
      · rename_i F
        obtain⟨u, k1, k2, k3⟩ := A _ _ T
        exact⟨u, by rw[vg F];simpa using k1, k2, k3.mono O⟩⟩)
  unfold Oper.wp execOp
  rw[ho]
  simp only[X, Sem.run_bind, J, Result.andThen_ok, Sem.run_pure]
  exact hK undef _ M.1 M.2 (by simp only[hH];exact D3 _ _ _) hn (.any _)
end
section
variable{P:Program}{c:Bool}{o:Oper}{R:AX}{h:AO}{n:Nat}
def Bj(P:Program)(t e:TypeId)(sz j:Nat):Prop:=
 P.underlying t=some (.slice e)∧∃i z,P.info? e=some i∧i.size=sz∧i.bytes=j∧i.zero=some z∧z.cells.size=sz∧(∀u∈z.cells.toList,u.oneCell'=true)∧0<sz
theorem Bj.slice{t e}{sz b}(h:Bj P t e sz b):EO P t e sz:=by
 obtain⟨j,i,z,l,q,_⟩:=h
 exact⟨j,i,l,q⟩
def PB:Value→Option (Nat × Nat)
 | .slice (some a) _ cap=>some (a.block,cap)
 | _=>none
theorem mz{xs:List (List RV)}{sz:Nat}(l:∀row∈xs,row.length=sz){us:List Value}{Q:RV→Value→Prop}
  (I:us.length=xs.length * sz) (J:∀j u,us[j]?=some u→∃row d,xs[j / sz]?=some row∧row[j % sz]?=some d∧Q d u) (hsz:0<sz) {i k:Nat} {row:List RV} {d:RV} (w:xs[i]?=some row) (A:row[k]?=some d) :
  ∃u,us[i * sz+k]?=some u∧Q d u:=by
 have M:i<xs.length:=(vl.1 w).1
 have B:k<sz:=by rw[← l row (wJ w)];exact(vl.1 A).1
 have q:i * sz+k<us.length:=by
  rw[I]
  calc i * sz+k<i * sz+sz:=by omega
   _=(i+1) * sz:=by rw[wo,xc]
   _≤xs.length * sz:=wR _ M
 refine⟨us[i * sz+k],vo q,?_⟩
 obtain⟨C,U,E,F,O⟩:=J _ _ (vo q)
 have T:(i * sz+k) / sz=i:=by rw[yH,yu hsz,ym B,ws]
 have e2:(i * sz+k) % sz=k:=by rw[yH,zS,yY B]
 rw[T,w] at E
 cases E
 rw[e2,A] at F
 cases F
 exact O
def Ta(x:Cx)(v:Value)(sz:Nat)(q:List (List RV)):Prop:=
 (q=[]∧∃c,v=.slice none 0 c)∨∃(a:Addr) (cap:Nat) (l:List Value),v=.slice (some a) q.length cap∧l.length=q.length * sz∧(∀j u,l[j]?=some u→x.w.cell? (Addr.add a j)=some u)∧(∀u∈l,u.oneCell'=true) ∧
  ∀i row k d,q[i]?=some row→row[k]?=some d→∃u,l[i * sz+k]?=some u∧BE x.w x.S d u
theorem jf{x:Cx}{v:Value}{q:List (List RV)}{sz:Nat}(hv:AP x (.r (.sl q)) v)(hsz:∀row∈q,row.length=sz)(M:0<sz):Ta x v sz q:=by
 rcases SE hv with ⟨rfl,rfl | ⟨a,rfl⟩⟩ | ⟨b,off,cap,size,u,rfl,hS,X,hm,l,C,B⟩
 ·exact .inl ⟨rfl,0,rfl⟩
 ·exact .inr ⟨_,0,[],rfl,by simp,by simp,by simp,by simp⟩
 ·by_cases Y:q=[]
  ·subst Y
   exact .inr ⟨_,cap,[],rfl,by simp,by simp,by simp,by simp⟩
  ·have hs:size=sz:=by
    obtain⟨row,Z⟩:=List.exists_mem_of_ne_nil _ Y
    rw[← l row Z,hsz row Z]
   subst hs
   have hget:∀j,j<q.length * size→∃row d,q[j / size]?=some row∧row[j % size]?=some d:=by
    intro j A
    have O:j / size<q.length:=by rw[Nat.div_lt_iff_lt_mul M];exact A
    have T:j % size<(q[j / size]).length:=by rw[l _ (xr _)];exact Nat.mod_lt _ M
    exact⟨_,_,vo O,vo T⟩
   have U:∀j,j / size * size+j % size=j:=λj=>Nat.div_add_mod' j size
   refine .inr ⟨⟨b,off,none⟩,cap,(List.range (q.length * size)).map λj=>u (j / size) (j % size),rfl,by simp,λj w A=>?_,λw hw=>?_,λi row k d O T=>?_⟩
   ·simp only[wD,v8] at A
    obtain⟨j',V,rfl⟩:=A
    obtain⟨I,J⟩:=vl.1 V
    simp only[zX] at J;subst J
    simp only[List.length_range] at I
    obtain⟨row,d,E,F⟩:=hget _ I
    rw[Addr.add_lit,← C _ _ _ _ E F,xl,U]
   ·simp only[wu,wU] at hw
    obtain⟨j,A,rfl⟩:=hw
    obtain⟨row,d,E,F⟩:=hget _ A
    exact(B _ _ _ _ E F).one
   ·refine mz l (Q:=λd u=>BE x.w x.S d u) (by simp) (λj w A=>?_) M O T
    simp only[wD,v8] at A
    obtain⟨j',V,rfl⟩:=A
    obtain⟨I,J⟩:=vl.1 V
    simp only[zX] at J;subst J
    simp only[List.length_range] at I
    obtain⟨row,d,E,F⟩:=hget _ I
    exact⟨row,d,E,F,B _ _ _ _ E F⟩
theorem oS{x:Cx}{sz}{xs:List (List RV)}{us:List Value}(C:us.length=xs.length * sz)(w:0<sz)(l:∀row ∈ xs, row.length=sz)
 (hc:∀i row k d, xs[i]?=some row→row[k]?=some d→∃u, us[i * sz+k]?=some u∧BE x.w x.S d u):∀u ∈ us, u.oneCell'=true := by
  intro u E
  obtain⟨j, A⟩ := yK.1 E
  have q:j<xs.length * sz := by rw[← C];exact(vl.1 A).1
  have F:j / sz<xs.length := by rw[Nat.div_lt_iff_lt_mul w];exact q
  have I:j % sz<(xs[j / sz]).length := by rw[l _ (xr _)];exact Nat.mod_lt _ w
  obtain⟨v, B, J⟩ := hc _ _ _ _ (vo F) (vo I)
  rw[Nat.div_add_mod', A] at B
  cases B
  exact J.one
theorem q9{x:Cx}(u:x.ok){id g}{e}{sz}{w}{v}(B:x.H id=some (.arr g e sz w))(C:AP x (.own id g) v):Ta x v sz w:=by
 obtain⟨E,l,F,hd,j,A⟩:=Kt u B C
 have q:=oS j.1 E l A
 unfold Bm at hd
 split at hd
 ·have I:w=[]:=wn hd.1
  exact .inl ⟨I,0,hd.2⟩
 ·subst hd
  exact .inr ⟨_,_,F,rfl,j.1,j.cells (by rfl),q,A⟩
theorem fb{x:Cx}(af:x.ok){t e}{sz T}(ht:Bj P t e sz T)(id:Nat){xs E:List (List RV)}{us:List Value}{v u:Value}(B:x.w.ownsRow 0 e sz v xs.length us)
 (hβ:∀b, v.ownBlock=some b→∃Z k, x.H id=some Z∧x.β id=some (b, k)) (a0:∀row ∈ xs, row.length=sz)
 (hc:∀i row k d, xs[i]?=some row→row[k]?=some d→∃u, us[i * sz+k]?=some u∧BE x.w x.S d u)
 (a1:Ta x u sz E) (U:∀row ∈ E, row.length=sz) (hm:xs.length+E.length≤maxLen) (hb:(xs.length+E.length) * T≤140737488355328) (ty:TypeId) :
    ∃w y, (Builtin.append_ #[t, t] ty #[v, u]).run P x.w=.ok w y.w∧x.le y∧y.ok∧y.H=(λi => if id=i then some (.arr x.n e sz (xs++E)) else x.H i)∧y.n=x.n+1∧AP y (.own id x.n) w := by
  obtain⟨V, ii, z, hi, a2, a6, hz, ag, _, h0⟩ := ht
  have key:∃(w:Value) (w':World) (j:List Value), (Builtin.append_ #[t, t] ty #[v, u]).run P x.w=.ok w w'∧w'.ownsRow 0 e sz w (xs.length+E.length) (us++j)∧x.w.grownBy w' v.ownBlock ∧
      (w.ownBlock=v.ownBlock∨w.ownBlock=some x.w.heap.size)∧j.length=E.length * sz∧∀i row k d, E[i]?=some row→row[k]?=some d→∃u, j[i * sz+k]?=some u∧BE x.w x.S d u := by
    rcases a1 with ⟨hy, cc, rfl⟩ | ⟨a, cap, j, rfl, hl, J, a7, a8⟩
    · subst hy
      refine⟨v, x.w, [], ?_, by simpa using B, ⟨rfl, rfl, rfl, vu _, λ_ _ _ => rfl⟩, .inl rfl, by simp, by simp⟩
      rcases B.2 with ⟨rfl, A⟩ | ⟨g, cap, aa, rfl, _, _, ah, _⟩
      · simp[Builtin.append_, run_underlying V, sizeOf, typeInfo, hi, Builtin.lenOf, Builtin.firstCells]
      · simp[Builtin.append_, run_underlying V, sizeOf, typeInfo, hi, Builtin.lenOf, Builtin.firstCells, ah, storeCells]
    · obtain⟨w, w', F, k1, k2, _, k4⟩ := run_append_own_at (P := P) x.w 0 t ty e ii z sz T V hi hz a2 a6 ag h0 v xs.length us B a E.length cap j hl J a7 hm hb (xd _)
      exact⟨w, w', j, F, k1, k2, k4, hl, a8⟩
  obtain⟨w, w', j, F, q, I, ab, ar, X⟩ := key
  have ai := q.lt
  have M:Bm (PB w) (xs++E).length w := by
    rcases q.2 with ⟨rfl, A⟩ | ⟨g, cap, aa, rfl, _⟩
    · exact⟨by rw[vw];exact A, rfl⟩
    · simp[Bm, PB]
  have aj:∀b k, PB w=some (b, k)→w.ownBlock=some b := by
    intro b k C
    cases w with
    | slice a l cp =>
      cases a with
      | none => cases C
      | some a => simp only[PB, vz, wA] at C;simp[Value.ownBlock, C.1]
    | _ => cases C
  have ac := EV af id (.arr x.n e sz (xs++E)) w' (PB w) (x.n+1) I.size I.os I.tape I.output
    (λb ak al => I.block b ak (λheq => by
      obtain⟨Z, k, A, O⟩ := hβ b heq.symm
      exact al Z k A O))
    (λb k C => by
      have A := aj b k C
      refine⟨(ai b A).2, ?_⟩
      rcases ab with O | O
      · rw[O] at A
        obtain⟨Z, k', Y, h4⟩ := hβ b A
        exact .inr ⟨Z, k', Y, h4⟩
      · rw[O] at A;cases A;exact .inl (vu _))
    (by omega) (by simp[Ab.gen]) (λhg => absurd hg (by simp[Ab.gen]))
    (λan => by
      have ad:∀b, x.S b→w'.heap[b]?=x.w.heap[b]? := λb hb => an.blk b (.inl hb)
      refine⟨h0, λrow hr => (wX.1 hr).elim (a0 row) (U row), w, us++j, M, by rw[vw];exact q, λi row k d A O => ?_⟩
      have ao := B.1
      by_cases aq:i<xs.length
      · rw[wO aq] at A
        obtain⟨u, Y, h4⟩ := hc i row k d A O
        refine⟨u, ?_, h4.mono ad (λ_ h => h)⟩
        rw[wO ((vl.1 Y).1)]
        exact Y
      · rw[wN (by omega)] at A
        obtain⟨u, Y, h4⟩ := X _ row k d A O
        refine⟨u, ?_, h4.mono ad (λ_ h => h)⟩
        have e1:i * sz+k=us.length+((i - xs.length) * sz+k) := by
          rw[ao, Nat.sub_mul]
          have:xs.length * sz≤i * sz := wR _ (by omega)
          omega
        rw[e1, wN (by omega), Nat.add_sub_cancel_left]
        exact Y)
  refine⟨w, _, F, ac.1, ac.2, rfl, rfl, .own (by simp) ?_ λo' ae _ => ?_⟩
  · rcases q.2 with ⟨rfl, _⟩ | ⟨g, cap, aa, rfl, _⟩<;>rfl
  · simp only[vh] at ae ⊢
    cases ae
    simpa[Ab.shape] using M
end
section
variable{P:Program}{c:Bool}{o:Oper}{R:AX}{h:AO}{n:Nat}
def M2(c:Bool)(R:AX)(h:AO)(x:Operand)(sz:Nat)(j:List (List RV)):Prop:=
 (Ev c R x (.r (.sl j))∧(c=true→∀row∈j,row.length=sz))∨(∃id g e,Ev c R x (.own id g)∧hget h id=some (.arr g e sz j))∨(Ev c R x (.cst (.slice none 0 0))∧j=[])
theorem M2.src{x}{sz}{w}(B:M2 c R h x sz w)(C:0<sz)(hc:c=true){z:Cx}{a:Act}(u:z.ok)(E:z.H=hget h)(A:B6 z R a) :
  Ta z (a.eval x) sz w∧∀row∈w,row.length=sz:=by
 rcases B with ⟨q,l⟩ | ⟨id,g,e,q,l⟩ | ⟨q,rfl⟩
 ·exact⟨jf (q.rep A hc) (l hc) C,l hc⟩
 ·have j:z.H id=some (.arr g e sz w):=by rw[E];exact l
  exact⟨q9 u j (q.rep A hc),(Kt u j (q.rep A hc)).2.1⟩
 ·have l:=q.rep A hc
  generalize a.eval x=v at l ⊢
  cases l
  exact⟨.inl ⟨rfl,0,rfl⟩,by simp⟩
theorem bF{t e}{sz A}{s x}{id g}{xs J:List (List RV)}(V:o.op=.call { callee := .builtin .append, args := #[s, x], argTypes := #[t, t] })(X:Bj P t e sz A)
 (Y:Ev c R s (.own id g)) (Z:hget h id=some (.arr g e sz xs)) (hx:M2 c R h x sz J) (hm:(xs.length+J.length) * A≤140737488355328) (a0:xs.length+J.length≤9223372036854775807) :
    A7 P c o R h n (.own id n) ((id, some (.arr n e sz (xs++J)))::h) (n+1) := by
  intro T z w l M O U K Q hK
  have j:z.H id=some (.arr g e sz xs) := by rw[M];exact Z
  obtain⟨h0, B, us, hd, C, q⟩ := Kt l j (Y.rep U T)
  obtain⟨E, u⟩ := hx.src h0 T l M U
  obtain⟨v', y, F, k1, k2, k3, k4, k5⟩ := fb l X id C (λb I => by
    refine⟨_, ?_, j, ?_⟩
    · exact match z.β id with | some p => p.2 | none => 0
    · unfold Bm at hd
      split at hd
      · rw[hd.2] at I;cases I
      · rename_i heq;rw[hd] at I;simp only[Value.ownBlock, vz] at I;subst I;simp[heq]) B q E u (by unfold maxLen;omega) hm o.type
  unfold Oper.wp execOp
  simp only[V, resolve, invoke, builtin, Sem.run_bind, Sem.run_pure, Result.andThen_ok, yn, wB, xm, F]
  exact hK v' y k1 k2 (by rw[k3, M, O, D3]) (by rw[k4, O]) (by rw[← O];exact k5)
theorem cC{t e}{sz l}{s x}(id:Nat){B:List (List RV)}(U:o.op=.call { callee := .builtin .append, args := #[s, x], argTypes := #[t, t] })(I:Bj P t e sz l)
 (V:Ev c R s (.cst (.slice none 0 0))) (X:M2 c R h x sz B) (Y:B.length * l≤140737488355328) (Z:B.length≤9223372036854775807) :
    A7 P c o R h n (.own id n) ((id, some (.arr n e sz B))::h) (n+1) := by
  intro J z w q M C O K Q hK
  have E := I
  obtain⟨_, _, _, _, _, _, _, _, _, h0⟩ := E
  obtain⟨u, j⟩ := X.src h0 J q M O
  have F:w.eval s=.slice none 0 0 := by
    have T := V.rep O J
    generalize w.eval s=v at T ⊢
    cases T;rfl
  obtain⟨v', y, A, k1, k2, k3, k4, k5⟩ := fb (xs := []) q I id (World.ownsRow_nil z.w 0 e sz) (λb hb => by cases hb) (by simp) (by simp) u j (by unfold maxLen;simp;omega) (by simpa using Y) o.type
  unfold Oper.wp execOp
  simp only[U, resolve, invoke, builtin, Sem.run_bind, Sem.run_pure, Result.andThen_ok, yn, wB, xm, F, A]
  exact hK v' y k1 k2 (by rw[k3, M, C, D3, yc]) (by rw[k4, C]) (by rw[← C];exact k5)
theorem ZY off:∀(vs:List Value) (j:Nat) (cells:Array Value),off+j+vs.length≤cells.size →
  ((vs.zipIdx j).foldl (λcs p=>cs.setIfInBounds (off+p.2) p.1) cells).size=cells.size ∧
  ∀k,((vs.zipIdx j).foldl (λcs p=>cs.setIfInBounds (off+p.2) p.1) cells)[k]?=if off+j≤k∧k<off+j+vs.length then vs[k-(off+j)]? else cells[k]?
 | [],j,cells,_=>⟨rfl,λk=>by simp;omega⟩
 | v::vs,j,cells,u=>by
  simp only[v6] at u
  obtain⟨w,A⟩:=ZY off vs (j+1) (cells.setIfInBounds (off+j) v) (by simp;omega)
  simp only[List.zipIdx_cons,wT]
  refine⟨by rw[w];simp,λk=>?_⟩
  rw[A]
  by_cases q:k=off+j
  ·subst q
   rw[vg (by omega),vh (by simp)]
   simp[show off+j<cells.size by omega]
  ·by_cases l:off+j≤k∧k<off+j+(v::vs).length
   ·rw[vh l,vh (by simp only[v6] at l;omega)]
    rw[show k-(off+j)=(k-(off+(j+1)))+1 by omega,yA]
   ·rw[vg l,vg (by simp only[v6] at l;omega)]
    simp[show off+j≠k from λe=>q e.symm]
theorem gB off(v:Value)(cells:Array Value)(l:off+v.cells.size≤cells.size) :
  (v.cells.zipIdx.foldl (λcs (c,j)=>cs.setIfInBounds (off+j) c) cells).size=cells.size ∧
  ∀k,(v.cells.zipIdx.foldl (λcs (c,j)=>cs.setIfInBounds (off+j) c) cells)[k]?=if off≤k∧k<off+v.cells.size then v.cells[k-off]? else cells[k]?:=by
 have:=ZY off v.cells.toList 0 cells (by simpa using l)
 simp only[ws,wV] at this
 rw[← Array.foldl_toList,Array.toList_zipIdx]
 refine⟨this.1,λk=>?_⟩
 rw[← w0] at *
 simpa using this.2 k
theorem Vc size:∀(l:List (Nat × Value)) (start:Nat) (us:Array Value),(∀j p,l[j]?=some p→p.1=start+j∧p.2.cells.size=size)→(start+l.length) * size≤us.size →
  ∃u,Instr.fill (λi=>some (i * size,size)) us l=some u∧u.size=us.size∧(∀k,k<start * size→u[k]?=us[k]?) ∧
   ∀j p k,l[j]?=some p→k<size→u[(start+j) * size+k]?=p.2.cells[k]?
 | [],start,us,_,_=>⟨us,rfl,rfl,λ_ _=>rfl,by simp⟩
 | p::l,start,us,hp,C=>by
  obtain⟨i,v⟩:=p
  obtain⟨E,A⟩:=hp 0 (i,v) rfl
  simp only[ws] at E A
  subst E
  have B:i * size+size≤us.size:=by
   have:(i+1) * size≤(i+(l.length+1)) * size:=wR _ (by omega)
   simp only[v6] at C
   rw[wo,xc] at this
   omega
  obtain⟨F,I⟩:=gB (i * size) v us (by rw[A];exact B)
  obtain⟨u,O,f2,J,T⟩:=Vc size l (i+1) _ (λj q w=>by
   have:=hp (j+1) q (by simpa using w)
   exact⟨by omega,this.2⟩) (by rw[F];simp only[v6] at C;rwa [show i+1+l.length=i+(l.length+1) by omega])
  refine⟨u,?_,f2.trans F,λk M=>?_,λj q k w M=>?_⟩
  ·simp only[Instr.fill]
   rw[vg (by simp[A];omega)]
   exact O
  ·rw[J k (by rw[wo];omega),I,vg (by omega)]
  ·cases j with
   | zero=>
    cases w
    rw[ws,J _ (by rw[wo];omega),I,vh (by omega)]
    congr 1;omega
   | succ j=>
    have:=T j q k (by simpa using w) M
    rwa [show i+1+j=i+(j+1) by omega] at this
def Hz:AV→Option RV
 | .r d=>some d
 | .cst (.slice none 0 0)=>some (.sl [])
 | .full xs=>some (.slf xs)
 | _=>none
def Mh:List AV→Option (List RV)
 | []=>some []
 | a::l=>match Hz a,Mh l with
  | some d,some r=>some (d::r)
  | _,_=>none
def Gd(a:AV):Option (List RV):=Mh (BV a)
theorem Sz{x:Cx}{a}{d}{v}(h:Hz a=some d)(j:AP x a v):BE x.w x.S d v:=by
 unfold Hz at h
 split at h
 ·cases h;cases j with | r l=>exact l
 ·cases h;cases j;exact .snil
 ·cases h;cases j with | full q u=>exact .slf q u
 ·cases h
theorem Xa{l:List AV}{row:List RV}(h:Mh l=some row):row.length=l.length∧∀(j:Nat) (d:RV),row[j]?=some d→∃a:AV,l[j]?=some a∧Hz a=some d:=by
 induction l generalizing row with
 | nil=>simp only[Mh,vz] at h;subst h;simp
 | cons a l u=>
  simp only[Mh] at h
  split at h
  ·rename_i d r w A
   cases h
   obtain⟨B,C⟩:=u A
   refine⟨by simp[B],λj E q=>?_⟩
   cases j with
   | zero=>simp at q;subst q;exact⟨a,rfl,w⟩
   | succ j=>simpa using C j E (by simpa using q)
  ·cases h
theorem Rn{a:AV}{d}(h:Hz a=some d):a.one=true:=by
 unfold Hz at h
 split at h<;>first | rfl | cases h
theorem LT{x:Cx}{a}{row:List RV}{v:Value}(h:Gd a=some row)(F:AP x a v):v.cells.size=row.length∧∀(k:Nat) (d:RV),row[k]?=some d→∃u:Value,v.cells[k]?=some u∧BE x.w x.S d u:=by
 obtain⟨B,C⟩:=Xa h
 have l:∀b∈BV a,b.one=true:=by
  intro b I
  obtain⟨j,E⟩:=yK.1 I
  have w:j<row.length:=by rw[B];exact(vl.1 E).1
  obtain⟨U,q,A⟩:=C j _ (vo w)
  rw[E] at q;cases q
  exact Rn A
 obtain⟨q,A,_⟩:=M1 F l
 refine⟨by rw[q,B],λk d hd=>?_⟩
 obtain⟨b,J,M⟩:=C k d hd
 obtain⟨u,O,_,T⟩:=A k b J
 exact⟨u,O,Sz M T⟩
def I6(c:Bool)(R:AX):Nat→List (Nat × Operand)→List (List RV)→Prop
 | _,[],[]=>True
 | i,(j,x)::r,row::l=>j=i∧(∃a,Ev c R x a∧Gd a=some row)∧I6 c R (i+1) r l
 | _,_,_=>False
theorem I6.get{u:List (Nat × Operand)}{l:List (List RV)} : ∀ {i:Nat},I6 c R i u l→u.length=l.length∧∀(j:Nat) (p:Nat × Operand),u[j]?=some p→p.1=i+j∧∃row a,l[j]?=some row∧Ev c R p.2 a∧Gd a=some row:=by
 induction u generalizing l with
 | nil=>intro i h;cases l with | nil=>exact⟨rfl,by simp⟩ | cons _ _=>exact h.elim
 | cons p u A=>
  intro i h
  cases l with
  | nil=>exact h.elim
  | cons row l=>
   obtain⟨M,⟨a,B,C⟩,E⟩:=h
   obtain⟨F,I⟩:=A E
   refine⟨by simp[F],λj q w=>?_⟩
   cases j with
   | zero=>simp at w;subst w;exact⟨by omega,row,a,rfl,B,C⟩
   | succ j=>
    obtain⟨O,J⟩:=I j q (by simpa using w)
    exact⟨by omega,by simpa using J⟩
theorem W8{x:Cx}(A:x.ok) id e sz(xs:List (List RV))(cells:Array Value)(E:0<sz)(j:∀row ∈ xs, row.length=sz)(B:cells.size=xs.length * sz)(F:xs.length≤maxLen)
 (hc:∀i row k d, xs[i]?=some row→row[k]?=some d→∃u, cells[i * sz+k]?=some u∧BE x.w x.S d u) :
    ∃y:Cx, x.le y∧y.ok∧y.w=x.w.alloc (.cells cells e)∧y.H=(λi => if id=i then some (.arr x.n e sz xs) else x.H i)∧y.n=x.n+1 ∧
      AP y (.own id x.n) (.slice (some ⟨x.w.heap.size, 0, none⟩) xs.length xs.length) := by
  have l := EV A id (.arr x.n e sz xs) (x.w.alloc (.cells cells e)) (some (x.w.heap.size, xs.length)) (x.n+1) (by simp) rfl rfl rfl
    (λb q _ => heap_alloc_old _ _ q) (λb k q => by cases q;simp) (by omega) (by simp[Ab.gen]) (λhg => absurd hg (by simp[Ab.gen]))
    (λC => ⟨E, j, _, cells.toList, rfl, ⟨by simpa using B, .inr ⟨x.w.heap.size, xs.length, cells, rfl, xd _, heap_alloc_new _ _, vu _, F, B, by rw[← B, ← wV];exact xf⟩⟩, λi row k d I J => by
      obtain⟨u, M, O⟩ := hc i row k d I J
      exact⟨u, by simpa using M, O.mono (λb q => C.blk b (.inl q)) (λ_ h => h)⟩⟩)
  refine⟨_, l.1, l.2, rfl, rfl, rfl, .own (by simp) rfl λT w _ => ?_⟩
  simp only[vh] at w
  cases w
  show Bm (if id=id then _ else _) _ _
  rw[vh rfl]
  rfl
theorem gm{t e}{sz a0 len}{parts:Array (Nat × Operand)}(id:Nat){l:List (List RV)}(ho:o.op=.buildSlice t len parts)(ht:Bj P t e sz a0)
 (hp:I6 c R 0 parts.toList l) (B:l.length=len) (C:∀row ∈ l, row.length=sz) (E:Nat.ble (len * sz) 16777216=true) :
    A7 P c o R h n (.own id n) ((id, some (.arr n e sz l))::h) (n+1) := by
  intro hc z w a1 hH hn he K Q hK
  obtain⟨J, ii, zv, hi, F, _, hz, a7, _, h0⟩ := ht
  have a8:len * sz≤16777216 := wj E
  have aa:len≤len * sz := Nat.le_mul_of_pos_right _ h0
  obtain⟨M, O⟩ := hp.get
  have I:∃init:Array Value, init.size=len * sz∧∀W, (Instr.buildSlice t len (parts.map λ(i, x) => (i, w.eval x))).run P W =
      match Instr.fill (λi => some (i * sz, sz)) init (parts.toList.map λ(i, x) => (i, w.eval x)) with
      | some cells => .ok (.slice (some ⟨W.heap.size, 0, none⟩) len len) (W.alloc (.cells cells e))
      | none => .halt (.stuck "buildSlice: a part of the wrong size") W := by
    refine⟨(Array.range (len * sz)).map (λi => (if len * sz=0 then #[] else zv.cells)[i % (if len * sz=0 then #[] else zv.cells).size]!), by simp, λW => ?_⟩
    have T:¬ 2 ^ 24<len * sz := by omega
    by_cases U:len * sz=0
    · simp only[Instr.buildSlice, Sem.run_bind, run_underlying J, Result.andThen_ok, Dn hi, F, U]
      simp
      split<;>simp_all [newRow, Instr.fill]
    · simp only[Instr.buildSlice, Sem.run_bind, run_underlying J, Result.andThen_ok, Dn hi, F]
      simp only[T, U, zeroValue, typeInfo, yP, Sem.run_bind, run_program, Result.andThen_ok, hi, hz, Sem.run_pure, yo]
      generalize Instr.fill _ _ _=r
      cases r<;>simp[newRow]
  obtain⟨init, A, V⟩ := I
  obtain⟨a2, f1, f2, _, f4⟩ := Vc sz (parts.toList.map λ(i, x) => (i, w.eval x)) 0 init (λj p hj => by
    simp only[wD, v8] at hj
    obtain⟨q, hq, rfl⟩ := hj
    obtain⟨X, row, a, Z, h3, h4⟩ := O j q hq
    refine⟨by simpa using X, ?_⟩
    rw[(LT h4 (h3.rep he hc)).1]
    exact C row (wJ Z)) (by rw[A];simp only[v7, M, B, wK];exact vu _)
  obtain⟨y, k1, k2, k3, k4, k5, k6⟩ := W8 a1 id e sz l a2 h0 C (by rw[f2, A, B]) (by unfold maxLen;omega) (λi row k d X Z => by
    have Y:i<parts.toList.length := by rw[M];exact(vl.1 X).1
    obtain⟨_, a6, a, h3, h4, h5⟩ := O i _ (vo Y)
    rw[X] at h3;cases h3
    obtain⟨u, h6, h7⟩ := (LT h5 (h4.rep he hc)).2 k d Z
    refine⟨u, ?_, h7⟩
    have hk:k<sz := by rw[← C row (wJ X)];exact(vl.1 Z).1
    have := f4 i (parts.toList[i].1, w.eval parts.toList[i].2) k (by simp[wD, vo Y]) hk
    rw[wK] at this
    rw[this];exact h6)
  unfold Oper.wp execOp
  simp only[ho, Sem.run_bind, V, f1, Result.andThen_ok, Sem.run_pure]
  have := hK _ y k1 k2 (by rw[k4, hH, hn, D3]) (by rw[k5, hn]) (by rw[← hn];exact k6)
  rw[k3, B] at this
  exact this
end
section
variable{P:Program}{c:Bool}{o:Oper}{R:AX}{h:AO}{n:Nat}
def GX(P:Program)(e:TypeId)(j:List RV):Prop:=∃i l,P.info? e=some i∧i.zero=some l∧Gd (F1 l)=some j
theorem bP{t e}{sz C}{l k}(id:Nat){m:Int}{j:List RV}(ho:o.op=.makeSlice t l k)(ht:Bj P t e sz C)(hz:GX P e j)
 (hl:Ev c R l (.r (.int .i64 m))) (hk:Ev c R k (.r (.int .i64 m))) (h0:0≤m) (hb:m * C≤281474976710656) (hm:m≤9223372036854775807) :
    A7 P c o R h n (.own id n) ((id, some (.arr n e sz (List.replicate m.toNat j)))::h) (n+1) := by
  intro hc z w Z hH hn he K Q hK
  obtain⟨a0, ii, B, hi, q, E, F, I, _, J⟩ := ht
  obtain⟨i2, a7, M, O, a1⟩ := hz
  rw[hi] at M;cases M
  rw[F] at O;cases O
  have T := run_make (P := P) z.w t e ii B a0 hi F .i64 .i64 m m h0 (y9 _) (by rw[E, Int.mul_comm];exact hb) hm
  obtain⟨k1, k2⟩ := LT a1 (RT z B)
  have U:j.length=sz := by rw[← k1, I]
  obtain⟨y, e1, e2, e3, e4, e5, e6⟩ := W8 Z id e sz (List.replicate m.toNat j) (madeCells B.cells (m.toNat * ii.size)) J (λrow hr => by rw[(List.mem_replicate.1 hr).2];exact U)
    (by rw[size_madeCells, q];simp) (by unfold maxLen;simp;omega) (λi row k d h1 h2 => by
      obtain⟨V, A⟩ := vl.1 h1
      simp only[wZ] at V
      rw[List.getElem_replicate] at A
      subst A
      have a2:k<sz := by rw[← U];exact(vl.1 h2).1
      obtain⟨u, h3, h4⟩ := k2 k d h2
      refine⟨u, ?_, h4⟩
      have a6:i * sz+k<m.toNat * sz := by
        calc i * sz+k<i * sz+sz := by omega
          _=(i+1) * sz := by rw[wo, xc]
          _≤m.toNat * sz := wR _ V
      have X:(i * sz+k) % B.cells.size=k := by rw[I, yH, zS, yY a2]
      simp only[madeCells, q]
      rw[zY, zT, vh a6]
      simp only[xD, X]
      rw[← h3]
      have Y:k<B.cells.size := by omega
      rw[vr B.cells k Y, wS Y])
  unfold Oper.wp execOp
  simp only[ho, CZ (hl.rep he hc), CZ (hk.rep he hc), Sem.run_bind, T, Result.andThen_ok, Sem.run_pure]
  have := hK _ y e1 e2 (by rw[e4, hH, hn, D3]) (by rw[e5, hn]) (by rw[← hn];exact e6)
  rw[e3, wZ] at this
  exact this
theorem oJ{t}{x y}{id g i k:Nat}{e}{sz}{xs:List (List RV)}{row:List RV}{a:AV}{d}(ho:o.op=.store t x y)(ht:∃i, P.info? t=some i∧i.size=1)
 (hx:Ev c R x (.ptr id g i k)) (hh:hget h id=some (.arr g e sz xs)) (I:xs[i]?=some row) (hk:k<row.length) (hy:Ev c R y a) (hd:Hz a=some d) (h1:(BV a).length=1) :
    A7 P c o R h n .any ((id, some (.arr g e sz (xs.set i (row.set k d))))::h) n := by
  intro hc z w J hH hn he K Q hK
  obtain⟨ii, hi, ab⟩ := ht
  have q:z.H id=some (.arr g e sz xs) := by rw[hH];exact hh
  have a2:i<xs.length := (vl.1 I).1
  obtain⟨b, cap, us, hβ, al, ac, B, V⟩ := SQ J q a2 (hx.rep he hc)
  have an := (J.obj _ _ q).1
  obtain⟨b1, a6⟩ := ac
  rcases a6 with ⟨hv, _⟩ | ⟨Y, ay, E, hv, _, Z, ad, ao, ae, a7⟩
  · cases hv
  simp only[Value.slice.injEq, vz, Addr.mk.injEq, zH, and_true] at hv
  obtain⟨rfl, rfl⟩ := hv
  have hsz:0<sz := (J.obj _ _ q).2.1
  have af := B row (wJ I)
  have M:a.one=true := Rn hd
  have b2:BV a=[a] := by cases a<;>first | rfl | (simp[AV.one] at M)
  have a8 := hy.rep he hc
  have X:(w.eval y).cells = #[w.eval y] := by
    have h2 := a8.one M
    generalize w.eval y=v at h2 ⊢
    cases v<;>first | rfl | (simp[Value.oneCell'] at h2)
  have aq:i * sz+sz≤xs.length * sz := by
    have:(i+1) * sz≤xs.length * sz := wR _ a2
    rwa [wo, xc] at this
  have az:xs.length * sz≤E.size := by rw[ae];exact wR _ ad
  have O := R2 (P := P) (k := i * sz+k) hi Z (v := w.eval y) (by rw[X, ab];rfl) (by rw[X];simpa using a8.one M) (by rw[X];simp;omega)
  rw[X] at O
  simp only[yS, wg] at O
  have a0 := λj => Jt E.toList [w.eval y] (i * sz+k) j (by simp;omega)
  simp only[wg] at a0
  let l:Array Value := (E.toList.take (i * sz+k)++[w.eval y]++E.toList.drop (i * sz+k+1)).toArray
  have C:l.size=E.size := by simp[l];omega
  have ag := EV J id (.arr g e sz (xs.set i (row.set k d))) (z.w.setRow b l) (some (b, cap)) z.n (by simp[World.setRow]) rfl rfl rfl
    (λY _ ar => setRow_other _ _ _ _ (λe => ar _ cap q (by rw[e];exact hβ))) (λY k' hb => by
      cases hb
      exact⟨by simpa[World.setRow] using(J.own id _ b cap q hβ).1, .inr ⟨_, _, q, hβ⟩⟩) (vu _) an
    (λ_ => ⟨_, q, rfl, by simp[Ab.shape], hβ.symm⟩)
    (λav => by
      have ah:∀Y, z.S Y→(z.w.setRow b l).heap[Y]?=z.w.heap[Y]? := λY hb => av.blk Y (.inl hb)
      refine⟨hsz, λr hr => ?_, .slice (some ⟨b, 0, none⟩) xs.length cap, l.toList.take (xs.length * sz), by simp[Bm], ⟨by simp[C];omega, .inr ⟨b, cap, l, by simp, xd _, setRow_heap _ _ _ _ _ _ Z, by simpa using ad, ao, by rw[C, ae], by simp⟩⟩, λA a1 F d' T k2 => ?_⟩
      · rcases xi hr with hr | rfl
        · exact B r hr
        · simpa using af
      · have ai:A<xs.length := by simpa using(vl.1 T).1
        have b0:F<sz := by
          have := (vl.1 k2).1
          rw[wh] at T
          split at T
          · cases T;simpa[af] using this
          · rw[← B a1 (wJ T)];exact this
        have aj:A * sz+F<xs.length * sz := by
          calc A * sz+F<A * sz+sz := by omega
            _=(A+1) * sz := by rw[wo, xc]
            _≤xs.length * sz := wR _ ai
        have hget:(l.toList.take (xs.length * sz))[A * sz+F]?=if i * sz+k≤A * sz+F∧A * sz+F<i * sz+k+1 then [w.eval y][A * sz+F - (i * sz+k)]? else E.toList[A * sz+F]? := by
          rw[wW, vh aj]
          simp only[l]
          exact a0 _
        have aa:i * sz+k=A * sz+F→i=A∧k=F := by
          intro heq
          have e1:(i * sz+k) / sz=i := by rw[yH, yu hsz, ym (by omega), ws]
          have e2:(A * sz+F) / sz=A := by rw[yH, yu hsz, ym (by omega), ws]
          have:i=A := by rw[← e1, ← e2, heq]
          subst this
          exact⟨rfl, by omega⟩
        by_cases heq:i * sz+k=A * sz+F
        · obtain⟨rfl, rfl⟩ := aa heq
          rw[wh, vh rfl, vh a2] at T
          cases T
          rw[wh, vh rfl, vh hk] at k2
          cases k2
          refine⟨w.eval y, by rw[hget, vh (by omega)];simp, (Sz hd a8).mono ah (λ_ h => h)⟩
        · have ak:∃U, xs[A]?=some U∧U[F]?=some d' := by
            rw[wh] at T
            split at T
            · rename_i aw;subst aw
              cases T
              rw[wh] at k2
              split at k2
              · rename_i ax;subst ax;exact absurd rfl heq
              · exact⟨row, I, k2⟩
            · exact⟨a1, T, k2⟩
          obtain⟨U, k3, k4⟩ := ak
          obtain⟨u, k5, k6⟩ := V _ _ _ _ k3 k4
          refine⟨u, ?_, k6.mono ah (λ_ h => h)⟩
          rw[hget, vg (by omega), ← k5, ← a7, wW, vh aj])
  unfold Oper.wp execOp
  rw[ho]
  simp only[al, Sem.run_bind, O, Result.andThen_ok, Sem.run_pure]
  exact hK undef _ ag.1 ag.2 (by simp only[hH];exact D3 _ _ _) hn (.any _)
end
section
variable{P:Program}{c:Bool}{o:Oper}{R:AX}{h:AO}{n:Nat}
def OO(c:Bool)(R:AX)(j:Nat):Option Operand→Nat→Prop
 | none,m=>m=j
 | some x,m=>∃k z,Ev c R x (.r (.int k z))∧(c=true→0≤z)∧z.toNat=m
theorem LW{k:IntKind}{z:Int}{y:Nat}(j:0≤z)(l:z≤y)(code:BoundsCode)(w:World):(Instr.sliceBound (.int k z) y code).run P w=.ok z.toNat w:=by
 simp[Instr.sliceBound,asIntOf,j,l]
theorem eM{t e:TypeId}{sz:Nat}{x:Operand}{U hi:Option Operand}{xs:List (List RV)}{l m:Nat}(ho:o.op=.slice t x U hi none)(ht:EO P t e sz)(hx:Ev c R x (.r (.sl xs)))
  (X:OO c R 0 U l) (B:OO c R xs.length hi m) (h1:c=true→l≤m) (h2:c=true→m≤xs.length) (Y:∀row∈xs,row.length=sz):AR P c o R h (.r (.sl ((xs.drop l).take (m-l)))):=by
 intro F z w _ _ he
 obtain⟨I,ii,J,a6⟩:=ht
 have ad:=h1 F
 have Z:=h2 F
 have j:∀(len cap:Nat),len=xs.length→xs.length≤cap→∀W,(Instr.sliceBounds true len cap (U.map w.eval) (hi.map w.eval) none).run P W=.ok (l,m,cap) W:=by
  intro len cap q C W
  have hL:∀W,(∃y,U=some y∧(Instr.sliceBound (w.eval y) m .sliceB).run P W=.ok l W)∨U=none∧l=0:=by
   intro W
   cases U with
   | none=>exact .inr ⟨rfl,X⟩
   | some v=>
    obtain⟨k,zz,e1,e2,e3⟩:=X
    refine .inl ⟨v,rfl,?_⟩
    rw[CZ (e1.rep he F),LW (e2 F) (by have:=e2 F;omega),e3]
  cases hi with
  | none=>
   simp only[OO] at B
   rcases hL W with ⟨y,rfl,V⟩ | ⟨rfl,rfl⟩
   ·rw[B] at V;simp[Instr.sliceBounds,q,V,B]
   ·simp[Instr.sliceBounds,q,B]
  | some v=>
   obtain⟨k,zz,e1,e2,e3⟩:=B
   have hH:(Instr.sliceBound (w.eval v) cap .sliceAcap).run P W=.ok m W:=by
    rw[CZ (e1.rep he F),LW (e2 F) (by have:=e2 F;omega),e3]
   rcases hL W with ⟨y,rfl,V⟩ | ⟨rfl,rfl⟩
   ·simp[Instr.sliceBounds,hH,V]
   ·simp[Instr.sliceBounds,hH]
 rcases SE (hx.rep he F) with ⟨rfl,O⟩ | ⟨b,off,cap,size,u,O,hS,C,hm,hsz,T,a1⟩
 ·simp only[yO,Nat.le_zero] at Z
  subst Z
  have a7:l=0:=by omega
  subst a7
  rcases O with O | ⟨a0,O⟩
  ·refine⟨.slice none 0 0,λw2 a2=>?_,by simpa using AP.r .snil⟩
   unfold execOp
   rw[ho]
   simp[O,Instr.sliceAt,Instr.slice,run_underlying I,Dn J,j 0 0 rfl (vu _)]
  ·refine⟨.slice (some a0) 0 0,λw2 a2=>?_,by simpa using AP.r (.sl0 a0)⟩
   unfold execOp
   rw[ho]
   simp[O,Instr.sliceAt,Instr.slice,run_underlying I,Dn J,j 0 0 rfl (vu _)]
 ·let k0:=if cap=l then 0 else l * sz
  refine⟨.slice (some ⟨b,off+k0,none⟩) ((xs.drop l).take (m-l)).length (cap-l),λw2 a2=>?_,.r (.sl b (off+k0) _ (cap-l) size (λi k=>u (l+i) k) (λa8=>hS (by rintro rfl;simp at a8)) ?_ (by omega) ?_ (λi row k d M k2=>?_) (λi row k d M k2=>?_))⟩
  ·unfold execOp
   rw[ho]
   have q:((xs.drop l).take (m-l)).length=m-l:=by simp;omega
   by_cases E:cap=l
   ·have aa:k0=0:=vh E
    have ab:=j _ cap rfl C w2
    rw[aa,q]
    simp only[O,Instr.sliceAt,Instr.slice,Sem.run_bind,run_underlying I,Result.andThen_ok,Option.map_none,ab,Dn J,Sem.run_pure,vh E,ws]
   ·simp[O,Instr.sliceAt,Instr.slice,run_underlying I,Dn J,a6,j _ cap rfl C,E,k0,Addr.add_lit]
    omega
  ·simp;omega
  ·exact λrow V=>hsz row (xt (xG V))
  ·have A:xs[l+i]?=some row:=by
    rw[wW] at M
    split at M
    ·rwa [xJ] at M
    ·cases M
   have E:cap≠l:=by have:=(vl.1 A).1;omega
   have ac:size=sz:=by rw[← hsz row (wJ A),Y row (wJ A)]
   rw[← T _ _ _ _ A k2]
   simp only[k0,vg E,ac,wo,xl]
  ·have A:xs[l+i]?=some row:=by
    rw[wW] at M
    split at M
    ·rwa [xJ] at M
    ·cases M
   exact a1 _ _ _ _ A k2
theorem IE{s:St} t id e sz(M:0<sz)(O:get s.e t=.cst (.slice none 0 0)):Ae s ⟨(t,.own id s.n)::s.e,(id,some (.arr s.n e sz []))::s.h,s.n+1,s.N⟩:=by
 intro X a w ⟨_,A,hsz,y,C,B,E,T,j,l⟩
 have q:=EV E id (.arr s.n e sz []) y.w none (y.n+1) (vu _) rfl rfl rfl (λ_ _ _=>rfl) (λb k U=>by cases U) (by omega) (by simp[Ab.gen,j]) (λhg=>absurd hg (by simp[Ab.gen,j]))
  (λB=>⟨M,by simp,.slice none 0 0,[],⟨rfl,rfl⟩,World.ownsRow_nil _ _ _ _,by simp⟩)
 refine⟨_,A,hsz,{ y with H:=λi=>if id=i then some (.arr s.n e sz []) else y.H i,β:=λi=>if id=i then none else y.β i,K:=λi=>if id=i then λ_=>none else y.K i,n:=y.n+1 },C,B.trans q.1,q.2,by simp only[T];exact D3 _ _ _,by simp[j],λV=>?_⟩
 rw[DQ]
 split
 ·rename_i F;subst F
  have I:=l t
  rw[O] at I
  generalize a.tmps.getD t undef=u at I ⊢
  cases I
  refine .own (by simp[j]) rfl λo J _=>?_
  simp only[vh] at J ⊢
  cases J
  exact⟨rfl,rfl⟩
 ·exact(l V).mono q.1
theorem N8{y:Cx}(E:y.ok){id g}{e}{sz}{xs:List (List RV)}{v}(M:y.H id=some (.arr g e sz xs))(O:AP y (.own id g) v){S'}
 (T:∀b, y.S b→S' b) (F:∀b k, y.β id=some (b, k)→S' b):BE y.w S' (.sl xs) v := by
  obtain⟨Y, w, C, hd, l, U⟩ := Kt E M O
  unfold Bm at hd
  split at hd
  · have:xs=[] := wn hd.1
    subst this
    rw[hd.2];exact .snil
  · rename_i b cap heq
    subst hd
    have A:xs.length≤cap∧cap≤maxLen := by
      rcases l.2 with ⟨j, _⟩ | ⟨Z, J, V, j, _, _, q, I, _⟩
      · cases j
      · simp only[Value.slice.injEq] at j;rw[j.2.2];exact⟨q, I⟩
    have B:∀i row k d, xs[i]?=some row→row[k]?=some d→C[i * sz+k]?=some (C.getD (i * sz+k) undef)∧BE y.w y.S d (C.getD (i * sz+k) undef) := by
      intro i row k d j q
      obtain⟨u, I, X⟩ := U i row k d j q
      simp only[List.getD, I, xg]
      exact⟨trivial, X⟩
    refine .sl b 0 xs cap sz (λi k => C.getD (i * sz+k) undef) (λ_ => F b cap heq) A.1 A.2 w (λi row k d j q => ?_) (λi row k d j q => (B i row k d j q).2.mono (λ_ _ => rfl) T)
    rw[wK]
    exact Iw l (B i row k d j q).1
theorem lv{y:Cx}(F:y.ok){id g m}{e}{sz}{xs:List (List RV)}{v}(O:y.H id=some (.arr g e sz xs))(U:AP y (.pre id g m) v){S'}
 (V:∀b, y.S b→S' b) (I:∀b k, y.β id=some (b, k)→S' b):BE y.w S' (.sl (xs.take m)) v := by
  obtain⟨_, h0, w, X, E, hd, l, Y⟩ := F.obj _ _ O
  have hp:m≤xs.length∧Bm (y.β id) m v := by
    cases U with
    | pre _ _ h => exact h _ O rfl
  obtain⟨hm, hp⟩ := hp
  unfold Bm at hd hp
  split at hd
  · rename_i heq
    rw[heq] at hp
    obtain⟨rfl, rfl⟩ := hp
    rw[List.take_zero];exact .snil
  · rename_i b cap heq
    rw[heq] at hp
    subst hd;subst hp
    have J:xs.length≤cap∧cap≤maxLen := by
      rcases l.2 with ⟨j, _⟩ | ⟨g', T, Z, j, _, _, q, M, _⟩
      · cases j
      · simp only[Value.slice.injEq] at j;rw[j.2.2];exact⟨q, M⟩
    have A:∀i row k d, xs[i]?=some row→row[k]?=some d→E[i * sz+k]?=some (E.getD (i * sz+k) undef)∧BE y.w y.S d (E.getD (i * sz+k) undef) := by
      intro i row k d j q
      obtain⟨u, M, h4⟩ := Y i row k d j q
      simp only[List.getD, M, xg]
      exact⟨trivial, h4⟩
    have B:∀i row, (xs.take m)[i]?=some row→xs[i]?=some row := λi row h => by
      rw[wW] at h
      split at h
      · exact h
      · cases h
    have C:(xs.take m).length=m := by rw[wi];omega
    have := BE.sl (w := y.w) (S := S') b 0 (xs.take m) cap sz (λi k => E.getD (i * sz+k) undef) (λ_ => I b cap heq) (by omega) J.2 (λrow hr => w row (xG hr))
      (λi row k d j q => by rw[wK];exact Iw l (A i row k d (B i row j) q).1) (λi row k d j q => (A i row k d (B i row j) q).2.mono (λ_ _ => rfl) V)
    rwa [C] at this
theorem AL.weak{ops}{rest}{s s'}{K}(j:Ae s s')(h:AL P ops rest s' K):AL P ops rest s K:=λl a w q=>h l a w (j _ _ _ q)
def QF (P : Program) (f : FuncId) : Prop := ∃ fn, P.funcs[f]? = some fn ∧ fn.body.isNone = false ∧ (fn.name == "runtime.NumGoroutine") = false
mutual
def AV.closed:AV→Bool
 | .r _=>true
 | .cst _=>true
 | .any=>true
 | .rop _ _=>true
 | .agg cs=>Dr cs
 | .tup cs=>Dr cs
 | .fn _ cs=>Dr cs
 | .ifc _=>true
 | .own _ _=>false
 | .pre _ _ _=>false
 | .ptr _ _ _ _=>false
 | .mref _ _=>false
 | .pk _ _ _ _ _=>false
 | .fo _ _ _ _=>false
 | .yld _ _=>false
 | .full _=>false
 | .whn _ _=>false
def Dr:List AV→Bool
 | []=>true
 | a::l=>a.closed&&Dr l
end
theorem Km{cs:List AV}(h:Dr cs=true){i:Nat}{a:AV}(j:cs[i]?=some a):a.closed=true:=by
 induction cs generalizing i with
 | nil=>simp at j
 | cons b l q=>
  simp only[Dr,vm] at h
  cases i with
  | zero=>simp at j;subst j;exact h.1
  | succ i=>exact q h.2 (by simpa using j)
theorem i0(row:List RV):Dr (row.map AV.r)=true:=by
 induction row with
 | nil=>rfl
 | cons d l j=>simp[Dr,AV.closed,j]
theorem sa(row:List RV):(AV.agg (row.map AV.r)).closed=true:=by simp[AV.closed,i0]
theorem JR{x y:Cx}(F:y.w=x.w)(C:∀b,x.S b→y.S b){a:AV}{v}(J:AP x a v)(w:a.closed=true):AP y a v:=by
 have I:∀b,x.S b→y.w.heap[b]?=x.w.heap[b]?:=λ_ _=>by rw[F]
 induction J with
 | r h=>exact .r (h.mono I C)
 | cst v=>exact .cst v
 | any v=>exact .any v
 | ifc l h q=>exact .ifc l h q
 | rop u l q M=>exact .rop u (λh=>C _ (l h)) (λj d E=>by rw[F];exact q j d E) (λj d E=>(M j d E).mono I C)
 | agg A _ B=>simp only[AV.closed] at w;exact .agg A λi c u l q=>B i c u l q (Km w l)
 | tup A _ B=>simp only[AV.closed] at w;exact .tup A λi c u l q=>B i c u l q (Km w l)
 | fn A _ B=>simp only[AV.closed] at w;exact .fn A λi c u l q=>B i c u l q (Km w l)
 | _=>simp[AV.closed] at w
def H9(x:Cx)(j:List AV)(vs:List Value):Prop:=vs.length=j.length∧∀(i:Nat) (a:AV) (u:Value),j[i]?=some a→vs[i]?=some u→AP x a u
def AS(P:Program)(f:FuncId)(args:List AV)(r:AV):Prop:=
 QF P f∧r.closed=true∧∀(x:Cx) (j:Array Value),x.ok→(x.H=λ_=>none)→H9 x args j.toList →
  Calls P f j x.w λe w'=>∃u y,e=.returned u∧y.w=w'∧x.le y∧y.ok∧AP y r u
inductive HX(h:AO):AV→AV→Prop
 | closed (a:AV) (ha:a.closed=true):HX h a a
 | own {id g:Nat} {e:TypeId} {sz:Nat} {xs:List (List RV)} (hh:hget h id=some (.arr g e sz xs)):HX h (.own id g) (.r (.sl xs))
 | nil:HX h (.cst (.slice none 0 0)) (.r (.sl []))
 | pre {α:Type} {f:α→List RV} {id g k:Nat} {e:TypeId} {sz:Nat} {l l':List α} (hh:hget h id=some (.arr g e sz (l.map f))) (hl:l'=l.take k):HX h (.pre id g k) (.r (.sl (l'.map f)))
 | full {xs:List (List RV)} : HX h (.full xs) (.r (.sl xs))
def O6(h:AO):List AV→List AV→Prop
 | [],[]=>True
 | a::l,b::m=>HX h a b∧O6 h l m
 | _,_=>False
inductive Fz(h:AO):AV→AV→Prop
 | one {a b:AV} (h1:HX h a b):Fz h a b
 | agg {cs ds:List AV} (h1:O6 h cs ds):Fz h (.agg cs) (.agg ds)
def Cx.frozen(y:Cx):Cx:={ w:=y.w,S:=λb=>y.S b∨∃id o k,y.H id=some o∧y.atk id b k,F:=y.F,H:=λ_=>none,β:=λ_=>none,K:=λ_ _=>none,n:=y.n }
theorem Xq{y:Cx} : y.le y.frozen:=⟨vu _,rfl,rfl,rfl,λ_ _=>rfl,λ_ h=>.inl h,rfl,vu _,(λ_ _ h=>by cases h),λ_ _ h=>by cases h⟩
theorem T7{y:Cx}(j:y.ok):y.frozen.ok:=by
 refine⟨λb l=>?_,j.F_lt,λb l=>?_,(λ_ _ h=>by cases h),(λ_ _ _ _ h=>by cases h),(λ_ _ _ _ _ _ _ h=>by cases h),(λ_ _ _ _ _ h=>by cases h),j.tabs.le Xq⟩
 ·rcases l with l | ⟨id,o,k,q,u⟩
  ·exact j.S_lt b l
  ·exact(j.own' id o b k q u).1
 ·rcases l with l | ⟨id,o,k,q,u⟩
  ·exact j.SF b l
  ·exact(j.own' id o b k q u).2.2
theorem HX.rep{y:Cx}(q:y.ok){h:AO}(B:y.H=hget h){a b:AV}(C:HX h a b){v:Value}(u:AP y a v):AP y.frozen b v:=by
 cases C with
 | closed _ E=>exact JR (x:=y) (y:=y.frozen) rfl (λb h=>Or.inl h) u E
 | @own id g e sz xs w=>
  have j:y.H id=some (.arr g e sz xs):=by rw[B];exact w
  exact .r (N8 q j u (λ_ h=>.inl h) λb k A=>.inr ⟨_,_,k,j,.inl A⟩)
 | nil=>cases u;exact .r .snil
 | full=>cases u with | full h _=>exact(AP.r h).mono Xq
 | @pre α f id g k e sz l I w F=>
  subst F
  have j:y.H id=some (.arr g e sz (l.map f)):=by rw[B];exact w
  rw[ya]
  exact .r (lv q j u (λ_ h=>.inl h) λb k A=>.inr ⟨_,_,k,j,.inl A⟩)
theorem O6.get{h}{cs ds:List AV}(j:O6 h cs ds):cs.length=ds.length∧∀(i:Nat) (b:AV),ds[i]?=some b→∃a,cs[i]?=some a∧HX h a b:=by
 induction cs generalizing ds with
 | nil=>cases ds with | nil=>exact⟨rfl,by simp⟩ | cons _ _=>exact j.elim
 | cons a l u=>
  cases ds with
  | nil=>exact j.elim
  | cons b m=>
   obtain⟨w,A⟩:=u j.2
   refine⟨by simp[w],λi c q=>?_⟩
   cases i with
   | zero=>simp at q;subst q;exact⟨a,rfl,j.1⟩
   | succ i=>simpa using A i c (by simpa using q)
theorem Fz.rep{y:Cx}(j:y.ok){h}(w:y.H=hget h){a b}(B:Fz h a b){v}(A:AP y a v):AP y.frozen b v:=by
 cases B with
 | one q=>exact q.rep j w A
 | agg q=>
  obtain⟨O,C⟩:=q.get
  cases A with
  | agg T l=>
   refine .agg (by omega) λi c u E F=>?_
   obtain⟨I,J,M⟩:=C i c E
   exact M.rep j w (l i I u J F)
end
section
variable{P:Program}{c:Bool}{o:Oper}{R:AX}{h:AO}{n:Nat}
theorem Nq{f}(q:QF P f){fo}{xs:Array Operand}{j}(u:o.op=.call { callee := .value fo, args := xs, argTypes := j }){ρ}{us}
 (l:ρ fo=.func (.func f) #[] us) (w:World):(execOp ρ o).run P w=.ok (.enter f (xs.map ρ++us)) w := by
  obtain⟨fn, A, B, C⟩ := q
  unfold execOp
  rw[u]
  simp only[resolve, l, Deferred.ofValue, Sem.run_bind, Sem.run_pure, Result.andThen_ok, invoke, callFunc, run_program, A, C, B]
  simp
def Hw(c:Bool)(R:AX)(h:AO):List Operand→List AV→Prop
 | [],[]=>True
 | x::xs,b::j=>(∃a,Ev c R x a∧Fz h a b)∧Hw c R h xs j
 | _,_=>False
theorem Hw.get{xs:List Operand}{bs:List AV}(j:Hw c R h xs bs):xs.length=bs.length∧∀(i:Nat) (b:AV),bs[i]?=some b→∃x a,xs[i]?=some x∧Ev c R x a∧Fz h a b:=by
 induction xs generalizing bs with
 | nil=>cases bs with | nil=>exact⟨rfl,by simp⟩ | cons _ _=>exact j.elim
 | cons x l u=>
  cases bs with
  | nil=>exact j.elim
  | cons b m=>
   obtain⟨w,A⟩:=u j.2
   obtain⟨a,B,C⟩:=j.1
   refine⟨by simp[w],λi c q=>?_⟩
   cases i with
   | zero=>simp at q;subst q;exact⟨x,a,rfl,B,C⟩
   | succ i=>simpa using A i c (by simpa using q)
def AV.flat:AV→Bool
 | .r (.int _ _) | .r (.bool _) | .r (.str _)=>true
 | .tup j=>j.all fun | .r (.int _ _) | .r (.bool _) | .r (.str _) | .ifc _=>true | _=>false
 | _=>false
theorem e9{x y}{d}(hd:(AV.r d).flat=true){v}(j:AP x (.r d) v):AP y (.r d) v:=by
 cases j with
 | r h=>cases h<;>first | exact .r (.int _ _) | exact .r (.bool _) | exact .r (.str _) | (simp[AV.flat] at hd)
theorem lz{x y}{a:AV}(l:a.flat=true){v}(w:AP x a v):AP y a v:=by
 cases a with
 | r d=>exact e9 l w
 | tup I=>
  cases w with
  | tup B j=>
   refine .tup B λi c u q A=>?_
   have C:=wI.1 l c (wJ q)
   cases c with
   | r d=>exact e9 (by cases d<;>simp_all [AV.flat]) (j i _ u q A)
   | ifc b=>
    cases j i _ u q A with
    | ifc E F a3=>exact .ifc E F a3
   | _=>simp at C
 | _=>simp[AV.flat] at l
theorem Dy{f}{fo}{xs:Array Operand}{a1}{caps bs:List AV}{r:AV}(ho:o.op=.call { callee := .value fo, args := xs, argTypes := a1 })(a2:Ev c R fo (.fn f caps))(I:Dr caps=true)
 (hx:Hw c R h xs.toList bs) (hr:c=true→AS P f (bs++caps) r) (a6:r.flat=true):A7 P c o R h n r h n := by
  intro hc z w q hH hn he K Q hK
  obtain⟨J, _, U⟩ := hr hc
  obtain⟨A, hget⟩ := hx.get
  have hv := a2.rep he hc
  generalize a7:w.eval fo=v at hv
  cases hv with
  | @fn _ _ us hl V =>
    have X := Nq J ho a7 z.w
    have M:H9 z.frozen (bs++caps) (xs.map w.eval++us).toList := by
      refine⟨by simp[hl];simpa using A, λi a u O h2 => ?_⟩
      have B:((xs.toList.map w.eval)++us.toList)[i]?=some u := by simpa using h2
      by_cases hi:i<bs.length
      · rw[wO hi] at O
        obtain⟨x, b, Y, Z, k3⟩ := hget i a O
        rw[wO (by simp at A ⊢;omega), wD, Y] at B
        simp only[xD, vz] at B
        subst B
        exact k3.rep q hH (Z.rep he hc)
      · rw[wN (by omega)] at O
        rw[wN (by simp at A ⊢;omega)] at B
        have a8:(xs.toList.map w.eval).length=bs.length := by simpa using A
        rw[a8] at B
        exact JR (x := z) (y := z.frozen) rfl (λb h => Or.inl h) (V _ a u O (by simpa using B)) (Km I O)
    unfold Oper.wp
    rw[X]
    refine(U z.frozen _ (T7 q) rfl M).mono λe w' ⟨u, y, he', aa, l, a0, ab⟩ => ?_
    subst he'
    subst aa
    have F:z.le { y with S := z.S, H := z.H, β := z.β, K := z.K, n := z.n } ∧ ({ y with S := z.S, H := z.H, β := z.β, K := z.K, n := z.n } : Cx).ok := by
      have C:z.le { y with S := z.S, H := z.H, β := z.β, K := z.K, n := z.n } :=
        ⟨l.size, l.os, l.tape, l.output, λb E => l.blk b (E.imp (λh => Or.inl h) id), λ_ h => h, l.F, vu _, λid o h _ => ⟨o, h, rfl, rfl, rfl⟩, λid o h hf _ _ => ⟨o, h, hf, rfl, rfl, rfl, rfl⟩⟩
      refine⟨C, λb E => vq (q.S_lt b E) l.size, a0.F_lt, λb E => ?_, λid ob T => ?_, λid ob b k O h2 => ?_, q.inj, q.extOf (λid o h => ⟨o, h⟩) rfl rfl l.size (λid o b k h ha => (q.own' id o b k h ha).2.1) (λid o b k h ha hF => (q.own' id o b k h ha).2.2 (by rw[← show y.F=z.F from l.F];exact hF)), q.tabs.le C⟩
      · rw[show({ y with S := z.S, H := z.H, β := z.β, K := z.K, n := z.n } : Cx).F=z.F from l.F];exact q.SF b E
      · obtain⟨Y, Z⟩ := q.obj id ob T
        exact⟨Y, Z.mono C (λb k E => l.blk b (.inl (.inr ⟨id, ob, k, T, .inl E⟩))) λj b k E => l.blk b (.inl (.inr ⟨id, ob, k, T, .inr ⟨j, E⟩⟩))⟩
      · obtain⟨Y, Z, k3⟩ := q.own id ob b k O h2
        exact⟨vq Y l.size, Z, by rw[show({ y with S := z.S, H := z.H, β := z.β, K := z.K, n := z.n } : Cx).F=z.F from l.F];exact k3⟩
    exact hK u { y with S := z.S, H := z.H, β := z.β, K := z.K, n := z.n } F.1 F.2 hH hn (lz a6 ab)
def PX(c:Bool)(R:AX):List Operand→List AV→Prop
 | [],[]=>True
 | x::xs,b::j=>((Ev c R x b∧b.closed=true)∨(Ev c R x (.cst (.slice none 0 0))∧b=.r (.sl [])))∧PX c R xs j
 | _,_=>False
theorem PX.get{xs:List Operand}{bs:List AV}(j:PX c R xs bs):xs.length=bs.length∧∀(i:Nat) (b:AV),bs[i]?=some b→∃x,xs[i]?=some x∧((Ev c R x b∧b.closed=true)∨(Ev c R x (.cst (.slice none 0 0))∧b=.r (.sl []))):=by
 induction xs generalizing bs with
 | nil=>cases bs with | nil=>exact⟨rfl,by simp⟩ | cons _ _=>exact j.elim
 | cons x l u=>
  cases bs with
  | nil=>exact j.elim
  | cons b m=>
   obtain⟨w,A⟩:=u j.2
   refine⟨by simp[w],λi c q=>?_⟩
   cases i with
   | zero=>simp at q;subst q;exact⟨x,rfl,j.1⟩
   | succ i=>simpa using A i c (by simpa using q)
def Cx.aside(z:Cx):Cx:={ w:=z.w,S:=z.S,F:=λb=>z.F b∨∃id o k,z.H id=some o∧z.atk id b k,H:=λ_=>none,β:=λ_=>none,K:=λ_ _=>none,n:=z.n }
theorem uq{z:Cx}(j:z.ok):z.aside.ok:=by
 refine⟨j.S_lt,λb l=>?_,λb l q=>?_,(λ_ _ h=>by cases h),(λ_ _ _ _ h=>by cases h),(λ_ _ _ _ _ _ _ h=>by cases h),(λ_ _ _ _ _ h=>by cases h),j.tabs.same rfl (λ_ h=>h)⟩
 ·rcases l with l | ⟨id,o,k,u,w⟩
  ·exact j.F_lt b l
  ·exact(j.own' id o b k u w).1
 ·rcases q with q | ⟨id,o,k,u,w⟩
  ·exact j.SF b l q
  ·exact(j.own' id o b k u w).2.1 l
theorem C0{f}{fo}{xs:Array Operand}{a6}{caps bs:List AV}{r}(ho:o.op=.call { callee := .value fo, args := xs, argTypes := a6 })(a7:Ev c R fo (.fn f caps))(O:Dr caps=true)
 (hx:PX c R xs.toList bs) (hr:c=true→AS P f (bs++caps) r):A7 P c o R h n r h n := by
  intro hc z w q hH hn he K Q hK
  obtain⟨T, Z, a0⟩ := hr hc
  obtain⟨A, hget⟩ := hx.get
  have hv := a7.rep he hc
  generalize a8:w.eval fo=v at hv
  cases hv with
  | @fn _ _ us hl a1 =>
    have a2 := Nq T ho a8 z.w
    have U:H9 z.aside (bs++caps) (xs.map w.eval++us).toList := by
      refine⟨by simp[hl];simpa using A, λi a u I h2 => ?_⟩
      have C:((xs.toList.map w.eval)++us.toList)[i]?=some u := by simpa using h2
      by_cases hi:i<bs.length
      · rw[wO hi] at I
        obtain⟨x, k1, J⟩ := hget i a I
        rw[wO (by simp at A ⊢;omega), wD, k1] at C
        simp only[xD, vz] at C
        subst C
        rcases J with ⟨J, k3⟩ | ⟨J, rfl⟩
        · exact JR (x := z) (y := z.aside) rfl (λb h => h) (J.rep he hc) k3
        · have := J.rep he hc
          generalize w.eval x=v at this ⊢
          cases this;exact .r .snil
      · rw[wN (by omega)] at I
        rw[wN (by simp at A ⊢;omega)] at C
        have aa:(xs.toList.map w.eval).length=bs.length := by simpa using A
        rw[aa] at C
        exact JR (x := z) (y := z.aside) rfl (λb h => h) (a1 _ a u I (by simpa using C)) (Km O I)
    unfold Oper.wp
    rw[a2]
    refine(a0 z.aside _ (uq q) rfl U).mono λe w' ⟨u, y, he', ab, l, B, ac⟩ => ?_
    subst he'
    subst ab
    have V:y.F=z.aside.F := l.F
    have M:z.le { y with F := z.F, H := z.H, β := z.β, K := z.K, n := z.n } ∧ ({ y with F := z.F, H := z.H, β := z.β, K := z.K, n := z.n } : Cx).ok := by
      have E:z.le { y with F := z.F, H := z.H, β := z.β, K := z.K, n := z.n } :=
        ⟨l.size, l.os, l.tape, l.output, λb F => l.blk b (F.imp id (λh => Or.inl h)), λb h => l.S b h, rfl, vu _, λid o h _ => ⟨o, h, rfl, rfl, rfl⟩, λid o h hf _ _ => ⟨o, h, hf, rfl, rfl, rfl, rfl⟩⟩
      refine⟨E, B.S_lt, λb F => vq (q.F_lt b F) l.size, λb F hf => ?_, λid Y X => ?_, λid Y b k I h2 => ?_, q.inj, q.extOf (λid o h => ⟨o, h⟩) rfl rfl l.size (λid o b k h ha hS => B.SF b hS (by rw[V];exact .inr ⟨id, o, k, h, ha⟩)) (λid o b k h ha => (q.own' id o b k h ha).2.2), q.tabs.le E⟩
      · exact B.SF b F (by rw[V];exact .inl hf)
      · obtain⟨k1, J⟩ := q.obj id Y X
        exact⟨k1, J.mono E (λb k F => l.blk b (.inr (.inr ⟨id, Y, k, X, .inl F⟩))) λj b k F => l.blk b (.inr (.inr ⟨id, Y, k, X, .inr ⟨j, F⟩⟩))⟩
      · obtain⟨k1, J, k3⟩ := q.own id Y b k I h2
        refine⟨vq k1 l.size, λhs => ?_, k3⟩
        exact B.SF b hs (by rw[V];exact .inr ⟨id, Y, k, I, .inl h2⟩)
    exact hK u { y with F := z.F, H := z.H, β := z.β, K := z.K, n := z.n } M.1 M.2 hH hn (JR (x := y) (y := { y with F := z.F, H := z.H, β := z.β, K := z.K, n := z.n }) rfl (λ_ h => h) ac Z)
def DW:Nat→List AV→AX
 | _,[]=>[]
 | i,a::l=>(i,a)::DW (i+1) l
theorem TP l:∀(i t:Nat),get (DW i l) t=.any∨∃j a,t=i+j∧l[j]?=some a∧get (DW i l) t=a:=by
 induction l with
 | nil=>intro i t;exact .inl rfl
 | cons a l u=>
  intro i t
  simp only[DW,DQ]
  split
  ·rename_i w;subst w;exact .inr ⟨0,a,rfl,rfl,rfl⟩
  ·rcases u (i+1) t with q | ⟨j,b,q,A,B⟩
   ·exact .inl q
   ·exact .inr ⟨j+1,b,by omega,by simpa using A,B⟩
end
section
variable{P:Program}{c:Bool}{o:Oper}{R:AX}{h:AO}{n:Nat}
end
section
variable{P:Program}{ops:Array Oper}{rest:List Oper}{s:St}{K:St→Prop}{o:Oper}
def CC(y:Cx)(j:World):Prop:=∃z:Cx,z.w=j∧y.le z∧z.ok∧z.H=y.H∧(z.β=y.β∧z.K=y.K)∧z.n=y.n∧z.S=y.S∧Em y j
def AQ(P:Program)(ops:Array Oper)(rest:List Oper)(s:St)(K:St→Prop):Prop:=
 ∀(y:Cx) (a:Act),y.ok→y.H=hget s.h→y.n=s.n→a.tmps.size=s.N→B6 y s.e a→∀q:Act→Prop,
  (∀j l,K j→j.h=s.h→j.n=s.n→j.N=s.N→l.tmps.size=s.N→l.defers=a.defers→B6 y j.e l→q l)→wpQuiet P ops (CC y) q rest a
theorem AQ.nil(h:K s):AQ P ops [] s K:=λ_ a _ _ _ j l _ q=>wpQuiet_nil (q s a h rfl rfl rfl j rfl l)
theorem vE{y z:Cx}{l}(u:z.H=y.H)(q:z.β=y.β∧z.K=y.K)(w:z.S=y.S)(A:Em y z.w)(B:Em z l):Em y l:=by
 intro b j
 refine(B b ?_).trans (A b j)
 unfold Cx.atk at j ⊢
 rw[u,q.1,q.2,w];exact j
theorem AQ.step{d}{v}(hg:o.guard=none)(hd:o.dst=some d)(F:Nat.blt d s.N=true)(I:AR P true o s.e s.h v)
 (J:AQ P ops rest { e := (d, v)::s.e, h := s.h, n := s.n, N := s.N } K):AQ P ops (o::rest) s K := by
  intro y a j C M hsz E O T
  obtain⟨u, l, U⟩ := I rfl y a j C E
  have q:d<a.tmps.size := by rw[hsz];exact Cn F
  refine wpQuiet_step λK' w => ?_
  rw[vh (by simp[Region.wanted, hg])]
  refine⟨u, λV A => ?_, w _ ?_⟩
  · obtain⟨z, hz, _, _, _, _, _, _, B⟩ := A
    unfold Oper.quietAt
    rw[l V B]
    exact⟨rfl, rfl⟩
  · rw[hd]
    refine J y (a.put (some d) u) j C M (by simpa[Act.put] using hsz) (E.put q U) O λX Y Z k2 k3 k4 k5 k6 k7 => T X Y Z k2 k3 k4 k5 k6 k7
theorem fw{a:Act}{j u}{l b}(hg:o.guard=some (j,l))(w:(ops[j]?).bind (·.dst)=some u)(q:a.tmps.getD u undef=.bool b):Region.wanted o (yielded ops a.tmps)=(b==l):=by
 simp only[Region.wanted,hg,yielded]
 cases A:ops[j]? with
 | none=>rw[A] at w;cases w
 | some C=>
  rw[A] at w
  simp only[zJ] at w
  simp only[w,zJ]
  have:a.tmps[u]?=some (.bool b):=by
   have B:u<a.tmps.size:=by
    rcases yQ u a.tmps.size with h | h
    ·exact h
    ·simp[Array.getD,Nat.not_lt.2 h] at q;cases q
   rw[wS B]
   simpa[Array.getD,B] using q
  simp[this]
def Il:AV→Option Value
 | .r (.int k n)=>some (.int k n)
 | .r (.bool b)=>some (.bool b)
 | .r (.str s)=>some (.string ⟨s.toArray⟩)
 | _=>none
def I4:List AV→Option (List Value)
 | []=>some []
 | a::l=>match Il a,I4 l with
  | some v,some r=>some (v::r)
  | _,_=>none
def Ox:AV→Option Value
 | .tup j=>(I4 j).map λl=>.tuple l.toArray
 | a=>Il a
theorem gf{x}{r}{v u}(h:Il r=some v)(j:AP x r u):u=v:=by
 unfold Il at h
 split at h
 ·cases h;exact CZ j
 ·cases h;exact Gp j
 ·cases h;exact Hg j
 ·cases h
theorem fj{x}{r}{v}(h:Il r=some v):AP x r v:=by
 unfold Il at h
 split at h
 ·cases h;exact .r (.int _ _)
 ·cases h;exact .r (.bool _)
 ·cases h;exact .r (.str ⟨_⟩)
 ·cases h
theorem XT:∀ {vs:List AV} {l:List Value},I4 vs=some l→vs.length=l.length∧∀(i:Nat) (a:AV),vs[i]?=some a→∃v:Value,l[i]?=some v∧Il a=some v
 | [],l,h=>by cases h;exact⟨rfl,by simp⟩
 | a::vs,l,h=>by
  unfold I4 at h
  split at h
  ·rename_i v r q u
   cases h
   obtain⟨w,A⟩:=XT u
   refine⟨by simp[w],λi b j=>?_⟩
   cases i with
   | zero=>cases j;exact⟨v,rfl,q⟩
   | succ i=>simpa using A i b (by simpa using j)
  ·cases h
theorem nH{x}{r}{v u}(h:Ox r=some v)(C:AP x r u):u=v:=by
 cases r with
 | tup q=>
  change (I4 q).map (λl=>Value.tuple l.toArray)=some v at h
  cases A:I4 q with
  | none=>rw[A] at h;cases h
  | some l=>
   rw[A] at h
   simp only[xD,vz] at h
   subst h
   obtain⟨V,F⟩:=XT A
   cases C with
   | @tup _ I X j=>
    congr 1
    apply Array.ext
    ·simp;omega
    ·intro i J M
     obtain⟨w,E,O⟩:=F i (q[i]'(by omega)) (vo (by omega))
     have T:=j i _ I[i] (vo (by omega)) (wS J)
     have U:=gf O T
     have B:i<l.length:=by simpa using M
     rw[vo B] at E
     cases E
     simpa using U
 | _=>first | exact gf (show Il _=some v from h) C | cases h
theorem gD{x}{r}{v}(h:Ox r=some v):AP x r v:=by
 cases r with
 | tup A=>
  change (I4 A).map (λl=>Value.tuple l.toArray)=some v at h
  cases q:I4 A with
  | none=>rw[q] at h;cases h
  | some l=>
   rw[q] at h
   simp only[xD,vz] at h
   subst h
   obtain⟨B,C⟩:=XT q
   refine .tup (by simpa using B) λi c u E F=>?_
   obtain⟨w,I,J⟩:=C i c E
   have j:l[i]?=some u:=by simpa using F
   rw[I] at j;cases j
   exact fj J
 | _=>first | exact fj (show Il _=some v from h) | cases h
theorem AQ.call{c}{f}{fo}{xs:Array Operand}{a8}{caps bs:List AV}{r}{v}{a:Act}{y:Cx}{R}{h}(ho:o.op=.call { callee := .value fo, args := xs, argTypes := a8 })
 (aa:Ev c R fo (.fn f caps)) (I:Dr caps=true) (hx:Hw c R h xs.toList bs) (hr:c=true→AS P f (bs++caps) r) (ab:Ox r=some v) (hc:c=true) (_hok:y.ok) (hH:y.H=hget h) (he:B6 y R a) :
    ∀w2, CC y w2→o.quietAt P a (CC y) w2 v := by
  rintro w2 ⟨z, rfl, V, l, J, X, ac, Y, Z⟩
  obtain⟨M, _, a0⟩ := hr hc
  obtain⟨A, hget⟩ := hx.get
  have a1 := he.mono V
  have ad:z.H=Al.hget h := J.trans hH
  have hv := aa.rep a1 hc
  generalize ae:a.eval fo=vv at hv
  cases hv with
  | @fn _ _ us hl a2 =>
    have a6 := Nq M ho ae z.w
    have O:H9 z.frozen (bs++caps) (xs.map a.eval++us).toList := by
      refine⟨by simp[hl];simpa using A, λi b u F h2 => ?_⟩
      have B:((xs.toList.map a.eval)++us.toList)[i]?=some u := by simpa using h2
      by_cases hi:i<bs.length
      · rw[wO hi] at F
        obtain⟨x, b', k1, k2, k3⟩ := hget i b F
        rw[wO (by simp at A ⊢;omega), wD, k1] at B
        simp only[xD, vz] at B
        subst B
        exact k3.rep l ad (k2.rep a1 hc)
      · rw[wN (by omega)] at F
        rw[wN (by simp at A ⊢;omega)] at B
        have af:(xs.toList.map a.eval).length=bs.length := by simpa using A
        rw[af] at B
        exact JR (x := z) (y := z.frozen) rfl (λb h => Or.inl h) (a2 _ b u F (by simpa using B)) (Km I F)
    unfold Oper.quietAt
    rw[a6]
    refine⟨rfl, (a0 z.frozen _ (T7 l) rfl O).mono λe w' ⟨u, q, he', ag, w, a7, ah⟩ => ?_⟩
    subst ag
    refine⟨by rw[he', nH ab ah], ?_⟩
    have C:z.le { q with S := z.S, H := z.H, β := z.β, K := z.K, n := z.n } :=
      ⟨w.size, w.os, w.tape, w.output, λb E => w.blk b (E.imp (λh => Or.inl h) id), λ_ h => h, w.F, vu _, λid o h _ => ⟨o, h, rfl, rfl, rfl⟩, λid o h hf _ _ => ⟨o, h, hf, rfl, rfl, rfl, rfl⟩⟩
    have T:({ q with S := z.S, H := z.H, β := z.β, K := z.K, n := z.n } : Cx).F=z.F := w.F
    refine⟨{ q with S := z.S, H := z.H, β := z.β, K := z.K, n := z.n }, rfl, V.trans C, ⟨λb E => vq (l.S_lt b E) w.size, a7.F_lt, λb E => ?_, λid ob U => ?_, λid ob b k F h2 => ?_, l.inj, l.extOf (λid o h => ⟨o, h⟩) rfl rfl w.size (λid o b k h ha => (l.own' id o b k h ha).2.1) (λid o b k h ha hF => (l.own' id o b k h ha).2.2 (by rw[← T];exact hF)), l.tabs.le C⟩, J, X, ac, Y, ?_⟩
    · rw[T];exact l.SF b E
    · obtain⟨k1, k2⟩ := l.obj id ob U
      exact⟨k1, k2.mono C (λb k E => w.blk b (.inl (.inr ⟨id, ob, k, U, .inl E⟩))) λj b k E => w.blk b (.inl (.inr ⟨id, ob, k, U, .inr ⟨j, E⟩⟩))⟩
    · obtain⟨k1, k2, k3⟩ := l.own id ob b k F h2
      exact⟨vq k1 w.size, k2, by rw[T];exact k3⟩
    · refine vE J X Y Z λb E => w.blk b (.inl (E.imp id ?_))
      exact λ⟨id, o, k, F, h2⟩ => ⟨id, o, k, F, h2⟩
theorem Fw{d}{f}{fo}{xs:Array Operand}{u}{caps bs}{r}{v}(hg:o.guard=none)(hd:o.dst=some d)(F:Nat.blt d s.N=true)
 (I:o.op=.call { callee := .value fo, args := xs, argTypes := u }) (w:Ev true s.e fo (.fn f caps)) (j:Dr caps=true) (J:Hw true s.e s.h xs.toList bs) (M:true=true→AS P f (bs++caps) r) (l:Ox r=some v)
 (O:AQ P ops rest { e := (d, r)::s.e, h := s.h, n := s.n, N := s.N } K):AQ P ops (o::rest) s K := by
  intro y a q C T hsz E U V
  have A:d<a.tmps.size := by rw[hsz];exact Cn F
  refine wpQuiet_step λK' B => ?_
  rw[vh (by simp[Region.wanted, hg])]
  refine⟨v, AQ.call I w j J M l rfl q C E, B _ ?_⟩
  rw[hd]
  exact O y (a.put (some d) v) q C T (by simpa[Act.put] using hsz) (E.put A (gD l)) U λX Y Z k2 k3 k4 k5 k6 k7 => V X Y Z k2 k3 k4 k5 k6 k7
theorem hZ{id}{l:List Oper}{Q}(hm:P.follows .mixedOrders=true)(hB:Region.lexB .any l.toArray=true)(h:AQ P l.toArray l s (Q .normal)):AW P (.region id l.toArray true) Q s:=by
 intro z0 M c0 a w ⟨_,C,hsz,y,O,T,q,hH,hn,he⟩
 subst O
 have U:∀A:World,A.heap=y.w.heap→A.os=y.w.os→A.tape=y.w.tape→A.output=y.w.output→CC y A:=by
  intro A B h2 h3 h4
  have u:y.le { y with w:=A }:=⟨by rw[B];exact vu _,h2,h3,h4,λb _=>by rw[B],λ_ h=>h,rfl,vu _,λid o h _=>⟨o,h,rfl,rfl,rfl⟩,λid o h hf _ _=>⟨o,h,hf,rfl,rfl,rfl,rfl⟩⟩
  refine⟨{ y with w:=A },rfl,u,⟨λb V=>by rw[B];exact q.S_lt b V,λb V=>by rw[B];exact q.F_lt b V,q.SF,λid o ho=>?_,λid o b k E F=>by rw[B];exact q.own id o b k E F,q.inj,q.extOf (y:={ y with w:=A }) (λid o h=>⟨o,h⟩) rfl rfl (by rw[B];exact vu _) (λid o b k h X=>(q.own' id o b k h X).2.1) (λid o b k h X=>(q.own' id o b k h X).2.2),q.tabs.le u⟩,rfl,⟨rfl,rfl⟩,rfl,rfl,λb _=>by rw[B]⟩
  obtain⟨E,F⟩:=q.obj id o ho
  exact⟨E,F.mono u (λb k _=>by rw[B]) λj b k _=>by rw[B]⟩
 refine lQ Jz (C:=CC y) hm hB M (U _ rfl rfl rfl rfl) ?_
 refine h y a q hH hn hsz he _ λs' a' E F k3 k4 k5 k6 k7 A ⟨z,hz,I,J,Y,_,Z,_,_⟩=>?_
 subst hz
 exact⟨by simp,s',E,_,k6.trans C,by rw[k5,k4],z,rfl,T.trans I,J,by rw[Y,hH,F],by rw[Z,hn,k3],k7.mono I⟩
end
section
variable{P:Program}{c:Bool}{o:Oper}{R:AX}{h:AO}{n:Nat}
theorem uP{x}(j : -9223372036854775808≤x)(l:x≤9223372036854775807):IntKind.i64.wrap x=x:=by
 rw[IntKind.wrap_i64];omega
def DY(P:Program)(t:TypeId)(j:List (Nat × Nat))(z:List Value):Prop:=
 ∃l:Array Field,P.underlying t=some (.struct l)∧(∀w,(l.mapM (m:=Sem) λf=>do pure (f.offset,← sizeOf f.type)).run P w=.ok j.toArray w)∧∃i,P.info? t=some i∧i.zero=some (.agg z.toArray)
def LZ:List AV→List (Nat × AV)→List AV
 | j,[]=>j
 | j,(off,a)::r=>LZ (GP j off (BV a)) r
def Om(c:Bool)(R:AX)(j:List (Nat × Nat))(len:Nat):List (Nat × Operand)→List (Nat × AV)→Prop
 | [],[]=>True
 | (i,x)::r,(off,a)::q=>j[i]?=some (off,(BV a).length)∧Nat.ble (off+(BV a).length) len=true∧(BV a).all AV.one=true∧Ev c R x a∧Om c R j len r q
 | _,_=>False
theorem Wv{x}{a:Act}{w}(hc:c=true)(T:B6 x R a):∀(I:List (Nat × Operand)) (q:List (Nat × AV)) (us:Array Value) (cs:List AV),us.size=cs.length →
  (∀(j:Nat) (b:AV) (u:Value),cs[j]?=some b→us[j]?=some u→AP x b u)→Om c R w cs.length I q →
  ∃A,Instr.fill (w[·]?) us (I.map λ(i,y)=>(i,a.eval y))=some A∧A.size=(LZ cs q).length∧∀(j:Nat) (b:AV) (u:Value),(LZ cs q)[j]?=some b→A[j]?=some u→AP x b u
 | [],[],us,cs,J,B,_=>⟨us,rfl,J,B⟩
 | [],_::_,_,_,_,_,hp=>hp.elim
 | _::_,[],_,_,_,_,hp=>hp.elim
 | (i,y)::I,(off,b)::q,us,cs,J,B,hp=>by
  obtain⟨X,Y,Z,h4,h5⟩:=hp
  have M:off+(BV b).length≤cs.length:=wj Y
  obtain⟨U,k2,_⟩:=M1 (h4.rep T hc) (λd hd=>wI.1 Z d hd)
  have E:(GP cs off (BV b)).length=cs.length:=by simp[GP];omega
  obtain⟨f1,f2⟩:=gB off (a.eval y) us (by omega)
  obtain⟨A,g1,g2,g3⟩:=Wv hc T I q _ (GP cs off (BV b)) (by rw[f1,J,E]) (λj d u F C=>by
   have O:=Jt cs (BV b) off j M
   unfold GP at F
   rw[O] at F
   rw[f2] at C
   rw[U] at C
   split at F
   ·rename_i l
    rw[vh l] at C
    obtain⟨u',V,_,m2⟩:=k2 _ _ F
    rw[C] at V;cases V;exact m2
   ·rename_i l
    rw[vg l] at C
    exact B j d u F C) (by rw[E];exact h5)
  refine⟨A,?_,g2,g3⟩
  simp only[wB,Instr.fill,X]
  rw[vg (by simp[U];omega)]
  exact g1
theorem Bt{t}{parts:Array (Nat × Operand)}{l:List (Nat × Nat)}{z:List Value}{q}{cs}(F:o.op=.build t parts)(I:DY P t l z)
 (hp:Om c R l z.length parts.toList q) (A:LZ (z.map HC) q=cs):AR P c o R h (.agg cs) := by
  intro J y a _ _ M
  subst A
  obtain⟨Z, O, T, i, U, V⟩ := I
  obtain⟨B, X, f2, Y⟩ := Wv J M parts.toList q z.toArray (z.map HC) (by simp) (λj b u w C => by
    have E:z[j]?=some u := by simpa using C
    rw[wD, E] at w
    simp only[xD, vz] at w
    subst w;exact NP y u) (by rw[v7];exact hp)
  refine⟨.agg B, λw2 _ => ?_, .agg f2.symm λj b u w C => Y j b u w C⟩
  unfold execOp
  rw[F]
  simp only[Instr.build, zeroValue, typeInfo, Sem.run_bind, run_program, Result.andThen_ok, U, Sem.run_pure, V, run_underlying O, T, Value.cells, yo]
  have:(λx:Nat => l.toArray[x]?)=(l[·]?) := by funext x;simp
  rw[this, X]
  rfl
def Iu(P:Program)(t:TypeId)(f off:Nat):Prop:=∃(l:Array Field) (j:Field) (d:TypeDesc),P.underlying t=some (.struct l)∧l[f]?=some j∧j.offset=off∧P.underlying j.type=some d∧GG d=true
theorem Xm{t}{x}{f off}{cs}{a}(B:o.op=.field t x f)(C:Iu P t f off)(E:Ev c R x (.agg cs))(q:cs[off]?=some a):AR P c o R h a:=by
 intro F z w _ _ I
 obtain⟨X,Y,d,J,M,O,T,U⟩:=C
 have u:=E.rep I F
 generalize V:w.eval x=v at u
 cases u with
 | @agg _ l Z j=>
  have A:off<l.size:=by have:=(vl.1 q).1;omega
  refine⟨l[off],λw2 _=>?_,j off a l[off] q (wS A)⟩
  unfold execOp
  rw[B]
  simp[V,Instr.field,run_underlying J,M,asAgg,part,J0 T,U,O,wS A]
end
section
variable{P:Program}{t e:TypeId}{z:Value}{sz b:Nat}
theorem Jj(h:(P.info? t).map (λi=>(i.zero,i.size,i.bytes))=some (some z,sz,b)):∃i,P.info? t=some i∧i.zero=some z∧i.size=sz∧i.bytes=b:=by
 cases j:P.info? t with
 | none=>rw[j] at h;cases h
 | some i=>
  rw[j] at h
  simp only[xD,vz,wA] at h
  exact⟨i,rfl,h.1,h.2.1,h.2.2⟩
theorem Bj.of(j:P.underlying t=some (.slice e))(l:(P.info? e).map (λi=>(i.zero,i.size,i.bytes))=some (some z,sz,b))(q:z.cells.size=sz)(w:z.cells.toList.all Value.oneCell'=true)(A:0<sz):Bj P t e sz b:=by
 obtain⟨i,B,C,E,F⟩:=Jj l
 exact⟨j,i,z,B,E,F,C,q,λu I=>wI.1 w u I,A⟩
theorem Bd.of{d}(j:P.underlying t=some d)(l:GG d=true)(q:(P.info? t).map (λi=>(i.zero,i.size,i.bytes))=some (some z,1,b)):Bd P t:=by
 obtain⟨i,u,_,w,_⟩:=Jj q
 exact⟨d,i,j,l,u,w⟩
theorem Bf.of{d}(j:P.underlying t=some d)(l:GG d=false)(q:(P.info? t).map (λi=>(i.zero,i.size,i.bytes))=some (some z,sz,b)):Bf P t sz:=by
 obtain⟨i,u,_,w,_⟩:=Jj q
 exact⟨d,i,j,l,u,w⟩
theorem DE(j:(P.info? t).map (λi=>(i.zero,i.size,i.bytes))=some (some z,sz,b)):∃i,P.info? t=some i∧i.size=sz:=by
 obtain⟨i,l,_,q,_⟩:=Jj j
 exact⟨i,l,q⟩
theorem CO.of(j:(P.info? t).map (λi=>(i.zero,i.size,i.bytes))=some (some z,sz,b)):CO P t z:=by
 obtain⟨i,l,q,_,_⟩:=Jj j
 exact⟨i,l,q⟩
theorem GX.of{j}(l:(P.info? t).map (λi=>(i.zero,i.size,i.bytes))=some (some z,sz,b))(h:Gd (F1 z)=some j):GX P t j:=by
 obtain⟨i,q,u,_,_⟩:=Jj l
 exact⟨i,z,q,u,h⟩
theorem AY.of{l}{j:Field}{f off}(q:P.underlying t=some (.struct l))(u:l[f]?=some j)(w:j.offset=off)(A:(P.info? j.type).map (λi=>(i.zero,i.size,i.bytes))=some (some z,sz,b))(B:sz≠0):AY P t f off:=by
 obtain⟨i,C,_,E,_⟩:=Jj A
 exact⟨l,j,i,q,u,w,C,by rw[E];exact B⟩
theorem Iu.of{l}{j:Field}{d}{f off}(q:P.underlying t=some (.struct l))(u:l[f]?=some j)(w:j.offset=off)(A:P.underlying j.type=some d)(B:GG d=true):Iu P t f off:=⟨l,j,d,q,u,w,A,B⟩
theorem DY.of{l:Array Field}{j:List (Nat × Nat)}{q:List Value}(u:P.underlying t=some (.struct l))(A:∀w,(l.mapM (m:=Sem) λf=>do pure (f.offset,← sizeOf f.type)).run P w=.ok j.toArray w)
  (B:(P.info? t).map (λi=>(i.zero,i.size,i.bytes))=some (some (.agg q.toArray),sz,b)):DY P t j q:=by
 obtain⟨i,C,E,_,_⟩:=Jj B
 exact⟨l,u,A,i,C,E⟩
end
theorem qy{P}{c}{o:Oper}{R}{h}{α:Type}{t}{e}{sz}{x}{l:List α}{f}(j:o.op=.call { callee := .builtin .len, args := #[x], argTypes := #[t] })(q:EO P t e sz)
 (u:Ev c R x (.r (.sl (l.map f)))):AR P c o R h (.r (.int .i64 l.length)) := by
  have := Zp (h := h) j q u
  rwa [v7] at this
theorem nG{P}{c}{o:Oper}{R}{h}{α:Type}{t}{e e'}{sz j}{x}{id g}{l:List α}{f}(q:o.op=.call { callee := .builtin .len, args := #[x], argTypes := #[t] })
 (u:EO P t e sz) (w:Ev c R x (.own id g)) (A:hget h id=some (.arr g e' j (l.map f))):AR P c o R h (.r (.int .i64 l.length)) := by
  have := Xv q u w A
  rwa [v7] at this
theorem Z4{x}{b}{v}(h:AP x (.r (.bool b)) v):v=.bool b:=by
 cases h with
 | r h=>cases h;rfl
theorem YI{P}{c}{o:Oper}{R}{h}{op}{t q}{x y}{m n}{v}{u}(A:o.op=.binOp op t x y q)(B:Ev c R x (.r (.bool m)))(C:Ev c R y (.r (.bool n)))
 (E:∀w, (binOp op t (.bool m) (.bool n)).run P w=.ok u w) (F:∀w S, BE w S v u):AR P c o R h (.r v) := by
  intro j z a _ _ l
  refine⟨u, λJ I => ?_, .r (F _ _)⟩
  unfold execOp
  rw[A]
  simp only[Z4 (B.rep l j), Z4 (C.rep l j), eqGuard_at_bool]
  simp[E]
theorem gU{P:Program}{c}{o:Oper}{R}{h}{t j}{x y}{m n}(l:o.op=.binOp .eql t x y j)(q:P.underlying t=some .bool)(u:Ev c R x (.r (.bool m)))(A:Ev c R y (.r (.bool n))) :
  AR P c o R h (.r (.bool (m==n))):=YI l u A (λw=>by simp[binOp,run_equal_bool _ t m n q]) (λ_ _=>.bool _)
theorem X2{P:Program}{c}{o:Oper}{R}{h}{t j}{x y}{m n}(l:o.op=.binOp .neq t x y j)(q:P.underlying t=some .bool)(u:Ev c R x (.r (.bool m)))(A:Ev c R y (.r (.bool n))) :
  AR P c o R h (.r (.bool (!(m==n)))):=YI l u A (λw=>by simp[binOp,run_equal_bool _ t m n q]) (λ_ _=>.bool _)
open Go.ChangeShapes Go.WideShapes Go.Deep Go.WideElems
def Cx.start(W:World):Cx:={ w:=W,S:=λb=>b<W.heap.size,F:=λ_=>False,H:=λ_=>none,β:=λ_=>none,K:=λ_ _=>none,n:=0 }
theorem u5(W:World)(j:F6 (Cx.start W)):(Cx.start W).ok:=
 ⟨λ_ h=>h,λ_ h=>h.elim,λ_ _ h=>h,(λ_ _ h=>by cases h),(λ_ _ _ _ h=>by cases h),(λ_ _ _ _ _ _ _ h=>by cases h),(λ_ _ _ _ _ h=>by cases h),j⟩
theorem XC{W:World}{y:Cx}(h:(Cx.start W).le y){b}(j:b<W.heap.size):y.w.heap[b]?=W.heap[b]?:=h.blk b (.inl j)
section
variable{H:Type}{enc:TypeId × Value→H}{P:Program}{W:World}
def Pe(W:World)(cs:List Value)(l:List RV):Prop:=
 cs.length=l.length∧∀(j:Nat) (d:RV) (u:Value),l[j]?=some d→cs[j]?=some u→BE W (· < W.heap.size) d u
theorem Pe.one{d}{u}(h:BE W (· < W.heap.size) d u):Pe W [u] [d]:=by
 refine⟨rfl,λj w A l q=>?_⟩
 cases j with
 | zero=>simp at l q;subst l;subst q;exact h
 | succ j=>simp at l
theorem Wi{α:Type}{Q:Nat→α→Prop}(n:Nat)(h:∀i,i<n→∃b,Q i b):∃l:List α,l.length=n∧∀i b,l[i]?=some b→Q i b:=by
 induction n with
 | zero=>exact⟨[],rfl,λi b h=>by simp at h⟩
 | succ k w=>
  obtain⟨l,u,A⟩:=w (λi E=>h i (by omega))
  obtain⟨b,B⟩:=h k (by omega)
  refine⟨l++[b],by simp[u],λi C j=>?_⟩
  rcases yQ i l.length with q | q
  ·rw[wO q] at j;exact A i C j
  ·rw[wN q] at j
   have:i=l.length:=by
    have:=(vl.1 j).1
    simp at this;omega
   subst this
   simp at j;subst j
   rw[u];exact B
theorem bH(C:laidOutB P=true){E}{l} : ∀ {A:List TypeId} {vs:List Value} {ds:List (DataW H)} {w:List MemPlace},(∀t∈A,P.readableRec t=true∧t<P.types.size) →
  DataW.TrodAll enc P W 0 (λ_=>true) true A vs ds w→(∀p∈w,W.sameAt E p)→(∀p∈w,l p.block=true)→DataW.TrodAll enc P E 0 l true A vs ds w
 | [],[],[],_,_,h,_,_=>h
 | t::_,_::_,_::_,_,B,⟨p,q,I,J,e⟩,F,u=>
  ⟨p,q,Trod_stays C (B t (wC.2 (.inl rfl))).1 (B t (wC.2 (.inl rfl))).2 I (λx j=>F x (by rw[e];exact xz _ j)) (λx j=>u x (by rw[e];exact xz _ j)),
   bH C (λt M=>B t (wC.2 (.inr M))) J (λx j=>F x (by rw[e];exact zN _ j)) (λx j=>u x (by rw[e];exact zN _ j)),e⟩
theorem mJ{y:Cx}(h:(Cx.start W).le y){p:MemPlace}(hp:p.block<W.heap.size):W.sameAt y.w p:=by
 cases p with
 | cell b off=>exact World.cell?_of_block (XC h hp)
 | map b=>exact XC h hp
theorem mZ{y:Cx}(h:(Cx.start W).le y) j:W.keptBut y.w j:=by
 refine⟨h.os,h.output,λi l=>?_⟩
 have:=(World.keptBut_refl W j).2.2 i l
 rw[XC h l]
 exact this
theorem lY{f:Func}{s:ChangeSpec}{args:Array Value}{v:Value}{ds E}{j}{y:Cx}(T:laidOutB P=true)(F:∀t ∈ f.params.toList, P.readableRec t=true∧t<P.types.size)(w:s.vars=[])
 (M:DataW.Whole enc P f.params.toList s.vars false W args.toList ds E j) (A:(Cx.start W).le y) (l:(s.fn H (ds++E)).args=ds) (u:(s.fn H (ds++E)).vars=[])
 (B:∀(b:Nat) (U:Nat→Bool) (hd:Bool), DataW.TrodAll enc P y.w b U hd f.resultTypes.toList (v.resultList f.resultTypes.size) (s.fn H (ds++E)).results []):s.post enc P f false true false false W args v y.w := by
  have I := M
  obtain⟨p, q, hA, O, rfl, _, _⟩ := M
  rw[w] at O
  obtain⟨rfl, rfl⟩ := trodVars_none O
  have C:∀x ∈ p, x.block<W.heap.size := DataW.TrodAll.lt hA
  refine⟨ds, [], p++[], [], p, [], I, B _ _ _, ?_, ?_, mZ A _, λh => by cases h⟩
  · rw[l]
    exact bH T F hA (λx J => mJ A (C x J)) (λx J => by simpa using C x J)
  · rw[w, u];rfl
end
end Go.Proofs.YtgcalnmhoifpoaaGreatDoor.Al

namespace Go.Proofs.YtgcalnmhoifpoaaGreatDoor.Al
def CX(L:List Nat)(i:Nat):Nat:=L.getD (i-1000) 0
mutual
def ren(L:List Nat):AV→AV
 | .own id g=>.own (CX L id) g
 | .pre id g k=>.pre (CX L id) g k
 | .ptr id g i k=>.ptr (CX L id) g i k
 | .mref id g=>.mref (CX L id) g
 | .yld id g=>.yld (CX L id) g
 | .full xs=>.full xs
 | .pk id g ve j k=>.pk (CX L id) g ve j k
 | .fo id g ve key=>.fo (CX L id) g ve key
 | .agg cs=>.agg (FF L cs)
 | .tup cs=>.tup (FF L cs)
 | .fn f cs=>.fn f (FF L cs)
 | .r d=>.r d
 | .rop row k=>.rop row k
 | .cst v=>.cst v
 | .whn b v=>.whn b v
 | .ifc b=>.ifc b
 | .any=>.any
def FF(L:List Nat):List AV→List AV
 | []=>[]
 | a::l=>ren L a::FF L l
end
mutual
def AV.canon(k:Nat):AV→Bool
 | .own id _=>Nat.ble 1000 id&&Nat.blt id (1000+k)
 | .pre id _ _=>Nat.ble 1000 id&&Nat.blt id (1000+k)
 | .ptr id _ _ _=>Nat.ble 1000 id&&Nat.blt id (1000+k)
 | .agg cs=>GL k cs
 | .tup cs=>GL k cs
 | .fn _ cs=>GL k cs
 | .whn _ _=>false
 | .ifc _=>true
 | .mref id _=>Nat.ble 1000 id&&Nat.blt id (1000+k)
 | .yld id _=>Nat.ble 1000 id&&Nat.blt id (1000+k)
 | .pk id _ _ _ _=>Nat.ble 1000 id&&Nat.blt id (1000+k)
 | .fo id _ _ _=>Nat.ble 1000 id&&Nat.blt id (1000+k)
 | .full _=>false
 | .r _=>true
 | .rop _ _=>true
 | .cst _=>true
 | .any=>true
def GL(k:Nat):List AV→Bool
 | []=>true
 | a::l=>a.canon k&&GL k l
end
def Ab.ren(L:List Nat):Ab→Ab
 | .arr g e sz xs=>.arr g e sz xs
 | .box g e w=>.box g e (FF L w)
 | .hot g e xs k id A=>.hot g e xs k id A
 | .it g s pos=>.it g s pos
 | .mp g ks B clock=>.mp g ks B clock
 | .mi g j u q Bi last=>.mi g j u q Bi last
 | .lp g e N C a b E p=>.lp g e N C a b E p
 | .md g l=>.md g l
 | .mb g v e l=>.mb g v e l
 | .mr g v e sz hole l=>.mr g v e sz hole l
 | .mj g j u len Bi=>.mj g j u len Bi
 | .cal g W F=>.cal g W F
 | .rr g e sz col e2 sz2 hole xs=>.rr g e sz col e2 sz2 hole xs
def Ab.canon(k:Nat):Ab→Bool
 | .arr _ _ _ _=>true
 | .box _ _ j=>GL k j
 | .hot _ _ _ _ _ _=>false
 | .it _ _ _=>false
 | .mp _ _ _ _=>false
 | .mi _ _ _ _ _ _=>false
 | .lp _ _ _ _ _ _ _ _=>false
 | .md _ _=>true
 | .mb _ _ _ _=>true
 | .mr _ _ _ _ _ _=>true
 | .mj _ _ _ _ _=>false
 | .cal _ _ _=>true
 | .rr _ _ _ _ _ _ hole _=>hole.isNone
theorem HZ L(l:List AV):(FF L l).length=l.length:=by
 induction l with
 | nil=>rfl
 | cons a l j=>simp[FF,j]
theorem Ie(L:List Nat)(l:List AV)(i:Nat):(FF L l)[i]?=(l[i]?).map (ren L):=by
 induction l generalizing i with
 | nil=>simp[FF]
 | cons a l j=>cases i with
  | zero=>simp[FF]
  | succ i=>simp[FF,j]
theorem In{k:Nat}{cs:List AV}(h:GL k cs=true){i:Nat}{a:AV}(j:cs[i]?=some a):a.canon k=true:=by
 induction cs generalizing i with
 | nil=>simp at j
 | cons b l q=>
  simp only[GL,vm] at h
  cases i with
  | zero=>simp at j;subst j;exact h.1
  | succ i=>exact q h.2 (by simpa using j)
theorem IC L(o:Ab):(o.ren L).gen=o.gen:=by cases o<;>rfl
theorem Q4 L(o:Ab):(o.ren L).shape=o.shape:=by cases o<;>simp[Ab.ren,Ab.shape,HZ]
def NA(x:Cx)(i:Nat)(y:Cx)(j:Nat):Prop:=∀o,x.H i=some o→∃o2,y.H j=some o2∧o2.gen=o.gen∧o2.shape=o.shape∧y.β j=x.β i∧(o.isFam=true→o2.isFam=true∧o2.ver=o.ver∧o2.kshape=o.kshape∧y.K j=x.K i)
theorem gH{x y:Cx}{L}{k}(hw:y.w=x.w)(hS:∀b,x.S b→y.S b)(O:x.n≤y.n)(V:∀id,1000≤id→id<1000+k→NA y (CX L id) x id){a:AV}{v}(X:AP x a v)(w:a.canon k=true) :
  AP y (ren L a) v:=by
 have hb:∀b,x.S b→y.w.heap[b]?=x.w.heap[b]?:=λ_ _=>by rw[hw]
 induction X with
 | r h=>exact .r (h.mono hb hS)
 | cst v=>exact .cst v
 | any v=>exact .any v
 | rop u B T M=>exact .rop u (λh=>hS _ (B h)) (λj d hj=>by rw[hw];exact T j d hj) (λj d hj=>(M j d hj).mono hb hS)
 | agg Y _ Z=>
  simp only[AV.canon] at w
  refine .agg (by rw[HZ];exact Y) λi c u B T=>?_
  rw[Ie,v8] at B
  obtain⟨c0,M,rfl⟩:=B
  exact Z i c0 u M T (In w M)
 | tup Y _ Z=>
  simp only[AV.canon] at w
  refine .tup (by rw[HZ];exact Y) λi c u B T=>?_
  rw[Ie,v8] at B
  obtain⟨c0,M,rfl⟩:=B
  exact Z i c0 u M T (In w M)
 | fn Y _ Z=>
  simp only[AV.canon] at w
  refine .fn (by rw[HZ];exact Y) λi c u B T=>?_
  rw[Ie,v8] at B
  obtain⟨c0,M,rfl⟩:=B
  exact Z i c0 u M T (In w M)
 | own hg B C=>
  simp only[AV.canon,vm,xu,xw] at w
  refine .own (vq hg O) B λo A l=>?_
  obtain⟨o2,E,F,U,I,_⟩:=V _ w.1 w.2 o A
  rw[← I,← U]
  exact C o2 E (F.trans l)
 | pre hg B C=>
  simp only[AV.canon,vm,xu,xw] at w
  refine .pre (vq hg O) B λo A l=>?_
  obtain⟨o2,E,F,U,I,_⟩:=V _ w.1 w.2 o A
  rw[← I,← U]
  exact C o2 E (F.trans l)
 | ptr hg B C=>
  simp only[AV.canon,vm,xu,xw] at w
  refine .ptr (vq hg O) B λo A l=>?_
  obtain⟨o2,E,F,U,I,_⟩:=V _ w.1 w.2 o A
  rw[← I,← U]
  exact C o2 E (F.trans l)
 | whn _ _ _=>simp[AV.canon] at w
 | ifc B h T=>exact .ifc B h T
 | mref hg B C=>
  simp only[AV.canon,vm,xu,xw] at w
  refine .mref (vq hg O) B λo A l=>?_
  obtain⟨o2,E,F,U,I,_⟩:=V _ w.1 w.2 o A
  rw[← I]
  exact C o2 E (F.trans l)
 | yld hg B C=>
  simp only[AV.canon,vm,xu,xw] at w
  refine .yld (vq hg O) B λo A l=>?_
  obtain⟨o2,E,F,U,I,_⟩:=V _ w.1 w.2 o A
  rw[← I]
  exact C o2 E (F.trans l)
 | pk hg X B C=>
  simp only[AV.canon,vm,xu,xw] at w
  refine .pk (vq hg O) (vq X O) B λo b c q m A hf l J hm hp=>?_
  obtain⟨o2,E,F,U,I,k5⟩:=V _ w.1 w.2 o A
  obtain⟨e1,e2,e3,e4⟩:=k5 hf
  exact C o2 b c q m E e1 (F.trans l) (e2.trans J) (by rw[e3];exact hm) (by rw[e4];exact hp)
 | fo hg X B C=>
  simp only[AV.canon,vm,xu,xw] at w
  refine .fo (vq hg O) (vq X O) B λo A hf l J=>?_
  obtain⟨o2,E,F,U,I,k5⟩:=V _ w.1 w.2 o A
  obtain⟨e1,e2,e3,e4⟩:=k5 hf
  have:=C o2 E e1 (F.trans l) (e2.trans J)
  rw[e3,e4] at this
  exact this
 | full _ _=>simp[AV.canon] at w
theorem YR{x y:Cx}{L}{k}(hw:y.w=x.w)(hS:∀b,x.S b→y.S b)(O:x.n≤y.n)(X:∀id,1000≤id→id<1000+k→NA y id x (CX L id)){b}{v}(Y:AP x b v) :
  ∀a:AV,ren L a=b→a.canon k=true→AP y a v:=by
 have hb:∀b,x.S b→y.w.heap[b]?=x.w.heap[b]?:=λ_ _=>by rw[hw]
 induction Y with
 | r h=>intro a l w;cases a<;>simp only[ren,reduceCtorEq] at l<;>cases l;exact .r (h.mono hb hS)
 | cst v=>intro a l w;cases a<;>simp only[ren,reduceCtorEq] at l<;>cases l;exact .cst v
 | any v=>intro a l w;cases a<;>simp only[ren,reduceCtorEq] at l;exact .any v
 | rop u C T h3=>
  intro a l w;cases a<;>simp only[ren,reduceCtorEq] at l<;>cases l
  exact .rop u (λh=>hS _ (C h)) (λj d hj=>by rw[hw];exact T j d hj) (λj d hj=>(h3 j d hj).mono hb hS)
 | agg V _ Z=>
  intro a l w;cases a<;>simp only[ren,reduceCtorEq] at l<;>cases l
  rename_i cs
  simp only[AV.canon] at w
  rw[HZ] at V
  exact .agg V λi c u C T=>Z i _ u (by rw[Ie,C];rfl) T c rfl (In w C)
 | tup V _ Z=>
  intro a l w;cases a<;>simp only[ren,reduceCtorEq] at l<;>cases l
  rename_i cs
  simp only[AV.canon] at w
  rw[HZ] at V
  exact .tup V λi c u C T=>Z i _ u (by rw[Ie,C];rfl) T c rfl (In w C)
 | fn V _ Z=>
  intro a l w;cases a<;>simp only[ren,reduceCtorEq] at l<;>cases l
  rename_i cs
  simp only[AV.canon] at w
  rw[HZ] at V
  exact .fn V λi c u C T=>Z i _ u (by rw[Ie,C];rfl) T c rfl (In w C)
 | own hg C E=>
  intro a l w;cases a<;>simp only[ren,reduceCtorEq] at l<;>cases l
  simp only[AV.canon,vm,xu,xw] at w
  refine .own (vq hg O) C λo B A=>?_
  obtain⟨o2,F,I,U,J,_⟩:=X _ w.1 w.2 o B
  rw[← J,← U]
  exact E o2 F (I.trans A)
 | pre hg C E=>
  intro a l w;cases a<;>simp only[ren,reduceCtorEq] at l<;>cases l
  simp only[AV.canon,vm,xu,xw] at w
  refine .pre (vq hg O) C λo B A=>?_
  obtain⟨o2,F,I,U,J,_⟩:=X _ w.1 w.2 o B
  rw[← J,← U]
  exact E o2 F (I.trans A)
 | ptr hg C E=>
  intro a l w;cases a<;>simp only[ren,reduceCtorEq] at l<;>cases l
  simp only[AV.canon,vm,xu,xw] at w
  refine .ptr (vq hg O) C λo B A=>?_
  obtain⟨o2,F,I,U,J,_⟩:=X _ w.1 w.2 o B
  rw[← J,← U]
  exact E o2 F (I.trans A)
 | whn _ _ _=>intro a l w;cases a<;>simp only[ren,reduceCtorEq] at l<;>cases l;simp[AV.canon] at w
 | ifc C h T=>intro a l w;cases a<;>simp only[ren,reduceCtorEq] at l<;>cases l;exact .ifc C h T
 | mref hg C E=>
  intro a l w;cases a<;>simp only[ren,reduceCtorEq] at l<;>cases l
  simp only[AV.canon,vm,xu,xw] at w
  refine .mref (vq hg O) C λo B A=>?_
  obtain⟨o2,F,I,U,J,_⟩:=X _ w.1 w.2 o B
  rw[← J]
  exact E o2 F (I.trans A)
 | yld hg C E=>
  intro a l w;cases a<;>simp only[ren,reduceCtorEq] at l<;>cases l
  simp only[AV.canon,vm,xu,xw] at w
  refine .yld (vq hg O) C λo B A=>?_
  obtain⟨o2,F,I,U,J,_⟩:=X _ w.1 w.2 o B
  rw[← J]
  exact E o2 F (I.trans A)
 | pk hg Y C E=>
  intro a l w;cases a<;>simp only[ren,reduceCtorEq] at l<;>cases l
  simp only[AV.canon,vm,xu,xw] at w
  refine .pk (vq hg O) (vq Y O) C λo b c q m B hf A M hm hp=>?_
  obtain⟨o2,F,I,U,J,k5⟩:=X _ w.1 w.2 o B
  obtain⟨e1,e2,e3,e4⟩:=k5 hf
  exact E o2 b c q m F e1 (I.trans A) (e2.trans M) (by rw[e3];exact hm) (by rw[e4];exact hp)
 | fo hg Y C E=>
  intro a l w;cases a<;>simp only[ren,reduceCtorEq] at l<;>cases l
  simp only[AV.canon,vm,xu,xw] at w
  refine .fo (vq hg O) (vq Y O) C λo B hf A M=>?_
  obtain⟨o2,F,I,U,J,k5⟩:=X _ w.1 w.2 o B
  obtain⟨e1,e2,e3,e4⟩:=k5 hf
  have:=E o2 F e1 (I.trans A) (e2.trans M)
  rw[e3,e4] at this
  exact this
 | full _ _=>intro a l w;cases a<;>simp only[ren,reduceCtorEq] at l<;>cases l;simp[AV.canon] at w
def Gu(h:AO)(L:List Nat):AO→Prop
 | []=>True
 | (id,some o)::r=>(Nat.ble 1000 id&&Nat.blt id (1000+L.length))=true∧hget h (CX L id)=some (o.ren L)∧o.canon L.length=true∧Gu h L r
 | (_,none)::_=>False
theorem Gu.get{h}{L:List Nat}{hc}(q:Gu h L hc){id}{o:Ab}(j:hget hc id=some o):1000≤id∧id<1000+L.length∧hget h (CX L id)=some (o.ren L)∧o.canon L.length=true:=by
 induction hc with
 | nil=>cases j
 | cons p r u=>
  obtain⟨d,v⟩:=p
  rw[Bv] at j
  cases v with
  | none=>exact q.elim
  | some C=>
   obtain⟨l,w,A,B⟩:=q
   split at j
   ·rename_i hd;subst hd;cases j
    simp only[vm,xu,xw] at l
    exact⟨l.1,l.2,w,A⟩
   ·exact u B j
def IX(k:Nat):AO→Bool
 | []=>true
 | (id,some o)::r=>Nat.ble 1000 id&&Nat.blt id (1000+k)&&o.canon k&&IX k r
 | (_,none)::r=>IX k r
theorem mN{k}{h}(l:IX k h=true){id}{o:Ab}(j:hget h id=some o):1000≤id∧id<1000+k∧o.canon k=true:=by
 induction h with
 | nil=>cases j
 | cons p r q=>
  obtain⟨d,v⟩:=p
  rw[Bv] at j
  cases v with
  | none=>
   split at j
   ·cases j
   ·exact q l j
  | some u=>
   simp only[IX,vm,xu,xw] at l
   split at j
   ·rename_i hd;subst hd;cases j;exact⟨l.1.1.1,l.1.1.2,l.1.2⟩
   ·exact q l.2 j
def Bb(P:Program)(f:FuncId)(k:Nat)(args:List AV)(h:AO)(j:AV→AO→Prop):Prop:=
 QF P f∧∀(x:Cx) (q:Array Value),x.ok→x.H=hget h→H9 x args q.toList →
  Calls P f q x.w λe w'=>∃u y r l,e=.returned u∧y.w=w'∧x.le y∧y.ok∧y.H=hget l∧AP y r u∧r.canon k=true∧IX k l=true∧j r l
def FN(L:List Nat)(hc:AO):Nat→List Nat→AO
 | _,[]=>[]
 | j,id::r=>(id,(hget hc j).map (Ab.ren L))::FN L hc (j+1) r
theorem ed L hc h(M:List Nat):∀(j i:Nat),hget (FN L hc j M++h) i=if i∈M then(hget hc (j+M.idxOf i)).map (Ab.ren L) else hget h i:=by
 induction M with
 | nil=>intro j i;simp[FN]
 | cons m M u=>
  intro j i
  simp only[FN,wF,Bv,wC]
  by_cases l:m=i
  ·subst l;simp
  ·rw[vg l,u]
   have q:¬ i=m:=λe=>l e.symm
   simp only[q,false_or]
   split
   ·rw[List.idxOf_cons,show(m==i)=false from by simpa using l,cond_false,show j+1+M.idxOf i=j+(M.idxOf i+1) by omega]
   ·rfl
def EA(L:List Nat)(i:Nat):Nat:=1000+L.idxOf i
theorem NU{L}{i}(h:i∈L):CX L (EA L i)=i:=by
 have j:=List.idxOf_lt_length_of_mem h
 simp[CX,EA,List.getD,vo j]
theorem WA{L:List Nat}{i}(l:1000≤i)(q:i<1000+L.length):CX L i∈L:=by
 have j:i-1000<L.length:=by omega
 simp only[CX,List.getD,vo j,xg]
 exact xr j
theorem KP{L:List Nat}(j:L.Nodup){i}(q:1000≤i)(u:i<1000+L.length):EA L (CX L i)=i:=by
 have l:i-1000<L.length:=by omega
 simp only[CX,List.getD,vo l,xg,EA]
 rw[j.idxOf_getElem]
 omega
def Cx.view(z:Cx)(L:List Nat)(hc:AO):Cx:=
 { w:=z.w,S:=z.S,F:=λb=>z.F b∨∃id o k,id ∉ L∧z.H id=some o∧z.atk id b k,H:=hget hc,β:=λi=>z.β (CX L i),K:=λi=>z.K (CX L i),n:=z.n }
theorem se{x y:Cx}{L}{k}(C:y.w=x.w)(M:∀b,x.S b→y.S b)(hn:x.n≤y.n)(hH:∀id,1000≤id→id<1000+k→NA y id x (CX L id)){β}{κ}{o:Ab}(T:EQ x β κ (o.ren L))(hc:o.canon k=true):EQ y β κ o:=by
 have Y:∀b,x.S b→y.w.heap[b]?=x.w.heap[b]?:=λ_ _=>by rw[C]
 cases o with
 | arr g e sz xs=>
  obtain⟨U,q,V,Z,w,A,B⟩:=T
  exact⟨U,q,V,Z,w,by rw[C];exact A,λi row c d E F=>by obtain⟨u,I,J⟩:=B i row c d E F;exact⟨u,I,J.mono Y M⟩⟩
 | box g e cs=>
  obtain⟨b,X,q,w,A,B⟩:=T
  refine⟨b,X,q,by rw[C];exact w,by rw[A,HZ],λj c O=>?_⟩
  obtain⟨u,E,F,I⟩:=B j (ren L c) (by rw[Ie,O];rfl)
  exact⟨u,E,F,YR C M hn hH I c rfl (In hc O)⟩
 | hot g e xs k id g'=>cases hc
 | it g s pos=>cases hc
 | mp g ks vs clock=>cases hc
 | mi g a0 mg a1 Bi last=>cases hc
 | lp g e N ps a b st p=>cases hc
 | md g l=>
  obtain⟨b,es,q,w,A,B⟩:=T
  exact⟨b,es,q,by rw[C];exact w,A,λj k d O=>by obtain⟨m,E,F,I,J⟩:=B j k d O;exact⟨m,E,F,I,J.mono Y M⟩⟩
 | mb g v e l=>
  obtain⟨U,b,es,q,w,A,B⟩:=T
  exact⟨vq U hn,b,es,q,by rw[C];exact w,A,λj k cs O=>by
   obtain⟨m,bb,X,E,F,I,J,k5,k6,k7,k8⟩:=B j k cs O
   exact⟨m,bb,X,E,F,I,J,k5,by rw[C];exact k6,k7,λi c hi=>by obtain⟨u,e1,e2,e3⟩:=k8 i c hi;exact⟨u,e1,e2,e3.mono Y M⟩⟩⟩
 | mr g v e sz hole l=>
  obtain⟨U,hv,b,es,q,w,A,B⟩:=T
  exact⟨U,vq hv hn,b,es,q,by rw[C];exact w,A,λj k xs O=>by
   obtain⟨hr,bb,cap,Z,e1,e3,e4,e5⟩:=B j k xs O
   exact⟨hr,bb,cap,Z,e1,by rw[C];exact e3,λi row c d q1 q2=>by obtain⟨u,q3,q4⟩:=e4 i row c d q1 q2;exact⟨u,q3,q4.mono Y M⟩,e5⟩⟩
 | mj g a0 mg len Bi=>cases hc
 | rr g e sz col e2 sz2 hole xs=>
  obtain rfl:hole=none:=by simpa[Ab.canon] using hc
  obtain⟨U,V,Z,q,w,A,B⟩:=T
  refine⟨U,V,Z,q,by rw[C];exact w,λi row c d hc E F=>?_,λi row hi=>?_⟩
  ·obtain⟨u,I,J⟩:=A i row c d hc E F
   exact⟨u,I,J.mono Y M⟩
  ·obtain⟨u,E,⟨_,_,F,_⟩ | ⟨I,ys,J,k5⟩⟩:=B i row hi
   ·cases F
   ·exact⟨u,E,.inr ⟨I,ys,J,k5.mono Y M λ_ _ _=>by rw[C]⟩⟩
 | cal g W ys=>
  obtain⟨κs,q,w,A,B,h5⟩:=T
  exact⟨κs,q,w,by rw[C];exact A,B,λc hc=>M c (h5 c hc)⟩
theorem qI{x y:Cx}{L}{k}(C:y.w=x.w)(O:∀b,x.S b→y.S b)(hn:x.n≤y.n)(hH:∀id,1000≤id→id<1000+k→NA y (CX L id) x id){β}{κ}{o:Ab}(T:EQ x β κ o)(hc:o.canon k=true):EQ y β κ (o.ren L):=by
 have Y:∀b,x.S b→y.w.heap[b]?=x.w.heap[b]?:=λ_ _=>by rw[C]
 cases o with
 | arr g e sz xs=>
  obtain⟨U,q,V,Z,w,A,B⟩:=T
  exact⟨U,q,V,Z,w,by rw[C];exact A,λi row c d E F=>by obtain⟨u,I,M⟩:=B i row c d E F;exact⟨u,I,M.mono Y O⟩⟩
 | box g e cs=>
  obtain⟨b,X,q,w,A,B⟩:=T
  refine⟨b,X,q,by rw[C];exact w,by rw[A,HZ],λj c J=>?_⟩
  rw[Ie,v8] at J
  obtain⟨c0,J,rfl⟩:=J
  obtain⟨u,E,F,I⟩:=B j c0 J
  exact⟨u,E,F,gH C O hn hH I (In hc J)⟩
 | hot g e xs k id g'=>cases hc
 | it g s pos=>cases hc
 | mp g ks vs clock=>cases hc
 | mi g a0 mg a1 Bi last=>cases hc
 | lp g e N ps a b st p=>cases hc
 | md g l=>
  obtain⟨b,es,q,w,A,B⟩:=T
  exact⟨b,es,q,by rw[C];exact w,A,λj k d J=>by obtain⟨m,E,F,I,M⟩:=B j k d J;exact⟨m,E,F,I,M.mono Y O⟩⟩
 | mb g v e l=>
  obtain⟨U,b,es,q,w,A,B⟩:=T
  exact⟨vq U hn,b,es,q,by rw[C];exact w,A,λj k cs J=>by
   obtain⟨m,bb,X,E,F,I,M,k5,k6,k7,k8⟩:=B j k cs J
   exact⟨m,bb,X,E,F,I,M,k5,by rw[C];exact k6,k7,λi c hi=>by obtain⟨u,e1,e2,e3⟩:=k8 i c hi;exact⟨u,e1,e2,e3.mono Y O⟩⟩⟩
 | mr g v e sz hole l=>
  obtain⟨U,hv,b,es,q,w,A,B⟩:=T
  exact⟨U,vq hv hn,b,es,q,by rw[C];exact w,A,λj k xs J=>by
   obtain⟨hr,bb,cap,Z,e1,e3,e4,e5⟩:=B j k xs J
   exact⟨hr,bb,cap,Z,e1,by rw[C];exact e3,λi row c d q1 q2=>by obtain⟨u,q3,q4⟩:=e4 i row c d q1 q2;exact⟨u,q3,q4.mono Y O⟩,e5⟩⟩
 | mj g a0 mg len Bi=>cases hc
 | rr g e sz col e2 sz2 hole xs=>
  obtain rfl:hole=none:=by simpa[Ab.canon] using hc
  obtain⟨U,V,Z,q,w,A,B⟩:=T
  refine⟨U,V,Z,q,by rw[C];exact w,λi row c d hc E F=>?_,λi row hi=>?_⟩
  ·obtain⟨u,I,M⟩:=A i row c d hc E F
   exact⟨u,I,M.mono Y O⟩
  ·obtain⟨u,E,⟨_,_,F,_⟩ | ⟨I,ys,M,k5⟩⟩:=B i row hi
   ·cases F
   ·exact⟨u,E,.inr ⟨I,ys,M,k5.mono Y O λ_ _ _=>by rw[C]⟩⟩
 | cal g W ys=>
  obtain⟨κs,q,w,A,B,h5⟩:=T
  exact⟨κs,q,w,by rw[C];exact A,B,λc hc=>O c (h5 c hc)⟩
theorem fZ{z:Cx}{h}{L:List Nat}{hc}(j:z.H=hget h)(l:Gu h L hc):∀id,1000≤id→id<1000+L.length→NA (z.view L hc) id z (CX L id):=by
 intro id _ _ o q
 obtain⟨_,_,u,_⟩:=l.get q
 exact⟨o.ren L,by rw[j];exact u,IC L o,Q4 L o,rfl,λw=>by cases o<;>first | (cases w;done) | exact⟨rfl,rfl,rfl,rfl⟩⟩
theorem nx{z:Cx}{h}{L:List Nat}{hc}(l:z.ok)(E:z.H=hget h)(J:Gu h L hc)(F:L.Nodup):(z.view L hc).ok:=by
 refine⟨l.S_lt,λb q=>?_,λb q M=>?_,λid o O=>?_,λid o b k O q=>?_,λid X o o' b k k' O u q w=>?_,λid o j b c O q=>?_,l.tabs.same rfl (λ_ h=>h)⟩
 ·rcases q with q | ⟨id,o,k,_,A,B⟩
  ·exact l.F_lt b q
  ·exact(l.own' id o b k A B).1
 ·rcases M with M | ⟨id,o,k,_,A,B⟩
  ·exact l.SF b q M
  ·exact(l.own' id o b k A B).2.1 q
 ·obtain⟨A,B,I,h4⟩:=J.get O
  obtain⟨Y,Z⟩:=l.obj _ _ (by rw[E];exact I)
  exact⟨by rwa [IC] at Y,se (x:=z) (y:=z.view L hc) (k:=L.length) rfl (λ_ h=>h) (vu _) (fZ E J) Z h4⟩
 ·obtain⟨A,B,I,h4⟩:=J.get O
  obtain⟨Y,Z,k3⟩:=l.own _ _ b k (by rw[E];exact I) q
  refine⟨Y,Z,?_⟩
  rintro(M | ⟨i2,o2,k',T,e1,e2⟩)
  ·exact k3 M
  ·exact T (l.inj' (by rw[E];exact I) e1 (.inl q) e2 ▸ WA A B)
 ·obtain⟨A,B,I,_⟩:=J.get O
  obtain⟨U,V,C,_⟩:=J.get u
  have:=l.inj _ _ _ _ b k k' (by rw[E];exact I) (by rw[E];exact C) q w
  rw[← KP F A B,this,KP F U V]
 ·obtain⟨A,B,I,h4⟩:=J.get O
  obtain⟨Y,Z,k3,k4,k5⟩:=l.ext (CX L id) _ j b c (by rw[E];exact I) q
  refine⟨Y,Z,?_,λX o' k u w=>?_,λX o' j' c' u w=>?_⟩
  ·rintro(M | ⟨i2,o2,k',T,e1,e2⟩)
   ·exact k3 M
   ·exact T (l.inj' (by rw[E];exact I) e1 (.inr ⟨j,q⟩) e2 ▸ WA A B)
  ·obtain⟨_,_,C,_⟩:=J.get u
   exact k4 _ _ k (by rw[E];exact C) w
  ·obtain⟨U,V,C,_⟩:=J.get u
   obtain⟨e1,e2⟩:=k5 _ _ j' c' (by rw[E];exact C) w
   exact⟨by rw[← KP F U V,e1,KP F A B],e2⟩
def Cx.back(z y:Cx)(L:List Nat)(hc h:AO):Cx:=
 { w:=y.w,S:=y.S,F:=z.F,H:=hget (FN L hc 1000 L++h),β:=λi=>if i∈L then y.β (EA L i) else z.β i,K:=λi=>if i∈L then y.K (EA L i) else z.K i,n:=y.n }
theorem dX{z y:Cx}{h hc}{L:List Nat}(j:L.Nodup)(w:y.H=hget hc):∀id,1000≤id→id<1000+L.length→NA (z.back y L hc h) (CX L id) y id:=by
 intro id q u o B
 have A:=WA q u
 have l:hget (FN L hc 1000 L++h) (CX L id)=some o:=B
 rw[ed,vh A,show 1000+L.idxOf (CX L id)=EA L (CX L id) from rfl,KP j q u,v8] at l
 obtain⟨o2,C,rfl⟩:=l
 refine⟨o2,by rw[w];exact C,(IC L o2).symm,(Q4 L o2).symm,?_,λE=>?_⟩
 ·show y.β id=if CX L id∈L then y.β (EA L (CX L id)) else _
  rw[vh A,KP j q u]
 ·have F:y.K id=(z.back y L hc h).K (CX L id):=by
   show y.K id=if CX L id∈L then y.K (EA L (CX L id)) else _
   rw[vh A,KP j q u]
  rw[F]
  cases o2<;>first | (cases E;done) | exact⟨rfl,rfl,rfl,rfl⟩
theorem ne{z y:Cx}{h hc q}{L:List Nat}(T:z.ok)(M:z.H=hget h)(hs:Gu h L hc)(ah:L.Nodup)(C:(z.view L hc).le y)(B:y.ok)(F:y.H=hget q)(ag:IX L.length q=true) :
  z.le (z.back y L q h)∧(z.back y L q h).ok:=by
 have ae:y.F=(z.view L hc).F:=C.F
 have A:∀i o,hget (FN L q 1000 L++h) i=some o→(i∈L∧∃o2,hget q (EA L i)=some o2∧o=o2.ren L)∨(i ∉ L∧hget h i=some o):=by
  intro i o ho
  rw[ed] at ho
  split at ho
  ·rename_i l
   rw[v8] at ho
   obtain⟨o2,u,k2⟩:=ho
   exact .inl ⟨l,o2,u,k2.symm⟩
  ·rename_i l;exact .inr ⟨l,ho⟩
 have Z:∀id I b k,id ∉ L→z.H id=some I→z.atk id b k→y.F b:=λid I b k U E h3=>by rw[ae];exact .inr ⟨id,I,k,U,E,h3⟩
 have ab:∀i,i∈L→(z.back y L q h).β i=y.β (EA L i):=λi l=>vh l
 have ac:∀i,i ∉ L→(z.back y L q h).β i=z.β i:=λi l=>vg l
 have a0:∀i,i∈L→(z.back y L q h).K i=y.K (EA L i):=λi l=>vh l
 have a1:∀i,i ∉ L→(z.back y L q h).K i=z.K i:=λi l=>vg l
 have a2:∀i,i∈L→∀b k,(z.back y L q h).atk i b k→y.atk (EA L i) b k:=λi l b k ha=>by unfold Cx.atk at ha ⊢;rwa [ab i l,a0 i l] at ha
 have a6:∀i,i ∉ L→∀b k,(z.back y L q h).atk i b k→z.atk i b k:=λi l b k ha=>by unfold Cx.atk at ha ⊢;rwa [ac i l,a1 i l] at ha
 have a7:z.le (z.back y L q h):=by
  refine⟨C.size,C.os,C.tape,C.output,λb hb=>C.blk b (hb.imp id (λh=>Or.inl h)),λb h=>C.S b h,rfl,C.n,λid O af hg=>?_,λid O af hf hg hv=>?_⟩
  ·rcases A id O af with ⟨l,o2,u,rfl⟩ | ⟨l,u⟩
   ·rw[IC,show(o2.ren L).isCal=o2.isCal from T6 (Q4 L o2)] at hg
    obtain⟨o,Y,e2,e3,e4⟩:=C.H (EA L id) o2 (by rw[F];exact u) hg
    obtain⟨_,_,e5,_⟩:=hs.get Y
    rw[NU l] at e5
    refine⟨o.ren L,by rw[M];exact e5,by rw[IC,IC];exact e2,by rw[Q4,Q4];exact e3,?_⟩
    rw[ab id l,e4]
    show z.β (CX L (EA L id))=z.β id
    rw[NU l]
   ·exact⟨O,by rw[M];exact u,rfl,rfl,ac id l⟩
  ·rcases A id O af with ⟨l,o2,u,rfl⟩ | ⟨l,u⟩
   ·rw[IC] at hg
    have hr:∀o:Ab,(o.ren L).isFam=o.isFam∧(o.ren L).ver=o.ver∧(o.ren L).kshape=o.kshape:=λo=>by cases o<;>exact⟨rfl,rfl,rfl⟩
    rw[(hr o2).1] at hf
    rw[(hr o2).2.1] at hv
    obtain⟨o,Y,e0,e2,e3,e4,e6⟩:=C.K (EA L id) o2 (by rw[F];exact u) hf hg hv
    obtain⟨_,_,e5,_⟩:=hs.get Y
    rw[NU l] at e5
    refine⟨o.ren L,by rw[M];exact e5,by rw[(hr o).1];exact e0,by rw[IC,IC];exact e2,by rw[(hr o).2.1,(hr o2).2.1];exact e3,by rw[(hr o).2.2,(hr o2).2.2];exact e4,?_⟩
    rw[a0 id l,e6]
    show z.K (CX L (EA L id))=z.K id
    rw[NU l]
   ·exact⟨O,by rw[M];exact u,hf,rfl,rfl,rfl,a1 id l⟩
 have a8:∀i i' o O b k k',hget (FN L q 1000 L++h) i=some o→hget (FN L q 1000 L++h) i'=some O→(z.back y L q h).atk i b k→(z.back y L q h).atk i' b k'→i=i':=by
  intro id J o O b k k' U V E w
  rcases A id o U with ⟨l,o2,u,rfl⟩ | ⟨l,u⟩<;>rcases A J O V with ⟨X,ak,aa,rfl⟩ | ⟨X,aa⟩
  ·have:=B.inj' (by rw[F];exact u) (by rw[F];exact aa) (a2 id l b k E) (a2 J X b k' w)
   rw[← NU l,this,NU X]
  ·exact absurd (Z J O b k' X (by rw[M];exact aa) (a6 J X b k' w)) (B.own' _ _ b k (by rw[F];exact u) (a2 id l b k E)).2.2
  ·exact absurd (Z id o b k l (by rw[M];exact u) (a6 id l b k E)) (B.own' _ _ b k' (by rw[F];exact aa) (a2 J X b k' w)).2.2
  ·exact T.inj' (by rw[M];exact u) (by rw[M];exact aa) (a6 id l b k E) (a6 J X b k' w)
 have ad:∀id I b k,hget (FN L q 1000 L++h) id=some I→(z.back y L q h).atk id b k→b<y.w.heap.size∧¬ y.S b∧¬ z.F b:=by
  intro id I b k U E
  rcases A id I U with ⟨l,o2,u,rfl⟩ | ⟨l,u⟩
  ·obtain⟨Y,e2,e3⟩:=B.own' (EA L id) o2 b k (by rw[F];exact u) (a2 id l b k E)
   exact⟨Y,e2,λhf=>e3 (by rw[ae];exact .inl hf)⟩
  ·have E:=a6 id l b k E
   obtain⟨Y,e2,e3⟩:=T.own' id I b k (by rw[M];exact u) E
   exact⟨vq Y C.size,λai=>B.SF b ai (Z id I b k l (by rw[M];exact u) E),e3⟩
 refine⟨a7,B.S_lt,λb hb=>vq (T.F_lt b hb) C.size,λb hb hf=>?_,λid I aj=>?_,λid I b k U E=>ad id I b k U (.inl E),λid J o O b k k' U V E w=>a8 id J o O b k k' U V (.inl E) (.inl w),λid I j b c U E=>?_,T.tabs.le a7⟩
 ·exact B.SF b hb (by rw[ae];exact .inl hf)
 ·rcases A id I aj with ⟨l,o2,u,rfl⟩ | ⟨l,u⟩
  ·obtain⟨Y,e2⟩:=B.obj (EA L id) o2 (by rw[F];exact u)
   rw[ab id l,a0 id l,IC]
   exact⟨Y,qI (x:=y) (y:=z.back y L q h) (k:=L.length) rfl (λ_ h=>h) (vu _) (dX ah F) e2 (mN ag u).2.2⟩
  ·obtain⟨Y,e2⟩:=T.obj id I (by rw[M];exact u)
   rw[ac id l,a1 id l]
   exact⟨vq Y C.n,e2.mono a7 (λb k hb=>C.blk b (.inr (.inr ⟨id,I,k,l,by rw[M];exact u,.inl hb⟩))) λj b k hb=>C.blk b (.inr (.inr ⟨id,I,k,l,by rw[M];exact u,.inr ⟨j,hb⟩⟩))⟩
 ·obtain⟨Y,e2,e3⟩:=ad id I b c U (.inr ⟨j,E⟩)
  refine⟨Y,e2,e3,λJ O k V w=>?_,λJ O j' c' V w=>?_⟩
  ·have:=a8 id J I O b c k U V (.inr ⟨j,E⟩) (.inl w)
   subst this
   rcases A id I U with ⟨l,o2,u,rfl⟩ | ⟨l,u⟩
   ·rw[a0 id l] at E;rw[ab id l] at w
    exact(B.ext (EA L id) o2 j b c (by rw[F];exact u) E).2.2.2.1 _ o2 k (by rw[F];exact u) w
   ·rw[a1 id l] at E;rw[ac id l] at w
    exact(T.ext id I j b c (by rw[M];exact u) E).2.2.2.1 _ I k (by rw[M];exact u) w
  ·have:=a8 id J I O b c c' U V (.inr ⟨j,E⟩) (.inr ⟨j',w⟩)
   subst this
   refine⟨rfl,?_⟩
   rcases A id I U with ⟨l,o2,u,rfl⟩ | ⟨l,u⟩
   ·rw[a0 id l] at E w
    exact((B.ext (EA L id) o2 j b c (by rw[F];exact u) E).2.2.2.2 _ o2 j' c' (by rw[F];exact u) w).2
   ·rw[a1 id l] at E w
    exact((T.ext id I j b c (by rw[M];exact u) E).2.2.2.2 _ I j' c' (by rw[M];exact u) w).2
section
variable{P:Program}{ops:Array Oper}{rest:List Oper}{s:St}{K:St→Prop}{o:Oper}
def Jw(R:AX)(L:List Nat):List Operand→List AV→Prop
 | [],[]=>True
 | x::xs,b::j=>((Ev true R x (ren L b)∧b.canon L.length=true)∨(Ev true R x (.cst (.slice none 0 0))∧b=.r (.sl [])))∧Jw R L xs j
 | _,_=>False
theorem Jw.get{R}{L:List Nat}{xs:List Operand}{bs:List AV}(j:Jw R L xs bs) :
  xs.length=bs.length∧∀(i:Nat) (b:AV),bs[i]?=some b→∃x,xs[i]?=some x∧((Ev true R x (ren L b)∧b.canon L.length=true)∨(Ev true R x (.cst (.slice none 0 0))∧b=.r (.sl []))):=by
 induction xs generalizing bs with
 | nil=>cases bs with | nil=>exact⟨rfl,by simp⟩ | cons _ _=>exact j.elim
 | cons x l u=>
  cases bs with
  | nil=>exact j.elim
  | cons b m=>
   obtain⟨w,A⟩:=u j.2
   refine⟨by simp[w],λi c q=>?_⟩
   cases i with
   | zero=>simp at q;subst q;exact⟨x,rfl,j.1⟩
   | succ i=>simpa using A i c (by simpa using q)
theorem Wh{f}{fo}{xs:Array Operand}{a0}{caps bs:List AV}{L:List Nat}{hc}{w}{R}{h}{a:Act}{z:Cx}
 (ho:o.op=.call { callee := .value fo, args := xs, argTypes := a0 }) (a1:Ev true R fo (.fn f (FF L caps))) (a2:GL L.length caps=true) (hx:Jw R L xs.toList bs) (A:Gu h L hc) (B:L.Nodup)
 (q:Bb P f L.length (bs++caps) hc w) (T:z.ok) (hH:z.H=hget h) (he:B6 z R a) (K:Act→World→Prop) (Q:Exit→Act→World→Prop)
 (hK:∀(u:Value) (y:Cx) (r:AV) (O:AO), z.le y→y.ok→y.H=hget (FN L O 1000 L++h)→AP y (ren L r) u→w r O→K (a.put o.dst u) y.w):o.wp P a z.w K Q := by
  obtain⟨C, q⟩ := q
  obtain⟨j, E⟩ := hx.get
  have hv := a1.rep he rfl
  generalize a6:a.eval fo=v at hv
  cases hv with
  | @fn _ _ us hl U =>
    have V := Nq C ho a6 z.w
    rw[HZ] at hl
    have X:∀ {b:AV} {u:Value}, AP z (ren L b) u→b.canon L.length=true→AP (z.view L hc) b u := λ{b u} F h2 => YR (x := z) (y := z.view L hc) (L := L) (k := L.length) rfl (λ_ h => h) (vu _) (fZ hH A) F b rfl h2
    have I:H9 (z.view L hc) (bs++caps) (xs.map a.eval++us).toList := by
      refine⟨by simp[hl];simpa using j, λi b u F h2 => ?_⟩
      have l:((xs.toList.map a.eval)++us.toList)[i]?=some u := by simpa using h2
      by_cases hi:i<bs.length
      · rw[wO hi] at F
        obtain⟨x, k1, J⟩ := E i b F
        rw[wO (by simp at j ⊢;omega), wD, k1] at l
        simp only[xD, vz] at l
        subst l
        rcases J with ⟨J, k3⟩ | ⟨J, rfl⟩
        · exact X (J.rep he rfl) k3
        · have := J.rep he rfl
          generalize a.eval x=v at this ⊢
          cases this;exact .r .snil
      · rw[wN (by omega)] at F
        rw[wN (by simp at j ⊢;omega)] at l
        have a7:(xs.toList.map a.eval).length=bs.length := by simpa using j
        rw[a7] at l
        exact X (U _ (ren L b) u (by rw[Ie, F];rfl) (by simpa using l)) (In a2 F)
    unfold Oper.wp
    rw[V]
    refine(q (z.view L hc) _ (nx T hH A B) rfl I).mono λe w' ⟨u, y, r, O, he', a8, aa, Y, Z, ab, ac, ad, M⟩ => ?_
    subst he'
    subst a8
    obtain⟨k1, J⟩ := ne T hH A B aa Y Z ad
    exact hK u (z.back y L O h) r O k1 J rfl (gH (x := y) (y := z.back y L O h) (L := L) (k := L.length) rfl (λ_ h => h) (vu _) (dX B Z) ab ac) M
theorem vG{d}{f}{fo}{xs:Array Operand}{F}{caps bs}(L:List Nat){hc}{j}(hg:o.guard=none)(hd:o.dst=some d)(hN:Nat.blt d s.N=true)
 (ho:o.op=.call { callee := .value fo, args := xs, argTypes := F }) (I:Ev true s.e fo (.fn f (FF L caps))) (J:GL L.length caps=true) (hx:Jw s.e L xs.toList bs) (M:Gu s.h L hc) (O:L.Nodup)
 (q:Bb P f L.length (bs++caps) hc j)
 (hr:∀r E n', j r E→AL P ops rest { e := (d, ren L r)::s.e, h := FN L E 1000 L++s.h, n := n', N := s.N } K):AL P ops (o::rest) s K := by
  intro c0 a w ⟨_, A, hsz, y, T, U, V, hH, hn, he⟩ Q hQ
  subst T
  refine wpList_plain hg λK' X => ?_
  refine Wh ho I J hx M O q V hH he K' Q λu z r E B C Y Z l => ?_
  refine X _ _ ?_
  have a0:d<a.tmps.size := by rw[hsz];exact Cn hN
  rw[hd]
  exact hr r E z.n l c0 (a.put (some d) u) z.w ⟨_, A, by simpa[Act.put] using hsz, z, rfl, U.trans B, C, Y, rfl, (he.mono B).put a0 Z⟩ Q hQ
def IN(P:Program):ResultVar→St→AV→Prop
 | .tmp t,s,r=>get s.e t=r
 | .cell a t,s,r=>(Bd P t∧∃id g e,get s.e a=.ptr id g 0 0∧hget s.h id=some (.box g e [r]))∨∃j,r=.agg j∧Bf P t j.length∧∃id g e,get s.e a=.ptr id g 0 0∧hget s.h id=some (.box g e j)
def NZ(P:Program):List ResultVar→St→List AV→Prop
 | [],_,[]=>True
 | x::l,s,r::j=>IN P x s r∧NZ P l s j
 | _,_,_=>False
def Jm(P:Program)(j:List ResultVar)(s:St)(r:AV):Prop:=match j with
 | [x]=>IN P x s r
 | _=>∃l,r=.tup l∧NZ P j s l
def TB(P:Program)(q:List ResultVar)(k:Nat)(j:AV→AO→Prop):Exit→St→Prop
 | .normal,s | .ret,s=>∃r l,Jm P q s r∧P8 l s.h∧r.canon k=true∧IX k l=true∧j r l
 | _,_=>False
def Fy(tmps:Array Value):ResultVar→Sem Value
 | .tmp t=>pure (tmps.getD t undef)
 | .cell a t=>do loadVar t (← asAddr (tmps.getD a undef))
theorem Sj{fn:Func}{tmps}{w}(us:List Value)(q:∀(i:Nat) (x:ResultVar),fn.results[i]?=some x→∃u,us[i]?=some u∧(Fy tmps x).run P w=.ok u w)(j:us.length=fn.results.size) :
  (results fn tmps).run P w=.ok (if h:us.toArray.size=1 then us.toArray[0] else .tuple us.toArray) w:=by
 have key:∀(l:List ResultVar) (us:List Value),us.length=l.length→(∀(i:Nat) (x:ResultVar),l[i]?=some x→∃u,us[i]?=some u∧(Fy tmps x).run P w=.ok u w) →
   (l.mapM (m:=Sem) (Fy tmps)).run P w=.ok us w:=by
  intro l
  induction l with
  | nil=>intro us j _;simp at j;subst j;rfl
  | cons x l C=>
   intro us j q
   cases us with
   | nil=>simp at j
   | cons u us=>
    obtain⟨O,A,E⟩:=q 0 x rfl
    simp at A
    subst A
    have F:=C us (by simpa using j) (λi y I=>by simpa using q (i+1) y (by simpa using I))
    simp only[List.mapM_cons,Sem.run_bind,Sem.run_pure,Result.andThen_ok,F,E]
 have J:=key fn.results.toList us (by simpa using j) (λi x M=>q i x (by simpa using M))
 have A:(results fn tmps)=(do
   let B ← fn.results.mapM (m:=Sem) (Fy tmps)
   pure (if h:B.size=1 then B[0] else .tuple B)):=by
  unfold results
  congr 1
 rw[A,← Array.toArray_toList (xs:=fn.results),List.mapM_toArray]
 simp only[Sem.run_bind,Sem.run_map,J]
 rfl
theorem IN.rep{y:Cx}(hok:y.ok){s:St}(hH:y.H=hget s.h){a:Act}(he:B6 y s.e a){x:ResultVar}{r:AV}(hr:IN P x s r):∃u,AP y r u∧(Fy a.tmps x).run P y.w=.ok u y.w:=by
 cases x with
 | tmp t=>exact⟨_,by have:=he t;rwa [show get s.e t=r from hr] at this,rfl⟩
 | cell c t=>
  rcases hr with ⟨ht,id,g,e,h1,h2⟩ | ⟨cs,rfl,ht,id,g,e,h1,h2⟩
  rotate_left
  ·have hHid:y.H id=some (.box g e cs):=by rw[hH];exact h2
   have h0:=he c
   rw[h1] at h0
   obtain⟨b,cur,k1,k2,k3,k4,k5⟩:=IQ hok hHid h0
   have hcell:∀j,j<cs.length→y.w.cell? ⟨b,0+j,none⟩=some ((λj=>cur.getD j undef) j):=by
    intro j hj
    have hj':j<cur.size:=by omega
    rw[wK,cell_of_row _ b j cur e _ k3]
    simp[hj']
   refine⟨.agg ((List.range cs.length).map λj=>cur.getD j undef).toArray,LV rfl _ λj a hj=>?_,?_⟩
   ·obtain⟨u,h6,_,h7⟩:=k5 _ _ hj
    obtain⟨h8,h9⟩:=wm.1 h6
    simpa[h8,h9] using h7
   ·have hrun:=Kq (P:=P) ht (w:=y.w) (b:=b) (k:=0) (λj=>cur.getD j undef) hcell
    simp only[Fy,k2]
    simpa[asAddr,Instr.loadAt,Instr.sureAddr] using hrun
  have hHid:y.H id=some (.box g e [r]):=by rw[hH];exact h2
  have h0:=he c
  rw[h1] at h0
  obtain⟨b,cur,k1,k2,k3,k4,k5⟩:=IQ hok hHid h0
  obtain⟨u,h6,_,h7⟩:=k5 0 r rfl
  refine⟨u,h7,?_⟩
  obtain⟨d,i,e1,e2,_,_⟩:=ht
  have hcell:=(cell_of_row _ b 0 cur e _ k3).trans h6
  simp only[Fy,k2]
  simp[asAddr,loadVar,J0 e1,e2,hcell]
theorem NZ.get{j:List ResultVar}{s}{l:List AV}(h:NZ P j s l):j.length=l.length∧∀(i:Nat) (x:ResultVar),j[i]?=some x→∃r,l[i]?=some r∧IN P x s r:=by
 induction j generalizing l with
 | nil=>cases l with | nil=>exact⟨rfl,by simp⟩ | cons _ _=>exact h.elim
 | cons x j u=>
  cases l with
  | nil=>exact h.elim
  | cons r l=>
   obtain⟨w,A⟩:=u h.2
   refine⟨by simp[w],λi y q=>?_⟩
   cases i with
   | zero=>simp at q;subst q;exact⟨r,rfl,h.1⟩
   | succ i=>simpa using A i y (by simpa using q)
theorem Yu{fn:Func}{y:Cx}{s:St}{a:Act}{r}(J:y.ok)(hH:y.H=hget s.h)(he:B6 y s.e a)(w:Jm P fn.results.toList s r):∃u,(results fn a.tmps).run P y.w=.ok u y.w∧AP y r u:=by
 by_cases B:fn.results.toList.length=1
 ·obtain⟨x0,M⟩:=List.length_eq_one_iff.1 B
  rw[M] at w
  obtain⟨u,hr,C⟩:=IN.rep (P:=P) J hH he (show IN P x0 s r from w)
  have q:=Sj (P:=P) (fn:=fn) (tmps:=a.tmps) (w:=y.w) [u] (λi x X=>by
   have j:fn.results.toList[i]?=some x:=by simpa using X
   rw[M] at j
   cases i with
   | zero=>simp at j;subst j;exact⟨u,rfl,C⟩
   | succ i=>simp at j) (by rw[← wV,B];rfl)
  exact⟨_,q,hr⟩
 ·have a0:∃l,r=.tup l∧NZ P fn.results.toList s l:=by
   revert w B
   generalize fn.results.toList=rs
   intro w B
   match rs,B,w with
   | [],_,w=>exact w
   | [_],B,_=>exact absurd rfl B
   | _::_::_,_,w=>exact w
  obtain⟨l,rfl,O⟩:=a0
  obtain⟨hl,hg⟩:=O.get
  have E:∀i,i<l.length→∃u,∀x r,fn.results.toList[i]?=some x→l[i]?=some r→AP y r u∧(Fy a.tmps x).run P y.w=.ok u y.w:=by
   intro i X
   have T:i<fn.results.toList.length:=by omega
   obtain⟨r,Y,h3⟩:=hg i _ (vo T)
   obtain⟨u,h4,h5⟩:=IN.rep J hH he h3
   refine⟨u,λx r' U Z=>?_⟩
   rw[vo T] at U;cases U
   rw[Y] at Z;cases Z
   exact⟨h4,h5⟩
  obtain⟨I,F,V⟩:=Wi l.length E
  have hsz:I.length=fn.results.size:=by rw[F,← hl,wV]
  have q:=Sj (P:=P) (fn:=fn) (tmps:=a.tmps) (w:=y.w) I (λi x X=>by
   have j:fn.results.toList[i]?=some x:=by simpa using X
   obtain⟨r,Y,_⟩:=hg i x j
   have A:i<I.length:=by rw[F];exact(vl.1 Y).1
   exact⟨I[i],vo A,(V i _ (vo A) x r j Y).2⟩) hsz
  have a1:¬ I.toArray.size=1:=by
   rw[yS,hsz]
   exact λe=>B (by rw[wV];exact e)
  rw[dif_neg a1] at q
  refine⟨_,q,.tup (by rw[yS,F]) λi c u U Z=>?_⟩
  have k3:I[i]?=some u:=by simpa using Z
  have A:i<fn.results.toList.length:=by rw[hl];exact(vl.1 U).1
  exact(V i u k3 _ c (vo A) U).1
theorem Bb.mk {f} {fn : Func} {code} {args : List AV} {k N} {hc} {w} (hf : P.funcs[f]? = some fn) (hb : fn.body = some code) (I : (fn.name == "runtime.NumGoroutine") = false) (hN : fn.ntmps = N)
 (a1:args.length≤N) (hw:∀n0, AW P code (TB P fn.results.toList k w) ⟨DW 0 args, hc, n0, N⟩):Bb P f k args hc w := by
  refine⟨⟨fn, hf, by rw[hb];rfl, I⟩, λx F M hH B => ?_⟩
  have a0:F.size=args.length := by simpa using B.1
  have O:EU x ⟨DW 0 args, hc, x.n, N⟩ { tmps := F++Array.replicate (fn.ntmps - F.size) undef, defers := [] } x.w := by
    refine⟨_, rfl, by simp;omega, x, rfl, .refl x, M, hH, rfl, λt => ?_⟩
    rcases TP args 0 t with Z | ⟨j, a, Z, h2, h3⟩
    · rw[Z];exact .any _
    · rw[h3]
      have hj:j<F.size := by rw[a0];exact(vl.1 h2).1
      have ht:t=j := by omega
      subst ht
      have:(F++Array.replicate (fn.ntmps - F.size) undef).getD t undef=F[t] := by
        simp[Array.getD, hj]
        omega
      rw[this]
      exact B.2 t a F[t] h2 (by simp[hj])
  have T:∀ {e:Exit} {a:Act} {y:Cx} {s:St}, (∃r A, Jm P fn.results.toList s r∧P8 A s.h∧r.canon k=true∧IX k A=true∧w r A)→x.le y→y.ok→y.H=hget s.h→y.n=s.n→B6 y s.e a →
      ∃u, (results fn a.tmps).run P y.w=.ok u y.w∧∃u' U r A, Ending.returned u=.returned u'∧U.w=y.w∧x.le U∧U.ok∧U.H=hget A∧AP U r u'∧r.canon k=true∧IX k A=true∧w r A := by
    intro e a y s ⟨r, A, Z, h2, h3, h4, h5⟩ E q C _ he
    obtain⟨u, V, hu⟩ := Yu (P := P) q C he Z
    have X:∀id o, hget A id=some o→y.H id=some o := by
      intro id o ho
      rw[C]
      rcases h2.get id with e1 | e1
      · rw[e1] at ho;cases ho
      · rw[← e1];exact ho
    obtain⟨k1, k2⟩ := iF q (hget A) X y.n (vu _)
    exact⟨u, V, u, { y with H := hget A, n := y.n }, r, A, rfl, rfl, E.trans k1, k2, rfl, hu.mono k1, h3, h4, h5⟩
  refine RA hf hb M O (hw x.n) λe s a y J E q C Y he => ?_
  cases e with
  | normal => exact⟨.inl rfl, T (e := .normal) J E q C Y he⟩
  | ret => exact⟨.inr rfl, T (e := .ret) J E q C Y he⟩
  | exit id => exact J.elim
  | goto l => exact J.elim
  | panic ch => exact J.elim
  | outgrown => exact J.elim
end
section
variable{P:Program}{ops:Array Oper}{rest:List Oper}{s:St}{K:St→Prop}{o:Oper}
def AT(P:Program)(ops:Array Oper)(rest:List Oper)(s:St)(K:St→Prop):Prop:=
 ∀(y:Cx) (a:Act),y.ok→y.H=hget s.h→y.n=s.n→a.tmps.size=s.N→B6 y s.e a→∀q:Act→Prop,
  (∀j l,K j→j.h=s.h→j.n=s.n→j.N=s.N→l.tmps.size=s.N→l.defers=a.defers→B6 y j.e l→q l)→wpStill P ops y.w q rest a
theorem AT.nil(h:K s):AT P ops [] s K:=λ_ a _ _ _ j l _ q=>wpStill_nil (q s a h rfl rfl rfl j rfl l)
theorem AT.step{d}{v}(hg:o.guard=none)(hd:o.dst=some d)(C:Nat.blt d s.N=true)(E:AR P true o s.e s.h v)
 (F:AT P ops rest { e := (d, v)::s.e, h := s.h, n := s.n, N := s.N } K):AT P ops (o::rest) s K := by
  intro y a j A I hsz B J M
  obtain⟨u, l, O⟩ := E rfl y a j A B
  have q:d<a.tmps.size := by rw[hsz];exact Cn C
  refine wpStill_step λK' w => ?_
  rw[vh (by simp[Region.wanted, hg])]
  unfold Oper.still
  rw[l y.w λ_ _ => rfl, Oper.stillUpon_value]
  refine w _ ?_
  rw[hd]
  exact F y (a.put (some d) u) j A I (by simpa[Act.put] using hsz) (B.put q O) J λT U V X Y Z k5 k6 k7 => M T U V X Y Z k5 k6 k7
theorem Q1{y:Cx}(j:y.ok):y.le { y with w:={ y.w with drawn:=y.w.drawn+1 } } ∧ ({ y with w:={ y.w with drawn:=y.w.drawn+1 } } : Cx).ok:=by
 have l:y.le { y with w:={ y.w with drawn:=y.w.drawn+1 } }:=⟨vu _,rfl,rfl,rfl,λ_ _=>rfl,λ_ h=>h,rfl,vu _,λ_ o h _=>⟨o,h,rfl,rfl,rfl⟩,λid o h q _ _=>⟨o,h,q,rfl,rfl,rfl,rfl⟩⟩
 refine⟨l,j.S_lt,j.F_lt,j.SF,λid o u=>?_,j.own,j.inj,j.ext,j.tabs.le l⟩
 obtain⟨w,A⟩:=j.obj id o u
 exact⟨w,A.mono l (λ_ _ _=>rfl) λ_ _ _ _=>rfl⟩
theorem Nj{id}{l F I:List Oper}{Q} n(V:P.follows .mixedOrders=true)(hB:Region.lexTailB .any l.toArray n=true)(X:l.take n=F)(Y:l.drop n=I)
 (h:AT P l.toArray F s (λJ => AL P l.toArray I J (Q .normal))):AW P (.region id l.toArray true) Q s := by
  intro z0 q Z a w ⟨_, j, hsz, y, u, A, B, M, O, he⟩
  subst u
  subst X;subst Y
  obtain⟨T, U⟩ := Q1 B
  refine tq Jz n V hB q ?_
  refine h _ a U M O hsz (he.mono T) _ λJ a' k1 k2 k3 k4 k5 k6 k7 => ?_
  exact k1 Z a' _ ⟨_, k6.trans j, by rw[k5, k4], _, rfl, A.trans T, U, by rw[k2];exact M, by rw[k3];exact O, k7⟩ _ λC a0 a1 k E => ⟨by simp, C, k, E⟩
end
theorem vP{s:St} l j id e sz{g}{eb}{cs:List AV}(h0:0<sz)(hb:hget s.h l=some (.box g eb cs))(hj:cs[j]?=some (.cst (.slice none 0 0)))(O:id≠l) :
  Ae s ⟨s.e,(l,some (.box g eb (cs.set j (.own id s.n))))::(id,some (.arr s.n e sz []))::s.h,s.n+1,s.N⟩:=by
 intro c0 a w ⟨_,T,hsz,y,a2,U,a6,hH,J,V⟩
 have A:=EV a6 id (.arr s.n e sz []) y.w none (y.n+1) (vu _) rfl rfl rfl (λ_ _ _=>rfl) (λb k hb=>by cases hb) (by omega) (by simp[Ab.gen,J]) (λhg=>absurd hg (by simp[Ab.gen,J]))
  (λU=>⟨h0,by simp,.slice none 0 0,[],⟨rfl,rfl⟩,World.ownsRow_nil _ _ _ _,by simp⟩)
 generalize F:({ y with H:=λi=>if id=i then some (.arr s.n e sz []) else y.H i,β:=λi=>if id=i then none else y.β i,K:=λi=>if id=i then λ_=>none else y.K i,n:=y.n+1 } : Cx)=B at A
 have C:B.H=hget ((id,some (.arr s.n e sz []))::s.h):=by rw[← F];simp only[hH];exact D3 _ _ _
 have q:B.H l=some (.box g eb cs):=by rw[C,Bv,vg O];exact hb
 have Ca:B.H id=some (.arr s.n e sz []):=by rw[C,Bv,vh rfl]
 have X:B.β id=none:=by rw[← F];simp
 have I:B.n=s.n+1:=by rw[← F];simp[J]
 have Y:B.w=y.w:=by rw[← F]
 obtain⟨a7,M⟩:=A.2.obj l _ q
 have E:=EV A.2 l (.box g eb (cs.set j (.own id s.n))) B.w (B.β l) B.n (vu _) rfl rfl rfl (λ_ _ _=>rfl)
  (λb k Z=>⟨(A.2.own l _ b k q Z).1,.inr ⟨_,k,q,Z⟩⟩) (vu _) a7 (λ_=>⟨_,q,rfl,by simp[Ab.shape],rfl⟩)
  (λa0=>by
   obtain⟨b,a8,k1,k2,k3,k4⟩:=M
   refine⟨b,a8,k1,k2,by rw[k3];simp,λi c hi=>?_⟩
   by_cases a1:j=i
   ·subst a1
    obtain⟨u,e1,e2,e3⟩:=k4 j _ hj
    have aa:j<cs.length:=(vl.1 hj).1
    rw[List.getElem?_set_self aa] at hi
    cases hi
    cases e3
    refine⟨_,e1,e2,.own (by rw[I];omega) e2 λo ho _=>?_⟩
    simp only[vg (Ne.symm O)] at ho ⊢
    rw[Ca] at ho;cases ho
    rw[X]
    exact⟨rfl,rfl⟩
   ·rw[yT a1] at hi
    obtain⟨u,e1,e2,e3⟩:=k4 i c hi
    exact⟨u,e1,e2,e3.mono a0⟩)
 refine⟨_,T,hsz,_,by show B.w=w;rw[Y];exact a2,(U.trans A.1).trans E.1,E.2,?_,by show B.n=s.n+1;exact I,λt=>((V t).mono A.1).mono E.1⟩
 simp only[C]
 exact D3 _ _ _
def H1(c:Bool)(R:AX):List Operand→List AV→Prop
 | [],[]=>True
 | x::xs,b::j=>Ev c R x b∧H1 c R xs j
 | _,_=>False
theorem H1.rep{c}{R}{x}{a:Act}(hc:c=true)(w:B6 x R a){xs:List Operand}{bs:List AV}(h:H1 c R xs bs):bs.length=xs.length∧∀(i:Nat) (b:AV) (u:Value),bs[i]?=some b→(xs.map a.eval)[i]?=some u→AP x b u:=by
 induction xs generalizing bs with
 | nil=>cases bs with | nil=>exact⟨rfl,by simp⟩ | cons _ _=>exact h.elim
 | cons y l A=>
  cases bs with
  | nil=>exact h.elim
  | cons b m=>
   obtain⟨B,C⟩:=A h.2
   refine⟨by simp[B],λi E u j q=>?_⟩
   cases i with
   | zero=>simp at j q;subst j;subst q;exact h.1.rep w hc
   | succ i=>exact C i E u (by simpa using j) (by simpa using q)
theorem Pw{P}{c}{o:Oper}{R}{h}{f}{xs:Array Operand}{bs}(j:o.op=.makeFunc (.func f) #[] xs)(l:H1 c R xs.toList bs):AR P c o R h (.fn f bs):=by
 intro q y a _ _ w
 obtain⟨A,B⟩:=l.rep q w
 refine⟨.func (.func f) #[] (xs.map a.eval),λF _=>?_,.fn (by simpa using A) λi b u C E=>B i b u C (by simpa using E)⟩
 unfold execOp
 rw[j]
 simp[show ∀W,(Instr.makeFunc (Fn.func f) #[] (xs.map a.eval)).run P W=.ok (.func (.func f) #[] (xs.map a.eval)) W from λ_=>rfl]
section
variable{P:Program}{ops:Array Oper}{rest:List Oper}{s:St}{K:St→Prop}{o:Oper}
inductive CS(R:AX)(ops:Array Oper)(o:Oper):Bool→Prop
 | one {j dj:Nat} {want b:Bool} (hg:o.guard=some (j,want)) (hj:(ops[j]?).bind (·.dst)=some dj) (hb:BK R (.tmp dj)=.r (.bool b)):CS R ops o (b==want)
 | two {j dj:Nat} {want b c1:Bool} (hg:o.guard=some (j,want)) (hj:(ops[j]?).bind (·.dst)=some dj) (hb:BK R (.tmp dj)=.whn c1 (.r (.bool b))):CS R ops o (c1&&(b==want))
theorem kN{a:Act}{j q}{l}(hg:o.guard=some (j,l))(w:(ops[j]?).bind (·.dst)=some q)(u:a.tmps.getD q undef=undef):Region.wanted o (yielded ops a.tmps)=false:=by
 simp only[Region.wanted,hg,yielded]
 rw[w]
 simp only[zJ]
 by_cases hd:q<a.tmps.size
 ·have:a.tmps[q]?=some undef:=by
   rw[wS hd]
   simpa[Array.getD,hd] using u
  rw[this];rfl
 ·rw[zA (Nat.not_lt.1 hd)];rfl
theorem CS.wanted{c}{y}{a:Act}(F:CS s.e ops o c)(B:B6 y s.e a):Region.wanted o (yielded ops a.tmps)=c:=by
 cases F with
 | @one j l u b hg w A=>
  have q:=B l
  rw[show get s.e l=.r (.bool b) from A] at q
  exact fw hg w (Gp q)
 | @two j l u b C hg w A=>
  have q:=B l
  rw[show get s.e l=.whn C (.r (.bool b)) from A] at q
  generalize E:a.tmps.getD l undef=v at q
  cases q with
  | whn I J=>
   cases C with
   | true=>rw[fw hg w (E.trans (Gp (I rfl)))];rfl
   | false=>rw[kN hg w (E.trans (J rfl))];rfl
theorem AL.stepW{d}{c}{v}(hG:CS s.e ops o c)(hd:o.dst=some d)(hN:Nat.blt d s.N=true)(hs:A7 P c o s.e s.h s.n v s.h s.n)
 (U:AL P ops rest { e := (d, .whn c v)::s.e, h := s.h, n := s.n, N := s.N } K):AL P ops (o::rest) s K := by
  intro V a w ⟨_, j, hsz, y, J, l, q, X, Y, F⟩ Q Z
  subst J
  have A:d<a.tmps.size := by rw[hsz];exact Cn hN
  refine wpList_step λK' B => ?_
  rw[hG.wanted F]
  split
  · rename_i I
    refine hs I y a q X Y F K' Q λu z C E M O T => ?_
    refine B _ _ ?_
    rw[hd]
    exact U V (a.put (some d) u) z.w ⟨_, j, by simpa[Act.put] using hsz, z, rfl, l.trans C, E, M, O, (F.mono C).put A (.whn (λ_ => T) (λh => by rw[I] at h;cases h))⟩ Q Z
  · rename_i I
    refine B _ _ ?_
    rw[hd]
    exact U V (a.put (some d) undef) y.w ⟨_, j, by simpa[Act.put] using hsz, y, rfl, l, q, X, Y, F.put A (.whn (λh => absurd h I) (λ_ => rfl))⟩ Q Z
theorem AQ.stepW{d}{c}{v}(hG:CS s.e ops o c)(hd:o.dst=some d)(hN:Nat.blt d s.N=true)(hs:AR P c o s.e s.h v)
 (Z:AQ P ops rest { e := (d, .whn c v)::s.e, h := s.h, n := s.n, N := s.N } K):AQ P ops (o::rest) s K := by
  intro y a j C hn hsz A Qa hQ
  have l:d<a.tmps.size := by rw[hsz];exact Cn hN
  refine wpQuiet_step λK' q => ?_
  rw[hG.wanted A]
  split
  · rename_i B
    obtain⟨u, w, hv⟩ := hs B y a j C A
    refine⟨u, λw2 E => ?_, q _ ?_⟩
    · obtain⟨z, hz, _, _, _, _, _, _, F⟩ := E
      unfold Oper.quietAt
      rw[w w2 F]
      exact⟨rfl, rfl⟩
    · rw[hd]
      exact Z y (a.put (some d) u) j C hn (by simpa[Act.put] using hsz) (A.put l (.whn (λ_ => hv) (λh => by rw[B] at h;cases h))) Qa λI J M O T U V X Y => hQ I J M O T U V X Y
  · rename_i B
    refine q _ ?_
    rw[hd]
    exact Z y (a.put (some d) undef) j C hn (by simpa[Act.put] using hsz) (A.put l (.whn (λh => absurd h B) (λ_ => rfl))) Qa λI J M O T U V X Y => hQ I J M O T U V X Y
theorem Q2{d}{c}{f}{fo}{xs:Array Operand}{C}{caps bs}{r}{v}(hG:CS s.e ops o c)(hd:o.dst=some d)(hN:Nat.blt d s.N=true)
 (ho:o.op=.call { callee := .value fo, args := xs, argTypes := C }) (E:Ev c s.e fo (.fn f caps)) (j:Dr caps=true) (hx:Hw c s.e s.h xs.toList bs) (hr:c=true→AS P f (bs++caps) r)
 (q:Ox r=some v) (Z:AQ P ops rest { e := (d, .whn c r)::s.e, h := s.h, n := s.n, N := s.N } K):AQ P ops (o::rest) s K := by
  intro y a l F hn hsz A Qa hQ
  have u:d<a.tmps.size := by rw[hsz];exact Cn hN
  refine wpQuiet_step λK' w => ?_
  rw[hG.wanted A]
  split
  · rename_i B
    refine⟨v, AQ.call ho E j hx hr q B l F A, w _ ?_⟩
    rw[hd]
    exact Z y (a.put (some d) v) l F hn (by simpa[Act.put] using hsz) (A.put u (.whn (λ_ => gD q) (λh => by rw[B] at h;cases h))) Qa λI J M O T U V X Y => hQ I J M O T U V X Y
  · rename_i B
    refine w _ ?_
    rw[hd]
    exact Z y (a.put (some d) undef) l F hn (by simpa[Act.put] using hsz) (A.put u (.whn (λh => absurd h B) (λ_ => rfl))) Qa λI J M O T U V X Y => hQ I J M O T U V X Y
theorem AT.stepW{d}{c}{v}(hG:CS s.e ops o c)(hd:o.dst=some d)(hN:Nat.blt d s.N=true)(hs:AR P c o s.e s.h v)
 (X:AT P ops rest { e := (d, .whn c v)::s.e, h := s.h, n := s.n, N := s.N } K):AT P ops (o::rest) s K := by
  intro y a j C Y hsz A Z hQ
  have l:d<a.tmps.size := by rw[hsz];exact Cn hN
  refine wpStill_step λK' q => ?_
  rw[hG.wanted A]
  split
  · rename_i B
    obtain⟨u, w, hv⟩ := hs B y a j C A
    unfold Oper.still
    rw[w y.w λ_ _ => rfl, Oper.stillUpon_value]
    refine q _ ?_
    rw[hd]
    exact X y (a.put (some d) u) j C Y (by simpa[Act.put] using hsz) (A.put l (.whn (λ_ => hv) (λh => by rw[B] at h;cases h))) Z λE F I J M O T U V => hQ E F I J M O T U V
  · rename_i B
    refine q _ ?_
    rw[hd]
    exact X y (a.put (some d) undef) j C Y (by simpa[Act.put] using hsz) (A.put l (.whn (λh => absurd h B) (λ_ => rfl))) Z λE F I J M O T U V => hQ E F I J M O T U V
theorem IB{d}{c}{v}{h'}{n'}(T:CS s.e ops o c)(hc:c=true)(hd:o.dst=some d)
 (U:Nat.blt d s.N=true) (V:A7 P true o s.e s.h s.n v h' n') (X:AL P ops rest { e := (d, v)::s.e, h := h', n := n', N := s.N } K):AL P ops (o::rest) s K := by
  intro Y a w ⟨_, j, hsz, y, A, B, C, Z, hn, E⟩ Q hQ
  subst A
  have F:d<a.tmps.size := by rw[hsz];exact Cn U
  refine wpList_step λK' I => ?_
  rw[T.wanted E, vh hc]
  refine V rfl y a C Z hn E K' Q λu z l q J M O => ?_
  refine I _ _ ?_
  rw[hd]
  exact X Y (a.put (some d) u) z.w ⟨_, j, by simpa[Act.put] using hsz, z, rfl, B.trans l, q, J, M, (E.mono l).put F O⟩ Q hQ
end
inductive Au(β τ:Type) where
 | nrm (b:β)
 | ext (t:τ)
def AM{α:Type}(l:List α)(z:Int):Option α:=if 0≤z then l[z.toNat]? else none
def gd{α:Type}[Inhabited α](c:Bool)(m:Option α):Option α:=if c then m else some default
def AN(k:IntKind)(z:Int):Option Int:=if k.wrap z=z then some z else none
def app{α:Type}(j:Nat)(xs l:List α):Option (List α):=if(xs.length+l.length) * j≤140737488355328∧xs.length+l.length≤9223372036854775807 then some (xs++l) else none
def mk{α:Type}(j:Nat)(n:Int)(z:α):Option (List α):=if 0≤n∧n * j≤281474976710656∧n≤9223372036854775807 then some (List.replicate n.toNat z) else none
def Bx{α:Type}(l:List α)(j q:Int):Option (List α):=if 0≤j∧j≤q∧q≤l.length then some ((l.drop j.toNat).take (q.toNat-j.toNat)) else none
def FI{σ ρ:Type}(f:σ→Option (σ ⊕ ρ)):Nat→σ→Option ρ
 | 0,_=>none
 | n+1,s=>match f s with
  | some (.inl j)=>FI f n j
  | some (.inr r)=>some r
  | none=>none
open Classical in
noncomputable def iter{σ ρ:Type}(f:σ→Option (σ ⊕ ρ))(s:σ):Option ρ:=if h:∃n r,FI f n s=some r then FI f h.choose s else none
def AB{a0 α:Type}(m:Option (a0))(f:a0→Option α):Option α:=match m with | some j=>f j | none=>none
def At{a0 α:Type}(m:Option (Au (a0) α))(f:a0→Option α):Option α:=match m with | some (.nrm j)=>f j | some (.ext t)=>some t | none=>none
def CR{a0 j α:Type}(m:Option (a0 × j))(f:a0→j→Option α):Option α:=match m with | some (l,q)=>f l q | none=>none
def E1{a0 j α:Type}(m:Option (Au (a0 × j) α))(f:a0→j→Option α):Option α:=match m with | some (.nrm (l,q))=>f l q | some (.ext t)=>some t | none=>none
def HH{a0 j l α:Type}(m:Option (a0 × j × l))(f:a0→j→l→Option α):Option α:=match m with | some (q,u,w)=>f q u w | none=>none
def fP{a0 j l α:Type}(m:Option (Au (a0 × j × l) α))(f:a0→j→l→Option α):Option α:=match m with | some (.nrm (q,u,w))=>f q u w | some (.ext t)=>some t | none=>none
def qW{a0 j l a3 α:Type}(m:Option (a0 × j × l × a3))(f:a0→j→l→a3→Option α):Option α:=match m with | some (q,u,w,A)=>f q u w A | none=>none
theorem kS{a0 α:Type}{m:Option (a0)}{f:a0→Option α}{r:α}(h:AB m f=some r):∃p,m=some p∧∀j,p=j→f j=some r:=by
 cases m with
 | none=>cases h
 | some p=>exact⟨p,rfl,λj e=>by subst e;exact h⟩
theorem mq{a0 α:Type}{m:Option (Au (a0) α)}{f:a0→Option α}{r:α}(h:At m f=some r):∃o,m=some o∧(∀j,o=.nrm j→f j=some r)∧∀t,o=.ext t→some t=some r:=by
 cases m with
 | none=>cases h
 | some o=>cases o with
  | nrm p=>exact⟨_,rfl,(λj e=>by cases e;exact h),(λ_ e=>by cases e)⟩
  | ext t=>exact⟨_,rfl,(λj e=>by cases e),(λ_ e=>by cases e;exact h)⟩
theorem ri{a0 j α:Type}{m:Option (a0 × j)}{f:a0→j→Option α}{r:α}(h:CR m f=some r):∃l q,m=some (l,q)∧f l q=some r:=by
 cases m with
 | none=>cases h
 | some p=>exact⟨_,_,rfl,h⟩
theorem jM{a0 q α:Type}{m:Option (a0 × q)}{f:a0→q→Option α}{r:α}(h:CR m f=some r):∃p,m=some p∧∀j l,p=(j,l)→f j l=some r:=by
 cases m with
 | none=>cases h
 | some p=>exact⟨p,rfl,λj l e=>by subst e;exact h⟩
theorem uL{a0 q α:Type}{m:Option (Au (a0 × q) α)}{f:a0→q→Option α}{r:α}(h:E1 m f=some r):∃o,m=some o∧(∀j l,o=.nrm (j,l)→f j l=some r)∧∀t,o=.ext t→some t=some r:=by
 cases m with
 | none=>cases h
 | some o=>cases o with
  | nrm p=>exact⟨_,rfl,(λj l e=>by cases e;exact h),(λ_ e=>by cases e)⟩
  | ext t=>exact⟨_,rfl,(λj l e=>by cases e),(λ_ e=>by cases e;exact h)⟩
theorem CF{α:Type}{b:Bool}{x y z:α}(hc:b=true)(h:(if b=true then x else y)=z):x=z:=by rw[vh hc] at h;exact h
theorem CA{α:Type}{b:Bool}{x y z:α}(hc:b=false)(h:(if b=true then x else y)=z):y=z:=by rw[vg (by rw[hc];decide)] at h;exact h
theorem AU{α:Type}[Inhabited α]{c:Bool}{m:Option α}{x:α}(h:gd c m=some x):c=true→m=some x:=by intro j;subst j;exact h
theorem YN{k:IntKind}{z x}(h:AN k z=some x):k.wrap z=z∧x=z:=by
 unfold AN at h;split at h
 ·exact⟨‹_›,(wY h).symm⟩
 ·cases h
theorem Bz{z}(j : -9223372036854775808≤z)(l:z≤9223372036854775807):AN .i64 z=some z:=vh (uP j l)
section
variable{σ ρ:Type}{f:σ→Option (σ ⊕ ρ)}
theorem dN{n}{s}{r}(h:FI f n s=some r) k:FI f (n+k) s=some r:=by
 induction n generalizing s with
 | zero=>cases h
 | succ n j=>
  rw[show n+1+k=(n+k)+1 by omega]
  unfold FI at h ⊢
  split at h
  ·exact j h
  ·exact h
  ·cases h
theorem uT{n m}{s}{r q}(h:FI f n s=some r)(k:FI f m s=some q):r=q:=by
 have l:=dN h m
 have j:=dN k n
 rw[yf] at j
 rw[l] at j
 exact wY j
theorem SX{s}{r} : iter f s=some r↔∃n,FI f n s=some r:=by
 unfold iter
 constructor
 ·intro h;split at h
  ·exact⟨_,h⟩
  ·cases h
 ·rintro⟨n,h⟩
  have j:∃n r,FI f n s=some r:=⟨n,r,h⟩
  rw[dif_pos j]
  obtain⟨q,l⟩:=j.choose_spec
  rw[l,uT l h]
theorem Cv{s}{r}(h:f s=some (.inr r)):iter f s=some r:=SX.2 ⟨1,by unfold FI;rw[h]⟩
theorem Dx{s s'}(h:f s=some (.inl s')):iter f s=iter f s':=by
 apply Option.ext
 intro r
 rw[SX,SX]
 constructor
 ·rintro⟨n,j⟩
  cases n with
  | zero=>cases j
  | succ n=>unfold FI at j;rw[h] at j;exact⟨n,j⟩
 ·rintro⟨n,j⟩;exact⟨n+1,by unfold FI;rw[h];exact j⟩
theorem Yr(I:σ→Prop)(μ:σ→Nat)(Q:ρ→Prop)(h:∀s,I s→(∃j,f s=some (.inl j)∧I j∧μ j<μ s)∨∃r,f s=some (.inr r)∧Q r){s}(u:I s):∃r,iter f s=some r∧Q r:=by
 generalize A:μ s=m
 induction m using Nat.strongRecOn generalizing s with
 | _ m w=>
  rcases h s u with ⟨j,l,q,B⟩ | ⟨r,l,q⟩
  ·rw[Dx l];exact w _ (by omega) q rfl
  ·exact⟨r,Cv l,q⟩
theorem AW.iter{P}{Q}{s}{x}{a0}{o}(R:σ→St→Prop)(hit:Al.iter f a0=some o)(O:∃M, Ae s M∧R a0 M)
 (round:∀a w v, R a w→f a=some v→(∀q, v=.inr q→o=q)→AW P x (E6 (λB => ∃C, v=.inl C∧∃j, Ae B j∧R C j) Q) w):AW P (.loop x) Q s := by
  obtain⟨n, T⟩ := SX.1 hit
  obtain⟨U, E, F⟩ := O
  refine AW.loop (λm w => ∃a, R a w∧FI f m a=some o) n ⟨U, E, a0, F, T⟩ ?_
  rintro m w ⟨a, V, u⟩
  cases m with
  | zero => cases u
  | succ m =>
    cases I:f a with
    | none => unfold FI at u;rw[I] at u;cases u
    | some v =>
      unfold FI at u
      rw[I] at u
      refine(round a w v V I ?_).mono λe B A => ?_
      · rintro q rfl;exact(wY u).symm
      · cases e with
        | normal =>
          obtain⟨C, rfl, j, X, J⟩ := A
          exact⟨m, yp m, j, X, C, J, u⟩
        | exit i => exact A
        | goto l => exact A
        | ret => exact A
        | panic Y => exact A
        | outgrown => exact A
end
@[reducible] def Ai(k:IntKind)(n:Int):List RV:=[.int k n]
@[reducible] def EZ(b:Bool):List RV:=[.bool b]
@[reducible] def D4{α:Type}(f:α→List RV)(l:List α):List RV:=[.sl (l.map f)]
theorem Ej{α:Type}{l:List α}{z:Int}{a}(h:AM l z=some a):0≤z∧l[z.toNat]?=some a∧z<l.length:=by
 unfold AM at h
 split at h
 ·have:=(vl.1 h).1
  exact⟨‹_›,h,by omega⟩
 ·cases h
theorem Oy{α:Type}{l w:List α}{j q:Int}(h:Bx l j q=some w):0≤j∧j≤q∧q≤l.length∧w=(l.drop j.toNat).take (q.toNat-j.toNat):=by
 unfold Bx at h
 split at h
 ·rename_i u;exact⟨u.1,u.2.1,u.2.2,(wY h).symm⟩
 ·cases h
section
variable{P:Program}{c:Bool}{o:Oper}{R:AX}{h:AO}{n:Nat}{α:Type}{f:α→List RV}
theorem Az{t e}{sz}{x y}{l:List α}{k}{z}{a}(w:o.op=.indexAddr t x y)(A:EO P t e sz)(B:Ev c R x (.r (.sl (l.map f))))(C:Ev c R y (.r (.int k z)))
 (j:∀a, (f a).length=sz) (u:c=true→AM l z=some a):AR P c o R h (.rop (f a) 0) :=
  Yc w A B C (λq => (Ej (u q)).1) (λq => by rw[wD, (Ej (u q)).2.1];rfl) (j a)
theorem FY{t e e'}{sz}{x y}{id g}{l:List α}{k}{z:Int}{a}(u:o.op=.indexAddr t x y)(w:EO P t e sz)(A:Ev c R x (.own id g))
 (B:hget h id=some (.arr g e' sz (l.map f))) (C:Ev c R y (.r (.int k z))) (q:c=true→AM l z=some a):AR P c o R h (.ptr id g z.toNat 0) :=
  ZX u w A B C (λj => (Ej (q j)).1) (λj => by rw[v7];exact(Ej (q j)).2.2)
theorem Ll{t}{x}{id g k}{e}{sz}{l:List α}{z:Int}{a}{d}(j:o.op=.load t x)(q:Bd P t)(u:Ev c R x (.ptr id g z.toNat k))
 (w:c=true→hget h id=some (.arr g e sz (l.map f))) (A:c=true→AM l z=some a) (hd:(f a)[k]?=some d):AR P c o R h (.r d) :=
  YA j q u w (row := f a) (λB => by rw[wD, (Ej (A B)).2.1];rfl) (λ_ => hd)
theorem mc{t}{x}{id g}{e}{sz}{l:List α}{z:Int}{a}{cs}(j:o.op=.load t x)(q:Bf P t sz)(u:Ev c R x (.ptr id g z.toNat 0))
 (w:c=true→hget h id=some (.arr g e sz (l.map f))) (A:c=true→AM l z=some a) (hd:(f a).map AV.r=cs):AR P c o R h (.agg cs) := by
  subst hd
  exact ez j q u w (row := f a) (λB => by rw[wD, (Ej (A B)).2.1];rfl)
theorem Bc{t}{x}{row}{k}{d}(j:o.op=.load t x)(l:Bd P t)(q:Ev c R x (.rop row k))(hd:row[k]?=some d):AR P c o R h (.r d):=fI j l q λ_=>hd
theorem Ci{t}{x}{row:List RV}{sz}{cs}(l:o.op=.load t x)(q:Bf P t sz)(u:Ev c R x (.rop row 0))(hd:row.length=sz)(j:row.map AV.r=cs):AR P c o R h (.agg cs):=by
 subst j;exact bX l q u hd
theorem AZ{t}{x}{id g k}{e}{cs}{a}(j:o.op=.load t x)(l:Bd P t)(q:Ev c R x (.ptr id g 0 k))(u:hget h id=some (.box g e cs))(w:cs[k]?=some a):AR P c o R h a:=
 Ug j l q (λ_=>u) (λ_=>w)
theorem FT{t}{x}{id g}{e}{sz}{cs:List AV}(j:o.op=.load t x)(l:Bf P t sz)(q:Ev c R x (.ptr id g 0 0))(u:hget h id=some (.box g e cs))(w:cs.length=sz):AR P c o R h (.agg cs):=
 j9 j l q (λ_=>u) w
theorem DL{t}{x y}{s}{k}{z}{l:UInt8}(u:o.op=.index t x y)(w:P.underlying t=some .string)(A:Ev c R x (.r (.str s)))
 (B:Ev c R y (.r (.int k z))) (q:c=true→AM s z=some l):AR P c o R h (.r (.int .u8 l.toNat)) :=
  YV u w A B (λj => (Ej (q j)).1) (λj => (Ej (q j)).2.1)
theorem Gh{t l}{x y}{k}{a b r}(q:o.op=.binOp .add t x y l)(u:Ev c R x (.r (.int k a)))(w:Ev c R y (.r (.int k b)))(A:c=true→AN k (a+b)=some r):AR P c o R h (.r (.int k r)):=by
 intro j;obtain⟨B,rfl⟩:=YN (A j);exact nc q u w B j
theorem CG{t l}{x y}{k}{a b r}(q:o.op=.binOp .sub t x y l)(u:Ev c R x (.r (.int k a)))(w:Ev c R y (.r (.int k b)))(A:c=true→AN k (a-b)=some r):AR P c o R h (.r (.int k r)):=by
 intro j;obtain⟨B,rfl⟩:=YN (A j);exact ib q u w B j
def Hh(c:Bool)(R:AX)(j:Int):Option Operand→Int→Prop
 | none,z=>z=j
 | some x,z=>∃k,Ev c R x (.r (.int k z))
theorem Tg{t e}{sz}{x}{B C}{l F:List α}{w A:Int}(J:o.op=.slice t x B C none)(M:EO P t e sz)(O:Ev c R x (.r (.sl (l.map f))))
 (j:Hh c R 0 B w) (q:Hh c R l.length C A) (u:∀a, (f a).length=sz) (T:c=true→Bx l w A=some F):AR P c o R h (.r (.sl (F.map f))) := by
  intro I
  obtain⟨U, X, Y, rfl⟩ := Oy (T I)
  rw[ya, List.map_drop]
  refine eM J M O (l := w.toNat) (m := A.toNat) ?_ ?_ (λ_ => by omega) (λ_ => by rw[v7];omega) (λrow V => by obtain⟨a, _, rfl⟩ := wu.1 V;exact u a) I
  · cases B with
    | none => simp only[Hh] at j;subst j;rfl
    | some v => obtain⟨k, E⟩ := j;exact⟨k, w, E, λ_ => U, rfl⟩
  · cases C with
    | none => simp only[Hh] at q;subst q;simp[OO]
    | some v => obtain⟨k, E⟩ := q;exact⟨k, A, E, λ_ => by omega, rfl⟩
theorem dE{j}{xs l q:List α}(h:app j xs l=some q):(xs.length+l.length) * j≤140737488355328∧xs.length+l.length≤9223372036854775807∧q=xs++l:=by
 unfold app at h
 split at h
 ·exact⟨‹_∧_›.1,‹_∧_›.2,(wY h).symm⟩
 ·cases h
def TM(R:AX)(h:AO)(x:Operand)(e:TypeId)(sz:Nat)(f:α→List RV)(j:List α):Prop:=
 (Ev true R x (.r (.sl (j.map f)))∧∀a,(f a).length=sz)∨(∃id g,Ev true R x (.own id g)∧hget h id=some (.arr g e sz (j.map f)))∨(Ev true R x (.cst (.slice none 0 0))∧j=[])
theorem TM.src{x}{e}{sz}{q:List α}(u:TM R h x e sz f q):M2 true R h x sz (q.map f):=by
 rcases u with ⟨j,l⟩ | ⟨id,g,j,l⟩ | ⟨j,rfl⟩
 ·exact .inl ⟨j,λ_ row w=>by obtain⟨a,_,rfl⟩:=wu.1 w;exact l a⟩
 ·exact .inr (.inl ⟨id,g,e,j,l⟩)
 ·exact .inr (.inr ⟨j,rfl⟩)
theorem Cj{t e}{sz j}{s x}{id g}{xs l q:List α}(u:o.op=.call { callee := .builtin .append, args := #[s, x], argTypes := #[t, t] })(w:Bj P t e sz j)
 (A:Ev true R s (.own id g)) (B:hget h id=some (.arr g e sz (xs.map f))) (C:TM R h x e sz f l) (E:app j xs l=some q):A7 P true o R h n (.own id n) ((id, some (.arr n e sz (q.map f)))::h) (n+1) := by
  obtain⟨F, I, rfl⟩ := dE E
  rw[yF]
  exact bF u w A B C.src (by simpa using F) (by simpa using I)
theorem Q6{t e}{sz j}{s x}(id:Nat){l q:List α}(w:o.op=.call { callee := .builtin .append, args := #[s, x], argTypes := #[t, t] })(A:Bj P t e sz j)
 (B:Ev true R s (.cst (.slice none 0 0))) (C:TM R h x e sz f l) (E:app j [] l=some q):A7 P true o R h n (.own id n) ((id, some (.arr n e sz (q.map f)))::h) (n+1) := by
  obtain⟨F, I, u⟩ := dE E
  rw[yc] at u
  subst u
  exact cC id w A B C.src (by simpa using F) (by simpa using I)
theorem S3{t e}{sz j}{l k}(id:Nat){m}{z0}{r:List α}(w:o.op=.makeSlice t l k)(A:Bj P t e sz j)(B:GX P e (f z0))
 (C:Ev true R l (.r (.int .i64 m))) (E:Ev true R k (.r (.int .i64 m))) (q:mk j m z0=some r):A7 P true o R h n (.own id n) ((id, some (.arr n e sz (r.map f)))::h) (n+1) := by
  unfold mk at q
  split at q
  · rename_i u
    cases q
    rw[zZ]
    exact bP id w A B C E u.1 u.2.1 u.2.2
  · cases q
theorem B3{t e}{sz w len}{parts:Array (Nat × Operand)}(id:Nat){l:List α}(A:o.op=.buildSlice t len parts)(B:Bj P t e sz w)
 (hp:I6 true R 0 parts.toList (l.map f)) (q:l.length=len) (u:∀a, (f a).length=sz) (j:Nat.ble (len * sz) 16777216=true) :
    A7 P true o R h n (.own id n) ((id, some (.arr n e sz (l.map f)))::h) (n+1) :=
  gm id A B hp (by rw[v7];exact q) (λrow C => by obtain⟨a, _, rfl⟩ := wu.1 C;exact u a) j
theorem Tn{t}{x y}{id g k}{e}{sz}{l:List α}{z:Int}{a v}{b}{d}(j:o.op=.store t x y)(q:∃i, P.info? t=some i∧i.size=1)
 (u:Ev true R x (.ptr id g z.toNat k)) (w:hget h id=some (.arr g e sz (l.map f))) (A:AM l z=some a) (B:Ev true R y b) (hd:Hz b=some d) (C:(BV b).length=1) (E:Nat.blt k (f a).length=true) (F:(f a).set k d=f v) :
    A7 P true o R h n .any ((id, some (.arr g e sz ((l.set z.toNat v).map f)))::h) n := by
  have := oJ (n := n) j q u w (row := f a) (by rw[wD, (Ej A).2.1];rfl) (Cn E) B hd C
  rwa [F, ← zh] at this
theorem Bk{t}{e}{sz}{x}{l:List α}(j:o.op=.call { callee:=.builtin .len,args:=#[x],argTypes:=#[t] })(q:EO P t e sz)(u:Ev c R x (.r (.sl (l.map f)))):AR P c o R h (.r (.int .i64 l.length)):=qy j q u
theorem N0{t}{e e'}{sz j}{x}{id g}{l:List α}(q:o.op=.call { callee := .builtin .len, args := #[x], argTypes := #[t] })(u:EO P t e sz)(w:Ev c R x (.own id g))
 (A:hget h id=some (.arr g e' j (l.map f))):AR P c o R h (.r (.int .i64 l.length)) := nG q u w A
theorem A2{t}{x}{a}(id:Nat){cs:List AV}(l:o.op=.box t x)(q:Ev c R x a)(j:BV a=cs)(u:cs.all AV.one=true):A7 P c o R h n (.ptr id n 0 0) ((id,some (.box n t cs))::h) (n+1):=by
 subst j;exact cQ id l q u
theorem BF{t}{l}(id:Nat){cs:List AV}(q:o.op=.alloc t)(u:CO P t l)(j:BV (F1 l)=cs)(w:cs.all AV.one=true) :
  A7 P c o R h n (.ptr id n 0 0) ((id,some (.box n t cs))::h) (n+1):=by
 subst j;exact aP id q u w
theorem Aj{t}{x y}{id g k}{e}{cs ds:List AV}{a}{sz}(q:o.op=.store t x y)(u:∃i, P.info? t=some i∧i.size=sz)(w:Ev c R x (.ptr id g 0 k))
 (A:hget h id=some (.box g e cs)) (B:Ev c R y a) (hsz:(BV a).length=sz) (C:(BV a).all AV.one=true) (j:Nat.ble (k+sz) cs.length=true) (l:GP cs k (BV a)=ds) :
    A7 P c o R h n .any ((id, some (.box g e ds))::h) n := by
  subst l;exact gn q u w A B hsz C j
end
def Of(a b:AV):Prop:=a=b∨b=.any∨(a=.cst (.slice none 0 0)∧b=.r (.sl []))
def Pq:List AV→List AV→Prop
 | [],[]=>True
 | a::l,b::m=>Of a b∧Pq l m
 | _,_=>False
def Rr(a b:AV):Prop:=Of a b∨∃j l,a=.agg j∧b=.agg l∧Pq j l
def OI:AX→AX→Prop
 | [],_=>True
 | (t,v)::r,e=>Rr (get e t) v∧OI r e
def gK(a b:Option Ab):Prop:=a=b∨b=none∨∃g e j l,a=some (.box g e j)∧b=some (.box g e l)∧Pq j l
def OQ:AO→AO→Prop
 | [],_=>True
 | (id,o)::r,h=>gK (hget h id) o∧OQ r h
theorem Of.rep{x}{a b}(h:Of a b){v}(j:AP x a v):AP x b v:=by
 rcases h with rfl | rfl | ⟨rfl,rfl⟩
 ·exact j
 ·exact .any _
 ·cases j;exact .r .snil
theorem Pq.get{cs ds:List AV}(h:Pq cs ds):cs.length=ds.length∧∀(i:Nat) (b:AV),ds[i]?=some b→∃a,cs[i]?=some a∧Of a b:=by
 induction cs generalizing ds with
 | nil=>cases ds with | nil=>exact⟨rfl,by simp⟩ | cons _ _=>exact h.elim
 | cons c l q=>
  cases ds with
  | nil=>exact h.elim
  | cons d m=>
   obtain⟨u,w⟩:=h
   obtain⟨A,B⟩:=q w
   refine⟨by simp[A],λi b j=>?_⟩
   cases i with
   | zero=>cases j;exact⟨c,rfl,u⟩
   | succ i=>simp only[yA] at j ⊢;exact B i b j
theorem Rr.rep{x}{a b}(h:Rr a b){v}(l:AP x a v):AP x b v:=by
 rcases h with h | ⟨E,F,rfl,rfl,h⟩
 ·exact h.rep l
 ·obtain⟨I,q⟩:=h.get
  cases l with
  | agg J j=>
   refine .agg (by omega) λi b u w A=>?_
   obtain⟨a,B,C⟩:=q i b w
   exact C.rep (j i a u B A)
theorem OI.get{e' e}(h:OI e' e)(t:Nat):Al.get e' t=.any∨Rr (Al.get e t) (Al.get e' t):=by
 induction e' with
 | nil=>exact .inl rfl
 | cons p r j=>
  obtain⟨d,v⟩:=p
  rw[DQ]
  split
  ·rename_i hd;subst hd;exact .inr h.1
  ·exact j h.2
theorem OQ.get{h' h}(k:OQ h' h)(t:Nat):hget h' t=none∨gK (hget h t) (hget h' t):=by
 induction h' with
 | nil=>exact .inl rfl
 | cons p r j=>
  obtain⟨d,v⟩:=p
  rw[Bv]
  split
  ·rename_i hd;subst hd;exact .inr k.1
  ·exact j k.2
theorem iE{y:Cx}(l:y.ok) S' A n'(U:y.n≤n')(hS:∀b, y.S b→S' b)(B:∀b, S' b→b<y.w.heap.size)(I:∀b, S' b→¬ y.F b)
 (q:∀id j, A id=some j→∃o, y.H id=some o∧o.gen=j.gen∧o.shape=j.shape∧(∀b k, y.atk id b k→¬ S' b)∧(j.isFam=true→j=o)∧(y.le { y with S := S', H := A, n := n' } → EQ { y with S := S', H := A, n := n' } (y.β id) (y.K id) o→EQ { y with S := S', H := A, n := n' } (y.β id) (y.K id) j)) :
    y.le { y with S := S', H := A, n := n' } ∧ ({ y with S := S', H := A, n := n' } : Cx).ok := by
  have u:y.le { y with S := S', H := A, n := n' } := ⟨vu _, rfl, rfl, rfl, λ_ _ => rfl, hS, rfl, U, λid j h _ => by
    obtain⟨o, w, C, V, _⟩ := q id j h;exact⟨o, w, C, V, rfl⟩, λid j h X _ _ => by
    obtain⟨o, w, _, _, _, J, _⟩ := q id j h;cases J X;exact⟨j, w, X, rfl, rfl, rfl, rfl⟩⟩
  refine⟨u, B, l.F_lt, I, λid j h => ?_, λid j b k h Y => ?_, λid E o j b k k' h F => ?_, l.extOf (λid o h => let ⟨j, F, _⟩ := q id o h;⟨j, F⟩) rfl rfl (vu _) (λid o b k h M => let ⟨_, _, _, _, O, _⟩ := q id o h;O b k M) (λid o b k h M => let ⟨j, F, _⟩ := q id o h;(l.own' id j b k F M).2.2), l.tabs.le u⟩
  · obtain⟨o, w, C, V, _, _, J⟩ := q id j h
    obtain⟨T, Z⟩ := l.obj id o w
    exact⟨by rw[← C];exact vq T U, J u (Z.mono u (λ_ _ _ => rfl) λ_ _ _ _ => rfl)⟩
  · obtain⟨o, w, _, _, O, _⟩ := q id j h
    obtain⟨T, Z, k3⟩ := l.own id o b k w Y
    exact⟨T, O b k (.inl Y), k3⟩
  · obtain⟨o1, w, _⟩ := q id o h
    obtain⟨o2, C, _⟩ := q E j F
    exact l.inj id E o1 o2 b k k' w C
theorem kG{x}{β}{κ}{g}{e}{cs ds:List AV}(M:cs.length=ds.length)(hc:∀(i:Nat) (b:AV), ds[i]?=some b→∃a, cs[i]?=some a∧∀v, AP x a v→AP x b v)
 (h:EQ x β κ (.box g e cs)):EQ x β κ (.box g e ds) := by
  obtain⟨b, l, q, w, O, A⟩ := h
  refine⟨b, l, q, w, by omega, λj d B => ?_⟩
  obtain⟨a, C, E⟩ := hc j d B
  obtain⟨u, F, I, J⟩ := A j a C
  exact⟨u, F, I, E u J⟩
theorem Ae.cv{e' e}{h' h}{n' n N}(T:OI e' e)(U:OQ h' h)(V:n≤n'):Ae ⟨e,h,n,N⟩ ⟨e',h',n',N⟩:=by
 intro c0 a w ⟨_,A,hsz,y,F,I,l,E,J,B⟩
 have q:=iE l y.S (hget h') n' (by rw[J];exact V) (λ_ h=>h) l.S_lt l.SF (λid M u=>by
  rcases U.get id with j | j
  ·rw[j] at u;cases u
  ·rw[u] at j
   rcases j with j | j | ⟨g,X,Y,ds,j,Z,h3⟩
   ·exact⟨M,by rw[E];exact j,rfl,rfl,λb k C=>(l.own' id M b k (by rw[E];exact j) C).2.1,λ_=>rfl,λ_ h=>h⟩
   ·cases j
   ·cases Z
    obtain⟨O,k2⟩:=h3.get
    refine⟨.box g X Y,by rw[E];exact j,rfl,by simp[Ab.shape,O],λb k C=>(l.own' id _ b k (by rw[E];exact j) C).2.1,(λhf=>by cases hf),λ_ hr=>kG O (λi b C=>?_) hr⟩
    obtain⟨a,k3,k4⟩:=k2 i b C
    exact⟨a,k3,λv hv=>k4.rep hv⟩)
 refine⟨_,A,hsz,{ y with S:=y.S,H:=hget h',n:=n' },F,I.trans q.1,q.2,rfl,rfl,λt=>?_⟩
 rcases T.get t with j | j
 ·rw[j];exact .any _
 ·exact j.rep ((B t).mono q.1)
def Qi(id g:Nat)(xs:List (List RV))(a b:AV):Prop:=a=b∨b=.any∨(a=.own id g∧b=.r (.sl xs))
def Le(id g:Nat)(xs:List (List RV)):List AV→List AV→Prop
 | [],[]=>True
 | a::l,b::m=>Qi id g xs a b∧Le id g xs l m
 | _,_=>False
def Ur(id g:Nat)(xs:List (List RV))(a b:AV):Prop:=Qi id g xs a b∨∃j l,a=.agg j∧b=.agg l∧Le id g xs j l
def Oi(id g:Nat)(xs:List (List RV)):AX→AX→Prop
 | [],_=>True
 | (t,v)::r,e=>Ur id g xs (get e t) v∧Oi id g xs r e
def Ut(id g:Nat)(xs:List (List RV))(a b:Option Ab):Prop:=a=b∨b=none∨(∃j e l q,a=some (.box j e l)∧b=some (.box j e q)∧Le id g xs l q) ∨
  ∃j e u k w,a=some (.hot j e u k id g)∧b=some (.arr j e 1 w)∧w=u.set k [.sl xs]
def Q0(id g:Nat)(xs:List (List RV)):AO→AO→Prop
 | [],_=>True
 | (i,o)::r,h=>Nat.beq i id=false∧Ut id g xs (hget h i) o∧Q0 id g xs r h
theorem Le.get{id g}{xs}{cs ds:List AV}(h:Le id g xs cs ds):cs.length=ds.length∧∀(i:Nat) (b:AV),ds[i]?=some b→∃a,cs[i]?=some a∧Qi id g xs a b:=by
 induction cs generalizing ds with
 | nil=>cases ds with | nil=>exact⟨rfl,by simp⟩ | cons _ _=>exact h.elim
 | cons c l q=>
  cases ds with
  | nil=>exact h.elim
  | cons d m=>
   obtain⟨u,w⟩:=h
   obtain⟨A,B⟩:=q w
   refine⟨by simp[A],λi b j=>?_⟩
   cases i with
   | zero=>cases j;exact⟨c,rfl,u⟩
   | succ i=>simp only[yA] at j ⊢;exact B i b j
theorem Oi.get{id g}{xs}{e' e}(h:Oi id g xs e' e)(t:Nat):Al.get e' t=.any∨Ur id g xs (Al.get e t) (Al.get e' t):=by
 induction e' with
 | nil=>exact .inl rfl
 | cons p r j=>
  obtain⟨d,v⟩:=p
  rw[DQ]
  split
  ·rename_i hd;subst hd;exact .inr h.1
  ·exact j h.2
theorem Q0.get{id g}{xs}{h' h}(k:Q0 id g xs h' h)(t:Nat):hget h' t=none∨(t≠id∧Ut id g xs (hget h t) (hget h' t)):=by
 induction h' with
 | nil=>exact .inl rfl
 | cons p r j=>
  obtain⟨d,v⟩:=p
  rw[Bv]
  split
  ·rename_i hd;subst hd;exact .inr ⟨yG k.1,k.2.1⟩
  ·exact j k.2.2
theorem Ae.frz{e' e:AX}{h' h}{n N}(id:Nat){g}{et}{sz}{xs}(a2:hget h id=some (.arr g et sz xs))(he:Oi id g xs e' e)(hh:Q0 id g xs h' h):Ae ⟨e,h,n,N⟩ ⟨e',h',n,N⟩:=by
 intro c0 a w ⟨_,Z,hsz,y,a6,a7,l,hH,a8,F⟩
 have B:y.H id=some (.arr g et sz xs):=by rw[hH];exact a2
 let S':Nat→Prop:=λb=>y.S b∨∃k,y.β id=some (b,k)
 have O:∀ {z:Cx},z.w=y.w→z.S=S'→∀ {a b:AV},Qi id g xs a b→∀v,AP y a v→(AP z a v)→AP z b v:=by
  intro z aa ab a b hf v hv ac
  rcases hf with rfl | rfl | ⟨rfl,rfl⟩
  ·exact ac
  ·exact .any _
  ·refine .r ?_
   have:=N8 l B hv (S':=S') (λ_ h=>.inl h) (λb k A=>.inr ⟨k,A⟩)
   rw[aa,ab];exact this
 have E:=iE l S' (hget h') y.n (vu _) (λ_ h=>.inl h) (λb A=>by
   rcases A with A | ⟨k,A⟩
   ·exact l.S_lt b A
   ·exact(l.own id _ b k B A).1) (λb A=>by
   rcases A with A | ⟨k,A⟩
   ·exact l.SF b A
   ·exact(l.own id _ b k B A).2.2) (λi o' T=>by
  rcases hh.get i with q | ⟨ad,q⟩
  ·rw[q] at T;cases T
  ·rw[T] at q
   have U:∀o,y.H i=some o→∀b k,y.atk i b k→¬ S' b:=by
    intro o ho b k A
    rintro(I | ⟨k',I⟩)
    ·exact(l.own' i o b k ho A).2.1 I
    ·exact ad (l.inj' ho B A (.inl I))
   rcases q with q | q | ⟨g0,e0,cs,ds,q,I,h3⟩ | ⟨g0,e0,ys,k,zs,q,I,rfl⟩
   ·exact⟨o',by rw[hH];exact q,rfl,rfl,U o' (by rw[hH];exact q),λ_=>rfl,λ_ h=>h⟩
   ·cases q
   ·cases I
    obtain⟨k1,k2⟩:=h3.get
    have C:y.H i=some (.box g0 e0 cs):=by rw[hH];exact q
    refine⟨.box g0 e0 cs,C,rfl,by simp[Ab.shape,k1],U _ C,(λhf=>by cases hf),λJ _=>?_⟩
    obtain⟨_,b,ae,m1,m2,m3,m4⟩:=l.obj i _ C
    refine⟨b,ae,m1,m2,by omega,λj d hj=>?_⟩
    obtain⟨a,Y,k4⟩:=k2 j d hj
    obtain⟨u,k5,k6,k7⟩:=m4 j a Y
    exact⟨u,k5,k6,O (z:={ y with S:=S',H:=hget h',n:=y.n }) rfl rfl k4 u k7 (k7.mono J)⟩
   ·cases I
    have C:y.H i=some (.hot g0 e0 ys k id g):=by rw[hH];exact q
    refine⟨.hot g0 e0 ys k id g,C,rfl,by simp[Ab.shape],U _ C,(λhf=>by cases hf),λJ _=>?_⟩
    obtain⟨_,m1,m2,af,us,m3,m4,m5,u0,m6,m7⟩:=l.obj i _ C
    have ag:∀b,y.S b→y.w.heap[b]?=y.w.heap[b]?:=λ_ _=>rfl
    refine⟨Nat.one_pos,λrow hr=>?_,af,us,by rw[xM];exact m3,by rw[xM];exact m4,λi' row c d q1 q2=>?_⟩
    ·rcases xi hr with hr | rfl
     ·exact m2 row hr
     ·rfl
    ·rw[wh] at q1
     split at q1
     ·rename_i V;subst V
      cases q1
      have X:c=0:=by
       have:=(vl.1 q2).1
       simp at this;omega
      subst X
      cases q2
      refine⟨u0,by simpa using m6,N8 l B m7 (λ_ h=>.inl h) (λb k A=>.inr ⟨k,A⟩)⟩
     ·rename_i V
      have X:c=0:=by
       have:=(vl.1 q2).1
       have:=m2 row (wJ q1)
       omega
      subst X
      obtain⟨u,Y,k4⟩:=m5 i' row d (λe=>V e.symm) q1 q2
      exact⟨u,by simpa using Y,k4.mono (λ_ _=>rfl) (λ_ h=>.inl h)⟩)
 refine⟨_,Z,hsz,{ y with S:=S',H:=hget h',n:=y.n },a6,a7.trans E.1,E.2,rfl,a8,λt=>?_⟩
 rcases he.get t with q | q
 ·rw[q];exact .any _
 ·rcases q with q | ⟨cs,ds,q,I,h3⟩
  ·exact O (z:={ y with S:=S',H:=hget h',n:=y.n }) rfl rfl q _ (F t) ((F t).mono E.1)
  ·rw[I]
   obtain⟨k1,k2⟩:=h3.get
   have hv:=F t
   rw[q] at hv
   generalize hu:a.tmps.getD t undef=v at hv
   cases hv with
   | @agg _ us hl M=>
    refine .agg (by omega) λi b u A a1=>?_
    obtain⟨a0,Y,k4⟩:=k2 i b A
    exact O (z:={ y with S:=S',H:=hget h',n:=y.n }) rfl rfl k4 u (M i a0 u Y a1) ((M i a0 u Y a1).mono E.1)
theorem Cc{ρ:Type}{P}{T r}{j}{k}{x}{s}(F:ρ→AV→AO→Prop)(e:some T=some r)(h:TB P j k (F T) x s):TB P j k (F r) x s:=by cases e;exact h
theorem up{P}{Q}{s}{x y}(h:∀K:St→Prop,(∀s,AW P y Q s→K s)→(∀s j,Ae s j→K j→K s)→AW P x (E6 K Q) s):AW P (.seq x y) Q s:=
 .seq (h _ (λ_ h=>h) λ_ _ l h=>.weak l h)
def CP(Q:Exit→St→Prop)(e:Exit)(s:St):Prop:=∃j,Ae s j∧Q e j
theorem CP.mk{Q}{e}{s s'}(j:Ae s s')(h:Q e s'):CP Q e s:=⟨s',j,h⟩
theorem AW.retW{P}{c}{Q}{s}(h:AW P c (CP Q) s):AW P c Q s:=
 λz q u a w A=>wpIn_mono (h z q u a w A) λ_ _ _ ⟨B,_,⟨j,C,E⟩,l⟩=>⟨B,j,E,C _ _ _ l⟩
theorem EE {P : Program} {f} {fn : Func} {code} {args : List AV} {k N} {hc} {j} (w : P.funcs[f]? = some fn) (A : fn.body = some code) (l : (fn.name == "runtime.NumGoroutine") = false) (B : fn.ntmps = N)
 (q:args.length≤N) (C:∀u, AW P code (CP (TB P fn.results.toList k j)) ⟨DW 0 args, hc, u, N⟩):Bb P f k args hc j := Bb.mk w A l B q λu => (C u).retW
def AH(l:List Nat):Nat→Nat:=λk=>l.getD k 0
theorem AG{a0 α:Type}{m:Option (a0)}{f:a0→Option α}{r:α}{G:Prop}(h:AB m f=some r)(k:∀j,m=some j→f j=some r→G):G:=by
 cases m with
 | none=>cases h
 | some p=>exact k _ rfl h
theorem BH{a0 α:Type}{m:Option (a0)}{f:a0→Option α}{r:α}{G:Prop}(h:AB m f=some r)(k:∀p,m=some p→(∀j,p=j→f j=some r)→G):G:=by
 obtain⟨p,l,q⟩:=kS h;exact k p l q
theorem BP{a0 α:Type}{m:Option (Au (a0) α)}{f:a0→Option α}{r:α}{G:Prop}(h:At m f=some r)(k:∀o,m=some o→(∀j,o=.nrm j→f j=some r)→(∀t,o=.ext t→some t=some r)→G):G:=by
 obtain⟨p,l,q,u⟩:=mq h;exact k p l q u
def Tp{a0 ρ:Type}(v:(a0) ⊕ ρ)(R:a0→(Nat→Nat)→St)(l:St):Prop:=∃j i,v=.inl j∧Ae l (R j i)
theorem Tp.mk{a0 ρ:Type}{v:(a0) ⊕ ρ}{R:a0→(Nat→Nat)→St}{j:St}{l:_}(e:some (Sum.inl l)=some v)(i:Nat→Nat)(q:Ae j (R l i)):Tp v R j:=⟨_,i,(wY e).symm,q⟩
theorem ux{a0 ρ:Type}{f:(a0)→Option ((a0) ⊕ ρ)}{P:Program}{Q:Exit→St→Prop}{s:St}{x:Code}{j:a0}{o:ρ}(R:a0→(Nat→Nat)→St)(w:Nat→Nat)(hit:Al.iter f j=some o)(B:Ae s (R j w))
  (round:∀j i v,f j=some v→(∀q,v=.inr q→o=q)→AW P x (E6 (Tp v R) Q) (R j i)):AW P (.loop x) Q s:=by
 refine AW.iter (λ(a:a0) A=>∃i,A=R a i) hit ⟨_,B,w,rfl⟩ ?_
 rintro j A v ⟨i,rfl⟩ C E
 refine(round j i v C E).mono λe F l=>?_
 cases e with
 | normal=>
  obtain⟨J,I,e,u⟩:=l
  exact⟨_,e,_,u,I,rfl⟩
 | exit _=>exact l
 | goto _=>exact l
 | ret=>exact l
 | panic _=>exact l
 | outgrown=>exact l
theorem D5{a0 j α:Type}{m:Option (a0 × j)}{f:a0→j→Option α}{r:α}{G:Prop}(h:CR m f=some r)(k:∀l q,m=some (l,q)→f l q=some r→G):G:=by
 cases m with
 | none=>cases h
 | some p=>exact k _ _ rfl h
theorem IF{a0 j α:Type}{m:Option (a0 × j)}{f:a0→j→Option α}{r:α}{G:Prop}(h:CR m f=some r)(k:∀p,m=some p→(∀l q,p=(l,q)→f l q=some r)→G):G:=by
 obtain⟨p,u,w⟩:=jM h;exact k p u w
theorem Jn{a0 j α:Type}{m:Option (Au (a0 × j) α)}{f:a0→j→Option α}{r:α}{G:Prop}(h:E1 m f=some r)(k:∀o,m=some o→(∀l q,o=.nrm (l,q)→f l q=some r)→(∀t,o=.ext t→some t=some r)→G):G:=by
 obtain⟨p,u,w,A⟩:=uL h;exact k p u w A
def Sf{a0 j ρ:Type}(v:(a0 × j) ⊕ ρ)(R:a0→j→(Nat→Nat)→St)(u:St):Prop:=∃l q i,v=.inl (l,q)∧Ae u (R l q i)
theorem Sf.mk{a0 j ρ:Type}{v:(a0 × j) ⊕ ρ}{R:a0→j→(Nat→Nat)→St}{l:St}{q:a0}{u:j}(e:some (Sum.inl (q,u))=some v)(i:Nat→Nat)(w:Ae l (R q u i)):Sf v R l:=⟨_,_,i,(wY e).symm,w⟩
theorem Dd{a0 w ρ:Type}{f:(a0 × w)→Option ((a0 × w) ⊕ ρ)}{P:Program}{Q:Exit→St→Prop}{s:St}{x:Code}{j:a0}{l:w}{o:ρ}(R:a0→w→(Nat→Nat)→St)(B:Nat→Nat)(hit:Al.iter f (j,l)=some o)(E:Ae s (R j l B))
  (round:∀j l i v,f (j,l)=some v→(∀q,v=.inr q→o=q)→AW P x (E6 (Sf v R) Q) (R j l i)):AW P (.loop x) Q s:=by
 refine AW.iter (λ(a:a0 × w) C=>∃i,C=R a.1 a.2 i) hit ⟨_,E,B,rfl⟩ ?_
 rintro⟨j,l⟩ C v ⟨i,rfl⟩ F I
 refine(round j l i v F I).mono λe J u=>?_
 cases e with
 | normal=>
  obtain⟨O,T,M,e,A⟩:=u
  exact⟨_,e,_,A,M,rfl⟩
 | exit _=>exact u
 | goto _=>exact u
 | ret=>exact u
 | panic _=>exact u
 | outgrown=>exact u
theorem Kc{a0 j l α:Type}{m:Option (a0 × j × l)}{f:a0→j→l→Option α}{r:α}{G:Prop}(h:HH m f=some r)(k:∀q u w,m=some (q,u,w)→f q u w=some r→G):G:=by
 cases m with
 | none=>cases h
 | some p=>exact k _ _ _ rfl h
def DN{a0 j l ρ:Type}(v:(a0 × j × l) ⊕ ρ)(R:a0→j→l→(Nat→Nat)→St)(A:St):Prop:=∃q u w i,v=.inl (q,u,w)∧Ae A (R q u w i)
theorem DN.mk{a0 j l ρ:Type}{v:(a0 × j × l) ⊕ ρ}{R:a0→j→l→(Nat→Nat)→St}{q:St}{u:a0}{w:j}{A:l}(e:some (Sum.inl (u,w,A))=some v)(i:Nat→Nat)(B:Ae q (R u w A i)):DN v R q:=⟨_,_,_,i,(wY e).symm,B⟩
theorem Gk{a0 A B ρ:Type}{f:(a0 × A × B)→Option ((a0 × A × B) ⊕ ρ)}{P:Program}{Q:Exit→St→Prop}{s:St}{x:Code}{j:a0}{l:A}{u:B}{o:ρ}(R:a0→A→B→(Nat→Nat)→St)(E:Nat→Nat)(hit:Al.iter f (j,l,u)=some o)(I:Ae s (R j l u E))
  (round:∀j l u i v,f (j,l,u)=some v→(∀q,v=.inr q→o=q)→AW P x (E6 (DN v R) Q) (R j l u i)):AW P (.loop x) Q s:=by
 refine AW.iter (λ(a:a0 × A × B) F=>∃i,F=R a.1 a.2.1 a.2.2 i) hit ⟨_,I,E,rfl⟩ ?_
 rintro⟨j,l,u⟩ F v ⟨i,rfl⟩ J M
 refine(round j l u i v J M).mono λe O w=>?_
 cases e with
 | normal=>
  obtain⟨U,V,X,T,e,C⟩:=w
  exact⟨_,e,_,C,T,rfl⟩
 | exit _=>exact w
 | goto _=>exact w
 | ret=>exact w
 | panic _=>exact w
 | outgrown=>exact w
def Id{a0 j l a3 ρ:Type}(v:(a0 × j × l × a3) ⊕ ρ)(R:a0→j→l→a3→(Nat→Nat)→St)(B:St):Prop:=∃q u w A i,v=.inl (q,u,w,A)∧Ae B (R q u w A i)
theorem Id.mk{a0 j l a3 ρ:Type}{v:(a0 × j × l × a3) ⊕ ρ}{R:a0→j→l→a3→(Nat→Nat)→St}{q:St}{u:a0}{w:j}{A:l}{B:a3}(e:some (Sum.inl (u,w,A,B))=some v)(i:Nat→Nat)(C:Ae q (R u w A B i)):Id v R q:=⟨_,_,_,_,i,(wY e).symm,C⟩
theorem ur{a0 B C a3 ρ:Type}{f:(a0 × B × C × a3)→Option ((a0 × B × C × a3) ⊕ ρ)}{P:Program}{Q:Exit→St→Prop}{s:St}{x:Code}{j:a0}{l:B}{u:C}{w:a3}{o:ρ}(R:a0→B→C→a3→(Nat→Nat)→St)(F:Nat→Nat)(hit:Al.iter f (j,l,u,w)=some o)(J:Ae s (R j l u w F))
  (round:∀j l u w i v,f (j,l,u,w)=some v→(∀q,v=.inr q→o=q)→AW P x (E6 (Id v R) Q) (R j l u w i)):AW P (.loop x) Q s:=by
 refine AW.iter (λ(a:a0 × B × C × a3) I=>∃i,I=R a.1 a.2.1 a.2.2.1 a.2.2.2 i) hit ⟨_,J,F,rfl⟩ ?_
 rintro⟨j,l,u,w⟩ I v ⟨i,rfl⟩ M O
 refine(round j l u w i v M O).mono λe T A=>?_
 cases e with
 | normal=>
  obtain⟨V,X,Y,Z,U,e,E⟩:=A
  exact⟨_,e,_,E,U,rfl⟩
 | exit _=>exact A
 | goto _=>exact A
 | ret=>exact A
 | panic _=>exact A
 | outgrown=>exact A
theorem um{P:Program}{ops:Array Oper}{rest:List Oper}{s:St}{K:St→Prop}{o:Oper}{d:Nat}{f:FuncId}{fo:Operand}{xs:Array Operand}{l:Array TypeId}{caps bs:List AV}(L:List Nat){hc:AO}{F:(Nat→Nat)→AV}{G:(Nat→Nat)→AO}(hg:o.guard=none)(hd:o.dst=some d)(E:Nat.blt d s.N=true)
  (I:o.op=.call { callee:=.value fo,args:=xs,argTypes:=l }) (q:Ev true s.e fo (.fn f (FF L caps))) (u:GL L.length caps=true) (J:Jw s.e L xs.toList bs) (w:Gu s.h L hc) (A:L.Nodup)
  (j:Bb P f L.length (bs++caps) hc (λr C=>∃i,r=F i∧C=G i))
  (M:∀i B,AL P ops rest { e:=(d,ren L (F i))::s.e,h:=FN L (G i) 1000 L++s.h,n:=B,N:=s.N } K):AL P ops (o::rest) s K:=
 vG L hg hd E I q u J w A j (by rintro r C B ⟨i,rfl,rfl⟩;exact M i B)
def U8:Option TypeDesc→AV→AV→Option Bool
 | some (.int _),.r (.int k m),.r (.int j n)=>if k=j then some (decide (m=n)) else none
 | some .bool,.r (.bool a),.r (.bool b)=>some (a==b)
 | some .string,.r (.str a),.r (.str b)=>some (decide (a=b))
 | _,_,_=>none
def Hy:List (Option TypeDesc)→List AV→List AV→Option Bool
 | [],[],[]=>some true
 | d::j,a::l,b::m=>match U8 d a b,Hy j l m with
  | some x,some y=>some (x&&y)
  | _,_=>none
 | _,_,_=>none
def PJ(P:Program):Nat→List Field→List (Option TypeDesc)→Prop
 | _,[],[]=>True
 | i, f :: j, d :: l => (f.name == "_") = false ∧ f.offset = i ∧ P.underlying f.type = d ∧ PJ P (i + 1) j l
 | _,_,_=>False
def FS(P:Program)(t:TypeId)(ds:List (Option TypeDesc)):Prop:=P.underlying t=some (.struct (P.fieldsOf t))∧P.stoodInHeld t=false∧P.eqGuardType P.depth t=false∧PJ P 0 (P.fieldsOf t).toList ds
theorem so{P:Program}{x}{d}{t}{a b}{u v}{r}(l:AP x a u)(q:AP x b v)(j:U8 (P.underlying t) a b=some r)(w:World) :
  (Op.equalIn (d+1) t u v).run P w=.ok r w∧∃e,P.underlying t=some e∧GG e=true:=by
 unfold U8 at j
 split at j
 ·rename_i hd
  obtain rfl:=CZ l
  obtain rfl:=CZ q
  split at j
  ·rename_i A;subst A;cases j
   refine⟨?_,_,hd,rfl⟩
   rw[run_equalIn_int w d t _ _ _ _ hd]
   congr 1
  ·cases j
 ·rename_i hd
  obtain rfl:=Gp l
  obtain rfl:=Gp q
  cases j
  exact⟨run_equalIn_bool' w d t _ _ hd,_,hd,rfl⟩
 ·rename_i hd
  obtain rfl:=Hg l
  obtain rfl:=Hg q
  cases j
  refine⟨?_,_,hd,rfl⟩
  rw[run_equalIn_string w d t _ _ hd]
  congr 1
  simp[ByteArray.toList_eq]
  rename_i a b
  by_cases h:a=b<;>simp[h]
 ·cases j
theorem fp{P}{x}{d}{us vs:Array Value}(w:World):∀(B:List Field) (ds:List (Option TypeDesc)) (i:Nat) (cs A:List AV) (r:Bool),PJ P i B ds→cs.length+i=us.size→A.length+i=vs.size →
  (∀(j:Nat) (c:AV) (u:Value),cs[j]?=some c→us[i+j]?=some u→AP x c u)→(∀(j:Nat) (c:AV) (u:Value),A[j]?=some c→vs[i+j]?=some u→AP x c u) →
  Hy ds cs A=some r→(Op.eqFields (d+1) us vs B).run P w=.ok r w
 | [],ds,i,cs,A,r,C,E,F,I,J,q=>by
  cases ds with
  | cons _ _=>exact C.elim
  | nil=>
   unfold Hy at q
   split at q
   ·cases q;simp[Op.eqFields]
   ·rename_i h;cases h
   ·cases q
 | f::B,ds,i,cs,A,r,C,E,F,I,J,q=>by
  cases ds with
  | nil=>exact C.elim
  | cons dd ds=>
   obtain⟨h1,h2,h3,h4⟩:=C
   cases cs with
   | nil=>simp[Hy] at q
   | cons a l=>
    cases A with
    | nil=>simp[Hy] at q
    | cons b m=>
     simp only[Hy] at q
     split at q
     ·rename_i xb yb e1 e2
      cases q
      have M:i<us.size:=by simp at E;omega
      have O:i<vs.size:=by simp at F;omega
      have ra:=I 0 a us[i] rfl (by simp)
      have rb:=J 0 b vs[i] rfl (by simp)
      subst h3
      obtain⟨k1,e,k2,k3⟩:=so (d:=d) ra rb e1 w
      have T:(part f.type us f.offset).run P w=.ok us[i] w:=by
       rw[h2];simp[part,J0 k2,k3,wS M]
      have U:(part f.type vs f.offset).run P w=.ok vs[i] w:=by
       rw[h2];simp[part,J0 k2,k3,wS O]
      have V:l.length+(i+1)=us.size:=by simp at E;omega
      have X:m.length+(i+1)=vs.size:=by simp at F;omega
      have ih:=fp (d:=d) (x:=x) (us:=us) (vs:=vs) w B ds (i+1) l m yb h4 V X
       (λj c u Y Z=>I (j+1) c u (by simpa using Y) (by rw[← Z,show i+1+j=i+(j+1) by omega])) (λj c u Y Z=>J (j+1) c u (by simpa using Y) (by rw[← Z,show i+1+j=i+(j+1) by omega])) e2
      have a0 : f.name ≠ "_" := by intro h; rw [h] at h1; simp at h1
      simp only[Op.eqFields,vh a0,Sem.run_bind,T,U,Result.andThen_ok,k1]
      cases xb
      ·simp
      ·simpa using ih
     ·cases q
section
variable{P:Program}{c:Bool}{o:Oper}{R:AX}{h:AO}
theorem YC{t}{x y}{cs ds}{A}{r}{z}{a:Act}(I:FS P t A)(E:AP z (.agg cs) (a.eval x))(F:AP z (.agg ds) (a.eval y))(J:Hy A cs ds=some r) :
  ∃us vs,a.eval x=.agg us∧a.eval y=.agg vs∧∀w,(Op.equalIn 10000 t (.agg us) (.agg vs)).run P w=.ok r w:=by
 generalize a.eval x=u at E
 generalize a.eval y=v at F
 cases E with
 | @agg _ us M l=>
  cases F with
  | @agg _ vs O q=>
   obtain⟨T,U,_,V⟩:=I
   refine⟨us,vs,rfl,rfl,λw=>?_⟩
   rw[run_equalIn_agg w 9999 t us vs T U]
   exact fp (x:=z) w _ A 0 cs ds r V M O (λj b u B C=>l j b u B (by simpa using C)) (λj b u B C=>q j b u B (by simpa using C)) J
theorem Yk{t w}{x y}{cs ds}{l}{r}(A:o.op=.binOp .eql t x y w)(q:FS P t l)(B:Ev c R x (.agg cs))(C:Ev c R y (.agg ds))(E:Hy l cs ds=some r):AR P c o R h (.r (.bool r)):=by
 intro u z a _ _ j
 obtain⟨F,I,J,M,O⟩:=YC q (B.rep j u) (C.rep j u) E
 refine⟨.bool r,λT _=>?_,.r (.bool _)⟩
 unfold execOp
 rw[A]
 simp only[J,M]
 simp[run_eqGuard_agg T .eql t x y F I q.2.2.1,run_eql_struct,O]
theorem L6{t w}{x y}{cs ds}{l}{r}(A:o.op=.binOp .neq t x y w)(q:FS P t l)(B:Ev c R x (.agg cs))(C:Ev c R y (.agg ds))(E:Hy l cs ds=some r):AR P c o R h (.r (.bool (!r))):=by
 intro u z a _ _ j
 obtain⟨F,I,J,M,O⟩:=YC q (B.rep j u) (C.rep j u) E
 refine⟨.bool (!r),λT _=>?_,.r (.bool _)⟩
 unfold execOp
 rw[A]
 simp only[J,M]
 simp[run_eqGuard_agg T .neq t x y F I q.2.2.1,run_neq_struct,O]
end
section
variable{P:Program}{ops:Array Oper}{rest:List Oper}{s:St}{K:St→Prop}{o:Oper}
theorem AL.split c(j:c=true→AL P ops rest s K)(l:c=false→AL P ops rest s K):AL P ops rest s K:=by
 cases c
 ·exact l rfl
 ·exact j rfl
theorem GC{d}{c}(E:CS s.e ops o c)(hc:c=false)(hd:o.dst=some d)
 (F:Nat.blt d s.N=true) (I:AL P ops rest { e := (d, .whn c (.r (.bool false)))::s.e, h := s.h, n := s.n, N := s.N } K):AL P ops (o::rest) s K := by
  intro J a w ⟨_, j, hsz, y, l, q, u, M, O, C⟩ Q T
  subst l
  have A:d<a.tmps.size := by rw[hsz];exact Cn F
  refine wpList_step λU B => ?_
  rw[E.wanted C, vg (by rw[hc];decide)]
  refine B _ _ ?_
  rw[hd]
  exact I J (a.put (some d) undef) y.w ⟨_, j, by simpa[Act.put] using hsz, y, rfl, q, u, M, O, C.put A (.whn (λh => by rw[hc] at h;cases h) (λ_ => rfl))⟩ Q T
theorem u6{c}(C:CS s.e ops o c)(hc:c=false)(hd:o.dst=none)(E:AL P ops rest s K):AL P ops (o::rest) s K:=by
 intro F a w ⟨_,j,hsz,y,l,q,u,I,J,B⟩ Q M
 subst l
 refine wpList_step λO A=>?_
 rw[C.wanted B,vg (by rw[hc];decide)]
 refine A _ _ ?_
 rw[hd]
 exact E F (a.put none undef) y.w ⟨_,j,hsz,y,rfl,q,u,I,J,B⟩ Q M
end
section
variable{P:Program}
def Lu(G:ResultVar→AV→Prop):List ResultVar→List AV→Prop
 | [],[]=>True
 | x::l,r::j=>G x r∧Lu G l j
 | _,_=>False
def NB(G:ResultVar→AV→Prop)(j:List ResultVar)(r:AV):Prop:=match j with
 | [x]=>G x r
 | _=>∃l,r=.tup l∧Lu G j l
theorem Lu.get{G}{j:List ResultVar}{l:List AV}(h:Lu G j l):j.length=l.length∧∀(i:Nat) (x:ResultVar),j[i]?=some x→∃r,l[i]?=some r∧G x r:=by
 induction j generalizing l with
 | nil=>cases l with | nil=>exact⟨rfl,by simp⟩ | cons _ _=>exact h.elim
 | cons x j u=>
  cases l with
  | nil=>exact h.elim
  | cons r l=>
   obtain⟨w,A⟩:=u h.2
   refine⟨by simp[w],λi y q=>?_⟩
   cases i with
   | zero=>simp at q;subst q;exact⟨r,rfl,h.1⟩
   | succ i=>simpa using A i y (by simpa using q)
theorem eF{fn:Func}{y z:Cx}{a:Act}{r}(G:ResultVar→AV→Prop)(hG:∀x r,G x r→∃u,AP z r u∧(Fy a.tmps x).run P y.w=.ok u y.w)(w:NB G fn.results.toList r):∃u,(results fn a.tmps).run P y.w=.ok u y.w∧AP z r u:=by
 by_cases B:fn.results.toList.length=1
 ·obtain⟨x0,J⟩:=List.length_eq_one_iff.1 B
  rw[J] at w
  obtain⟨u,hr,C⟩:=hG x0 r w
  have q:=Sj (P:=P) (fn:=fn) (tmps:=a.tmps) (w:=y.w) [u] (λi x V=>by
   have j:fn.results.toList[i]?=some x:=by simpa using V
   rw[J] at j
   cases i with
   | zero=>simp at j;subst j;exact⟨u,rfl,C⟩
   | succ i=>simp at j) (by rw[← wV,B];rfl)
  exact⟨_,q,hr⟩
 ·have Z:∃l,r=.tup l∧Lu G fn.results.toList l:=by
   revert w B
   generalize fn.results.toList=rs
   intro w B
   match rs,B,w with
   | [],_,w=>exact w
   | [_],B,_=>exact absurd rfl B
   | _::_::_,_,w=>exact w
  obtain⟨l,rfl,M⟩:=Z
  obtain⟨hl,hg⟩:=M.get
  have E:∀i,i<l.length→∃u,∀x r,fn.results.toList[i]?=some x→l[i]?=some r→AP z r u∧(Fy a.tmps x).run P y.w=.ok u y.w:=by
   intro i V
   have O:i<fn.results.toList.length:=by omega
   obtain⟨r,X,h3⟩:=hg i _ (vo O)
   obtain⟨u,h4,h5⟩:=hG _ _ h3
   refine⟨u,λx r' T Y=>?_⟩
   rw[vo O] at T;cases T
   rw[X] at Y;cases Y
   exact⟨h4,h5⟩
  obtain⟨I,F,U⟩:=Wi l.length E
  have hsz:I.length=fn.results.size:=by rw[F,← hl,wV]
  have q:=Sj (P:=P) (fn:=fn) (tmps:=a.tmps) (w:=y.w) I (λi x V=>by
   have j:fn.results.toList[i]?=some x:=by simpa using V
   obtain⟨r,X,_⟩:=hg i x j
   have A:i<I.length:=by rw[F];exact(vl.1 X).1
   exact⟨I[i],vo A,(U i _ (vo A) x r j X).2⟩) hsz
  have a0:¬ I.toArray.size=1:=by
   rw[yS,hsz]
   exact λe=>B (by rw[wV];exact e)
  rw[dif_neg a0] at q
  refine⟨_,q,.tup (by rw[yS,F]) λi c u T Y=>?_⟩
  have k3:I[i]?=some u:=by simpa using Y
  have A:i<fn.results.toList.length:=by rw[hl];exact(vl.1 T).1
  exact(U i u k3 _ c (vo A) T).1
def Dw(P:Program)(s:St):ResultVar→AV→Prop
 | .tmp t,r=>Fz s.h (get s.e t) r
 | .cell a t,r=>(∃id g e c,Bd P t∧get s.e a=.ptr id g 0 0∧hget s.h id=some (.box g e [c])∧Fz s.h c r)∨(∃sz id g e j,Bf P t sz∧get s.e a=.ptr id g 0 0∧hget s.h id=some (.box g e j)∧j.length=sz∧Fz s.h (.agg j) r)
theorem Dw.rep{y:Cx}(w:y.ok){s:St}(B:y.H=hget s.h){a:Act}(F:B6 y s.e a)(x:ResultVar)(r:AV)(hr:Dw P s x r):∃u,AP y.frozen r u∧(Fy a.tmps x).run P y.w=.ok u y.w:=by
 cases x with
 | tmp t=>exact⟨_,Fz.rep w B hr (F t),rfl⟩
 | cell c t=>
  rcases hr with ⟨id,g,e,v,I,J,M,O⟩ | ⟨sz,id,g,e,cs,I,J,M,hl,O⟩
  ·have A:y.H id=some (.box g e [v]):=by rw[B];exact M
   have C:=F c
   rw[J] at C
   obtain⟨b,l,k1,T,U,k4,V⟩:=IQ w A C
   obtain⟨u,X,_,Y⟩:=V 0 v rfl
   refine⟨u,Fz.rep w B O Y,?_⟩
   obtain⟨d,i,e1,e2,_,_⟩:=I
   have q:=(cell_of_row _ b 0 l e _ U).trans X
   simp only[Fy,T]
   simp[asAddr,loadVar,J0 e1,e2,q]
  ·have A:y.H id=some (.box g e cs):=by rw[B];exact M
   have C:=F c
   rw[J] at C
   obtain⟨b,l,k1,T,U,k4,V⟩:=IQ w A C
   have q:∀j,j<sz→y.w.cell? ⟨b,0+j,none⟩=some ((λj=>l.getD j undef) j):=by
    intro j hj
    have Z:j<l.size:=by omega
    rw[wK,cell_of_row _ b j l e _ U]
    simp[Z]
   refine⟨.agg ((List.range sz).map λj=>l.getD j undef).toArray,Fz.rep w B O (LV hl _ λj a hj=>?_),?_⟩
   ·obtain⟨u,X,_,Y⟩:=V _ _ hj
    obtain⟨h8,h9⟩:=wm.1 X
    simpa[h8,h9] using Y
   ·have E:=Kq (P:=P) I (w:=y.w) (b:=b) (k:=0) (λj=>l.getD j undef) q
    simp only[Fy,T]
    simpa[asAddr,Instr.loadAt,Instr.sureAddr] using E
def Fd(P:Program)(j:List ResultVar)(r:AV):Exit→St→Prop
 | .normal,s | .ret,s=>NB (Dw P s) j r
 | _,_=>False
theorem vD {f} {fn : Func} {code} {args : List AV} {r : AV} {N} (Z : P.funcs[f]? = some fn) (hb : fn.body = some code) (F : (fn.name == "runtime.NumGoroutine") = false) (hN : fn.ntmps = N) (hr : r.closed = true)
 (a0:args.length≤N) (hw:∀n0, AW P code (Fd P fn.results.toList r) ⟨DW 0 args, [], n0, N⟩):AS P f args r := by
  refine⟨⟨fn, Z, by rw[hb];rfl, F⟩, hr, λx C I hH w => ?_⟩
  have Y:C.size=args.length := by simpa using w.1
  have J:EU x ⟨DW 0 args, [], x.n, N⟩ { tmps := C++Array.replicate (fn.ntmps - C.size) undef, defers := [] } x.w := by
    refine⟨_, rfl, by simp;omega, x, rfl, .refl x, I, by rw[hH];rfl, rfl, λt => ?_⟩
    rcases TP args 0 t with T | ⟨j, a, T, U, h3⟩
    · rw[T];exact .any _
    · rw[h3]
      have hj:j<C.size := by rw[Y];exact(vl.1 U).1
      have ht:t=j := by omega
      subst ht
      have:(C++Array.replicate (fn.ntmps - C.size) undef).getD t undef=C[t] := by
        simp[Array.getD, hj]
        omega
      rw[this]
      exact w.2 t a C[t] U (by simp[hj])
  have M:∀ {e:Exit} {a:Act} {y:Cx} {s:St}, NB (Dw P s) fn.results.toList r→x.le y→y.ok→y.H=hget s.h→y.n=s.n→B6 y s.e a→∃u, (results fn a.tmps).run P y.w=.ok u y.w∧∃u' V, Ending.returned u=.returned u'∧V.w=y.w∧x.le V∧V.ok∧AP V r u' := by
    intro e a y s E A q B _ X
    obtain⟨u, T, U⟩ := eF (P := P) (fn := fn) (y := y) (z := y.frozen) (a := a) (Dw P s) (λx r h => Dw.rep q B X x r h) E
    exact⟨u, T, u, y.frozen, rfl, rfl, A.trans Xq, T7 q, U⟩
  refine RA Z hb I J (hw x.n) λe s a y E A q B O X => ?_
  cases e with
  | normal => exact⟨.inl rfl, M (e := .normal) E A q B O X⟩
  | ret => exact⟨.inr rfl, M (e := .ret) E A q B O X⟩
  | exit id => exact E.elim
  | goto l => exact E.elim
  | panic ch => exact E.elim
  | outgrown => exact E.elim
theorem Dw.t{s:St}{t}{r}(h:Fz s.h (get s.e t) r):Dw P s (.tmp t) r:=h
theorem Dw.a{s:St}{a t id g e sz}{cs:List AV}{r}(j:Bf P t sz)(l:get s.e a=.ptr id g 0 0)(q:hget s.h id=some (.box g e cs))(u:cs.length=sz)(h:Fz s.h (.agg cs) r):Dw P s (.cell a t) r:=.inr ⟨_,_,_,_,_,j,l,q,u,h⟩
end
theorem DU{ρ:Type}{P}{T r}{x}{s}{j}(l:ρ→AV)(e:some T=some r)(u:x=.ret∨x=.normal)(q:Dw P s j (l T)):Fd P [j] (l r) x s:=by
 cases e
 rcases u with rfl | rfl
 ·exact q
 ·exact q
theorem DH{ρ:Type}{P}{T r}{x}{s}{j l}(q:ρ→AV)(u:ρ→AV)(e:some T=some r)(B:x=.ret∨x=.normal)(w:Dw P s j (q T))(A:Dw P s l (u T)):Fd P [j,l] (.tup [q r,u r]) x s:=by
 cases e
 rcases B with rfl | rfl
 ·exact⟨_,rfl,⟨w,A,trivial⟩⟩
 ·exact⟨_,rfl,⟨w,A,trivial⟩⟩
theorem HW{ρ:Type}{P}{T r}{x}{s}{j l q}(u:ρ→AV)(w:ρ→AV)(A:ρ→AV)(e:some T=some r)(F:x=.ret∨x=.normal)(B:Dw P s j (u T))(C:Dw P s l (w T))(E:Dw P s q (A T)):Fd P [j,l,q] (.tup [u r,w r,A r]) x s:=by
 cases e
 rcases F with rfl | rfl
 ·exact⟨_,rfl,⟨B,C,E,trivial⟩⟩
 ·exact⟨_,rfl,⟨B,C,E,trivial⟩⟩
theorem Fz.d{h}{a}{d}(e:a=.r d):Fz h a (.r d):=by subst e;exact .one (.closed _ rfl)
theorem Fz.g{h}{a}{cs:List RV}{ds}(e:a=.agg ds)(e2:ds=cs.map .r):Fz h a (.agg ds):=by subst e;subst e2;exact .one (.closed _ (sa _))
theorem FS.of{P:Program}{t}{j:Array Field}{ds}(l:P.underlying t=some (.struct j))(q:P.stoodInHeld t=false)(u:P.eqGuardType P.depth t=false)(w:PJ P 0 j.toList ds):FS P t ds:=by
 have:P.fieldsOf t=j:=by unfold Program.fieldsOf;rw[l]
 exact⟨by rw[this];exact l,q,u,by rw[this];exact w⟩
open Go.ChangeShapes Go.WideShapes Go.Deep Go.WideElems Go.RowKit
section
variable{H:Type}{enc:TypeId × Value→H}{P:Program}{W:World}
end
end Go.Proofs.YtgcalnmhoifpoaaGreatDoor.Al

namespace Go.Proofs.YtgcalnmhoifpoaaGreatDoor.Al
open Go.ChangeShapes Go.WideShapes Go.Deep Go.WideElems Go.RowKit
structure Gi(H:Type) where
 B:DataW H→Nat
 one:∀d,1≤B d
 str:∀s:List UInt8,s.length+1≤B (.lit (.string s))
 sl:∀l r,(l.map B).sum+1≤B (.slice l r)
 agg:∀l,(l.map B).sum+1≤B (.agg l)
section
variable{H:Type}{enc:TypeId × Value→H}{P:Program}{W:World}(K:Gi H)
def BY(enc:TypeId × Value→H)(P:Program)(W:World)(t:TypeId){α:Type}(f:α→List RV)(ok:α→Prop)(μ:α→Nat):Prop:=
 ∀(j:Nat) (l:List Value) (x:DataW H × List MemPlace),DataW.trod enc P W 0 (λ_=>true) true j t l=some x→∃a,ok a∧Pe W l (f a)∧μ a≤K.B x.1
theorem BY.int{t}{k}(l:P.underlying t=some (.int k)):BY K enc P W t (λn:Int=>[.int k n]) (λn=>(Lit.int k n).wf=true) (λ_=>1):=by
 intro j u x h
 obtain⟨n,rfl,_,q⟩:=DataW.trod_int l h
 exact⟨n,q,.one (.int k n),K.one _⟩
theorem BY.str{t}(l:P.underlying t=some .string):BY K enc P W t (λs:List UInt8=>[.str s]) (λs=>s.length≤maxLen) (λs=>s.length+1):=by
 intro j u x h
 obtain⟨s,rfl,rfl,q⟩:=DataW.trod_string l h
 exact⟨s.data.toList,by simpa using q,.one (.str s),K.str _⟩
theorem pM{α β:Type}{l:List α}{m:List β}{f:α→Nat}{g:β→Nat}(j:l.length=m.length)(h:∀(i:Nat) (a:α) (b:β),l[i]?=some a→m[i]?=some b→f a≤g b):(l.map f).sum≤(m.map g).sum:=by
 induction l generalizing m with
 | nil=>simp
 | cons a l u=>
  cases m with
  | nil=>simp at j
  | cons b m=>
   have A:=h 0 a b rfl rfl
   have q:=u (m:=m) (by simpa using j) (λi a b q w=>h (i+1) a b (by simpa using q) (by simpa using w))
   simp only[wB,wv]
   omega
theorem BY.slice{t e}{sz}{α:Type}{f}{ok}{μ}(ht:P.underlying t=some (.slice e))(hc:P.cellsOf e=sz)(h0:0<sz)(h:BY K enc P W e f ok μ)(hf:∀a,(f a).length=sz) :
  BY K enc P W t (λl:List α=>[.sl (l.map f)]) (λl=>l.length≤maxLen∧∀a∈l,ok a) (λl=>(l.map μ).sum+1):=by
 intro aa cs x hx
 subst hc
 rcases open_slice ht hx with ⟨rfl,_⟩ | ⟨a,len,cap,m,n,D,Pl,rfl,_,hl,hm,a0,rfl,X⟩
 ·exact⟨[],⟨xd _,λ_ h=>by cases h⟩,.one .snil,K.one _⟩
 simp only[xZ] at a0
 have F:∀i,i<len→∃b,ok b∧μ b≤K.B (D i)∧∀j d,(f b)[j]?=some d→∃u,W.cell? ((a.add (i * P.cellsOf e)).add j)=some u∧BE W (· < W.heap.size) d u:=by
  intro i J
  obtain⟨A,q,w⟩:=X i (by omega)
  obtain⟨b,M,Y,hμ⟩:=h n _ _ w
  obtain⟨_,h3,h4⟩:=World.cells?_some q
  refine⟨b,M,hμ,λj d hj=>?_⟩
  have a1:j<(f b).length:=(vl.1 hj).1
  have I:j<A.length:=by rw[Y.1];exact a1
  refine⟨A[j],?_,Y.2 j d _ hj (vo I)⟩
  rw[h4 j (by rw[← h3];exact I)]
  exact vo I
 obtain⟨l,B,hq⟩:=Wi len F
 have a2:∀b∈l,ok b:=λb M=>by
  obtain⟨i,X⟩:=yK.1 M
  exact(hq i b X).1
 have hμ:(l.map μ).sum+1≤K.B (.slice ((List.range len).map D) ((List.range (m-len)).map λj=>D (len+j))):=by
  refine wq ?_ (K.sl _ _)
  have:=pM (l:=l) (m:=(List.range len).map D) (f:=μ) (g:=K.B) (by simpa using B) (λi a b q w=>by
   have J:i<len:=by rw[← B];exact(vl.1 q).1
   rw[wD,List.getElem?_range J] at w
   cases w
   exact(hq i a q).2.1)
  omega
 have C:∀i b,l[i]?=some b→∀j d,(f b)[j]?=some d→∃u,W.cell? ((a.add (i * P.cellsOf e)).add j)=some u∧BE W (· < W.heap.size) d u:=λi b M=>(hq i b M).2.2
 refine⟨l,⟨by rw[B];omega,a2⟩,.one ?_,hμ⟩
 subst B
 by_cases a6:cap=0
 ·have:l=[]:=wn (by omega)
  subst this;subst a6
  exact .sl0 a
 ·obtain⟨A,q,_⟩:=X 0 (by omega)
  obtain⟨_,h3,h4⟩:=World.cells?_some q
  have a7:∃u,W.cell? a=some u:=by
   have:=h4 0 h0
   rw[zR,show(a.add 0).add 0=a from rfl] at this
   exact⟨A[0]'(by omega),this.trans (vo (by omega))⟩
  obtain⟨u0,E⟩:=a7
  obtain⟨b,off,O⟩:=a
  have a8:O=none:=World.cell?_spot E
  subst a8
  have T:b<W.heap.size:=by
   unfold World.cell? at E
   rcases yQ b W.heap.size with h | h
   ·exact h
   ·rw[zA h] at E;cases E
  have U:∀i j,((⟨b,off,none⟩:Addr).add (i * P.cellsOf e)).add j=⟨b,off+i * P.cellsOf e+j,none⟩:=λi j=>by rw[Addr.add_lit,Addr.add_lit]
  have hu:∀(i:Nat) (row:List RV) (c:Nat) (d:RV),(l.map f)[i]?=some row→row[c]?=some d→∃u,W.cell? ⟨b,off+i * P.cellsOf e+c,none⟩=some u∧BE W (· < W.heap.size) d u:=by
   intro i row c d q w
   rw[wD,v8] at q
   obtain⟨z,V,rfl⟩:=q
   obtain⟨u,Z,h7⟩:=C i z V c d w
   rw[U] at Z
   exact⟨u,Z,h7⟩
  have:=BE.sl (w:=W) (S:=(· < W.heap.size)) b off (l.map f) cap (P.cellsOf e) (λi c=>(W.cell? ⟨b,off+i * P.cellsOf e+c,none⟩).getD undef) (λ_=>T) (by simpa using hl) hm
   (λrow Y=>by obtain⟨z,_,rfl⟩:=wu.1 Y;exact hf z)
   (λi row c d q w=>by obtain⟨u,V,_⟩:=hu i row c d q w;rw[V];rfl)
   (λi row c d q w=>by obtain⟨u,V,Z⟩:=hu i row c d q w;rw[V];exact Z)
  rwa [v7] at this
theorem Ib{t}{u:Array Field}{n}{l}{cs:List Value}{x}(E:P.underlying t=some (.struct u))(hC:P.cellsOf t=n)
 (h:DataW.trod enc P W 0 (λ_ => true) true l t cs=some x) :
    cs.length=n∧∃xs:List (DataW H × List MemPlace), x.1=.agg (xs.map (·.1))∧xs.length=u.size ∧
      ∀(j:Nat) (f:Field), u[j]?=some f→∃(y:DataW H × List MemPlace) (m:Nat), xs[j]?=some y∧DataW.trod enc P W 0 (λ_ => true) true m f.type ((cs.drop f.offset).take (P.cellsOf f.type))=some y := by
  obtain⟨w, F, I, rfl, q, A, J⟩ := DataW.trod_struct E h
  refine⟨q.trans hC, w, rfl, A, λj f B => ?_⟩
  have M:j<u.size := (wm.1 B).1
  have O := J j f B
  have C:w[j]?=some w[j] := vo (by omega)
  exact⟨w[j], F, C, O.trans C⟩
theorem Pe.part{cs:List Value}{off k jj}{row}{d}{u}(h:Pe W ((cs.drop off).take k) row)(j:Nat.blt jj k=true)(l:row[jj]?=some d)(q:cs[off+jj]?=some u):BE W (· < W.heap.size) d u:=by
 refine h.2 jj d u l ?_
 rw[wW,vh (Cn j),xJ]
 exact q
theorem fq{t:TypeId}{α:Type}{q:α→RV}{ok:α→Prop}{μ:α→Nat}{v:Value}{d:DataW H}{p:List MemPlace}(w:BY K enc P W t (λa:α=>[q a]) ok μ)(A:v.cells = #[v])
  (h:DataW.Trod enc P W 0 (λ_=>true) true t v d p):∃a,ok a∧BE W (· < W.heap.size) (q a) v∧μ a≤K.B d:=by
 obtain⟨j,B⟩:=h
 obtain⟨l,C,u,E⟩:=w j _ _ B
 rw[A] at u
 exact⟨l,C,u.2 0 _ _ rfl rfl,E⟩
theorem kv{t e}{α:Type}{f}{ok}{μ}{v}{d}{p}{r}{b0}(q:P.underlying t=some (.slice e))(u:BY K enc P W t (λl:List α => [.sl (l.map f)]) ok μ)
 (j:Value.okWide P W r b0 t v) (h:DataW.Trod enc P W 0 (λ_ => true) true t v d p):∃l, ok l∧BE W (· < W.heap.size) (.sl (l.map f)) v∧μ l≤K.B d := by
  obtain⟨a, len, cap, rfl⟩ := okWide_slice q j
  exact fq K u rfl h
theorem ol{t}{v}{d}{p}{r}{b0}(l:P.underlying t=some .string)(j:Value.okWide P W r b0 t v)(h:DataW.Trod enc P W 0 (λ_=>true) true t v d p) :
  ∃s:List UInt8,s.length≤maxLen∧BE W (· < W.heap.size) (.str s) v∧s.length+1≤K.B d:=by
 obtain⟨s,rfl⟩:=okWide_string l j
 exact fq K (BY.str K l) rfl h
end
end Go.Proofs.YtgcalnmhoifpoaaGreatDoor.Al

namespace Go.Proofs.YtgcalnmhoifpoaaGreatDoor.Al
theorem Ih{α:Type}{l q:List α}(w:l.length=q.length)(h:∀(j:Nat) (y:α),q[j]?=some y→l[j]?=some y):l=q:=by
 apply List.ext_getElem? 
 intro i
 rcases yQ i q.length with u | u
 ·rw[h i _ (vo u),vo u]
 ·rw[zQ u,zQ (by omega)]
theorem Lf{α:Type}{μ}(h:∀x,1≤μ x)(l:List α):l.length≤(l.map μ).sum:=by
 induction l with
 | nil=>simp
 | cons a l j=>have:=h a;simp only[v6,wB,wv];omega
theorem HB{α:Type}{μ:α→Nat}{l:List α}{a:α}(h:a∈l):μ a≤(l.map μ).sum:=by
 induction l with
 | nil=>cases h
 | cons b l j=>
  simp only[wB,wv]
  rcases wC.1 h with rfl | h
  ·omega
  ·have:=j h;omega
def Ch(k:IntKind)(a b:Int):Int:=k.wrap (BitVec.ofInt k.bits a &&& BitVec.ofInt k.bits b).toNat
def ET(k:IntKind)(a b:Int):Int:=k.wrap (BitVec.ofInt k.bits a ||| BitVec.ofInt k.bits b).toNat
def Uo(k:IntKind)(a b:Int):Int:=k.wrap (BitVec.ofInt k.bits a ^^^ BitVec.ofInt k.bits b).toNat
def PT(k:IntKind)(a b:Int):Int:=k.wrap (BitVec.ofInt k.bits a &&& ~~~BitVec.ofInt k.bits b).toNat
def Dv(k:IntKind)(a:Int)(n:Nat):Int:=k.wrap (a * 2 ^ (min n k.bits))
def Fo(k:IntKind)(a:Int)(n:Nat):Int:=a.fdiv (2 ^ (min n k.bits))
def GN(s:List UInt8)(p:Nat):Nat × Nat:=Utf8.decode ⟨s.toArray⟩ p
def Rl(s:List UInt8):Option Bool:=if s.length≤9223372036854775807 then some (Lib.validD s) else none
def Nn{α:Type}(l:List α)(j:Int)(z0:α):Option (List α):=if 0≤j∧j≤l.length then some (l.take j.toNat++List.replicate (l.length-j.toNat) z0) else none
open Go.Shelf Go.Proofs
def sL:Go.Shelf.Ren:=⟨fun | 196=>180 | 259=>209 | n=>n,fun | 9=>9 | 4=>4 | 3=>3 | 5=>5 | 12=>12 | 119=>192 | 0=>0 | 46=>193 | 139=>196 | 138=>195 | 53=>261 | n=>n,fun | 3=>0 | 4=>1 | n=>n⟩
theorem mx:Go.Proofs.Lays.n196 Tryz.prog sL:={
 mixed:=by kernel_rfl
 f196:=Tryz.func180.trans (yC some (by kernel_rfl))
 f259:=Tryz.func209.trans (yC some (by kernel_rfl))
 t0:=Tryz.underlying0
 a0:=Tryz.isAgg0
 z0:=Tryz.sizeOf0
 v0:=Tryz.zeroValue0
 t3:=Tryz.underlying3
 a3:=Tryz.isAgg3
 z3:=Tryz.sizeOf3
 v3:=Tryz.zeroValue3
 t4:=Tryz.underlying4
 a4:=Tryz.isAgg4
 z4:=Tryz.sizeOf4
 v4:=Tryz.zeroValue4
 t5:=Tryz.underlying5
 a5:=Tryz.isAgg5
 z5:=Tryz.sizeOf5
 v5:=Tryz.zeroValue5
 t9:=Tryz.underlying9
 a9:=Tryz.isAgg9
 z9:=Tryz.sizeOf9
 v9:=Tryz.zeroValue9
 t12:=Tryz.underlying12
 a12:=Tryz.isAgg12
 z12:=Tryz.sizeOf12
 v12:=Tryz.zeroValue12
 t46:=Tryz.underlying193
 a46:=Tryz.isAgg193
 z46:=Tryz.sizeOf193
 v46:=Tryz.zeroValue193
 t53:=Tryz.underlying261
 a53:=Tryz.isAgg261
 z53:=Tryz.sizeOf261
 v53:=Tryz.zeroValue261
 t119:=Tryz.underlying192
 a119:=Tryz.isAgg192
 z119:=Tryz.sizeOf192
 t138:=Tryz.underlying195
 a138:=Tryz.isAgg195
 z138:=Tryz.sizeOf195
 v138:=Tryz.zeroValue195
 t139:=Tryz.underlying196
 a139:=Tryz.isAgg196
 z139:=Tryz.sizeOf196
 v139:=Tryz.zeroValue196
 g3:=by kernel_rfl
 g4:=by kernel_rfl }
end Go.Proofs.YtgcalnmhoifpoaaGreatDoor.Al

namespace Go.Proofs.YtgcalnmhoifpoaaGreatDoor.Al
section
variable{P:Program}{ops:Array Oper}{md:Region.Mode}{Q:Exit→Act→World→Prop}{S:World→Prop}
def LH(P:Program)(md:Region.Mode)(ops:Array Oper)(Q:Exit→Act→World→Prop)(S:World→Prop)(L:Array Bool→Act→World→Prop):Nat→Array Bool→Act→World→Prop
 | 0,j,a,w=>L j a w
 | f+1,j,a,w=>Region.ready md ops j≠[]∧∀i∈Region.ready md ops j,wpOp P ops Q i (λl w'=>S w'∧LH P md ops Q S L f (j.setIfInBounds i true) l w') a w
theorem eH{g}{L}(j:∀listed a w,L listed a w→wpAny P md ops Q g listed a w) :
  ∀(f:Nat) (listed:Array Bool) (a:Act) (w:World),LH P md ops Q S L f listed a w→wpAny P md ops Q (f+g) listed a w
 | 0,listed,a,w,h=>by rw[wK];exact j _ _ _ h
 | f+1,listed,a,w,h=>by
  rw[show f+1+g=(f+g)+1 by omega]
  exact⟨λl=>absurd l h.1,λi q=>wpOp_mono (λu w' A=>eH j f _ u w' A.2) (h.2 i q)⟩
structure HI(md:Region.Mode)(ops:Array Oper)(n:Nat)(l0 listed:Array Bool):Prop where
 size:listed.size=ops.size
 closed:∀j oj,ops[j]?=some oj→listed.getD j false=true→l0.getD j false=true∨∀e∈oj.after,Region.binds md e=true→listed.getD e.on false=true
 tail:∀t,n≤t→t<ops.size→listed.getD t true=false
 mono:∀j,l0.getD j false=true→listed.getD j false=true
theorem HI.set{n i}{l0 listed:Array Bool}(l:HI md ops n l0 listed)(J:i∈Region.ready md ops listed)(M:i<n):HI md ops n l0 (listed.setIfInBounds i true):=by
 obtain⟨_,O,A,q⟩:=mem_ready.1 J
 refine⟨by simp[l.size],λj F w I=>?_,λt T B=>by rw[getD_set_ne true (by omega)];exact l.tail t T B,λj w=>getD_set_true (l.mono j w)⟩
 by_cases u:i=j
 ·subst u
  have:F=O:=wY (w.symm.trans A)
  subst this
  exact .inr λe C E=>getD_set_true (q e C E)
 ·rw[getD_set_ne false u] at I
  rcases l.closed j F w I with h | h
  ·exact .inl h
  ·exact .inr λe C E=>getD_set_true (h e C E)
def Rm(md:Region.Mode)(ops:Array Oper)(n:Nat)(l0:Array Bool):Bool:=
 (List.range n).all λi=>l0.getD i false||(List.range (n+1)).any λj=>(i<j)&&!l0.getD j false&&Region.waitsFor md ops j i
theorem cN{n}{l0 listed:Array Bool}(hs:Rm md ops n l0=true)(hc:Region.chainB md ops n=true)(hn:n<ops.size)(q:HI md ops n l0 listed) :
  ∀(d i:Nat),n-i=d→i<n→listed.getD i true=false→∀t,n≤t→t ∉ Region.ready md ops listed:=by
 intro d
 induction d using Nat.strongRecOn with
 | _ d ih=>
  intro i hd hi C t ht X
  obtain⟨_,Y,hot,A⟩:=mem_ready.1 X
  have E:t<ops.size:=(wm.1 hot).1
  by_cases M:t=n
  ·subst M
   have l:=wI.1 hs i (wU.2 hi)
   rw[vt] at l
   rcases l with l | l
   ·have:=q.mono i l
    rw[getD_both C] at this;cases this
   obtain⟨j,hj,u⟩:=yt.1 l
   simp only[vm,vi,wl] at u
   obtain⟨Z,F,e,I,J,w⟩:=Region.waitsFor_spec u.2
   have a0:j≤t:=by have:=wU.1 hj;omega
   by_cases O:j=t
   ·subst O
    have:Z=Y:=wY (F.symm.trans hot)
    subst this
    have B:=A e I J
    rw[w,getD_both C] at B
    cases B
   ·cases hl:listed.getD j false with
    | true=>
     rcases q.closed j Z F hl with T | T
     ·rw[T] at u;cases u.1.2
     ·have B:=T e I J
      rw[w,getD_both C] at B
      cases B
    | false=>
     have U:j<listed.size:=by rw[q.size];omega
     exact ih (t-j) (by omega) j rfl (by omega) (getD_in U hl) t (vu _) X
  ·have l:=wI.1 hc t (wU.2 E)
   simp only[vt,vi] at l
   rcases l with l | l
   ·omega
   ·obtain⟨o',V,e,I,J,w⟩:=Region.waitsFor_spec l
    have:o'=Y:=wY (V.symm.trans hot)
    subst this
    have B:=A e I J
    rw[w,getD_both (q.tail (t-1) (by omega) (by omega))] at B
    cases B
theorem lu{n i}{I:Oper}{v}{l0}{L}(hi:ops[i]?=some I)(C:∀(j:Nat) (o:Oper) U b, ops[j]?=some o→o.op≠.select U b)
 (hQ:∀c a w, Q (.panic c) (a.put I.dst v) w→Q (.panic c) a w) (hs:Rm md ops n l0=true) (hc:Region.chainB md ops n=true) (hn:n<ops.size) (V:i<n)
 (J:∀listed a w, L listed a w→∀j ∈ Region.ready md ops listed, n≤j) :
    ∀(f:Nat) (listed:Array Bool) (a:Act) (w:World), HI md ops n l0 listed →
      (∀j M, ops[j]?=some M→j≠i→listed.getD j true=false→(∀e ∈ M.after, Region.binds md e=true→e.on≠i)→I.apart ops M=true) →
      i ∈ Region.ready md ops listed→YieldsIf P ops S I v a→S w →
      LH P md ops Q S L f (listed.setIfInBounds i true) (a.put I.dst v) w→LH P md ops Q S L (f+1) listed a w := by
  intro f
  induction f with
  | zero =>
    intro listed a w A _ E hy X H
    have q := (mem_ready.1 E).1
    refine⟨λh => (by rw[h] at E;cases E), λj O => ?_⟩
    have Y:j<n := by
      rcases yQ j n with h | h
      · exact h
      · exact absurd O (cN hs hc hn A _ i rfl V q j h)
    by_cases l:j=i
    · subst l;exact hy.wpOp hi X ⟨X, H⟩
    · have := J _ _ _ H j (ready_mono O l)
      omega
  | succ f ih =>
    intro listed a w A u E hy X H
    have q := (mem_ready.1 E).1
    refine⟨λh => (by rw[h] at E;cases E), λj O => ?_⟩
    have Y:j<n := by
      rcases yQ j n with h | h
      · exact h
      · exact absurd O (cN hs hc hn A _ i rfl V q j h)
    by_cases l:j=i
    · subst l;exact hy.wpOp hi X ⟨X, H⟩
    · have h1 := H.2 j (ready_mono O l)
      obtain⟨F, M, T, Z⟩ := mem_ready.1 O
      have a0:∀e ∈ M.after, Region.binds md e=true→e.on≠i := λe he hb heq => by
        have h1 := Z e he hb
        rw[heq, getD_both q] at h1
        cases h1
      have h2 := wpOp_putIf T (u j M T l F a0) (λU b => C i I U b hi) (λU b => C j M U b T) hQ hy h1
      have B:∀k ok, ops[k]?=some ok→k≠i→(listed.setIfInBounds j true).getD k true=false →
          (∀e ∈ ok.after, Region.binds md e=true→e.on≠i)→I.apart ops ok=true := λk ok hk a2 q a6 => by
        refine u k ok hk a2 ?_ a6
        by_cases a1:j=k
        · subst a1;exact F
        · rw[getD_set_ne true a1] at q;exact q
      refine wpOp_mono (λa' w' h3 => ⟨h3.2.1, ih (listed.setIfInBounds j true) a' w' (A.set O Y) B (ready_mono E (Ne.symm l)) h3.1 h3.2.1 ?_⟩) h2
      rw[Array.setIfInBounds_comm _ _ l]
      exact h3.2.2
def KY(md:Region.Mode)(ops:Array Oper):List Nat→Array Bool→Bool
 | [],_=>true
 | i::l,j=>(Region.ready md ops j).contains i&&Region.free md ops j i&&KY md ops l (j.setIfInBounds i true)
def Rq(md:Region.Mode)(ops:Array Oper):List Nat→Array Bool→Bool
 | [],_=>true
 | i::l,j=>(Region.ready md ops j=[i])&&Rq md ops l (j.setIfInBounds i true)
def D6(listed:Array Bool)(j:List Nat):Array Bool:=j.foldl (λl i=>l.setIfInBounds i true) listed
def QU(P:Program)(ops:Array Oper)(S:World→Prop)(j:Act→Prop):List Oper→Act→Prop
 | [],a=>j a
 | o::rest,a=>∃v,YieldsIf P ops S o v a∧QU P ops S j rest (a.put o.dst v)
def XL(P:Program)(ops:Array Oper)(Q:Exit→Act→World→Prop)(S:World→Prop)(j:Act→World→Prop):List Oper→Act→World→Prop
 | [],a,w=>j a w
 | o::rest,a,w=>o.guard=none∧o.wp P a w (λl w'=>S w'∧XL P ops Q S j rest l w') Q
def U7(Q:Exit→Act→World→Prop):Prop:=∀c a w,¬ Q (.panic c) a w
theorem Y9(j:Region.noSelect ops=true)(B:U7 Q){f} : ∀(q:List Nat) (l:List Oper) (listed:Array Bool) (a:Act) (w:World),q.map (λi=>ops[i]?)=l.map some→KY md ops q listed=true →
  QU P ops (λ_=>True) (λa'=>wpAny P md ops Q f (D6 listed q) a' w) l a→wpAny P md ops Q (f+q.length) listed a w
 | [],[],listed,a,w,_,_,h=>h
 | [],_::_,_,_,_,h,_,_=>by cases h
 | _::_,[],_,_,_,h,_,_=>by cases h
 | i::q,o::l,listed,a,w,u,hB,⟨v,C,h⟩=>by
  simp only[KY,vm] at hB
  obtain⟨⟨E,F⟩,A⟩:=hB
  simp only[wB,yv] at u
  have:=Y9 j B q l (listed.setIfInBounds i true) (a.put o.dst v) w u.2 A h
  rw[v6,← xl]
  refine wpAny_take u.1 j F E (λc a w h=>absurd h (B _ _ _)) ?_ this
  exact C.imp (λ⟨I,J⟩=>⟨I,λw=>J w trivial⟩) id
theorem eT{n:Nat}{l0:Array Bool}{L:Array Bool→Act→World→Prop} : ∀(q:List Nat) (l:List Oper) (listed:Array Bool) (a:Act) (w:World),q.map (λi=>ops[i]?)=l.map some→Rq md ops q listed=true →
  XL P ops Q S (λa' w'=>L (D6 listed q) a' w') l a w→LH P md ops Q S L q.length listed a w
 | [],[],listed,a,w,_,_,h=>h
 | [],_::_,_,_,_,h,_,_=>by cases h
 | _::_,[],_,_,_,h,_,_=>by cases h
 | i::q,o::l,listed,a,w,u,hB,⟨hg,h⟩=>by
  simp only[Rq,vm,vi] at hB
  simp only[wB,yv] at u
  refine⟨by rw[hB.1];simp,λj A=>?_⟩
  rw[hB.1] at A
  have:j=i:=by simpa using A
  subst this
  unfold wpOp
  simp only[u.1]
  rw[vh (by simp[Region.wanted,hg])]
  exact .inl (Oper.wp_mono (λa' w' B=>⟨B.1,eT (n:=n) (l0:=l0) q l _ a' w' u.2 hB.2 B.2⟩) h)
theorem gu{n}{l0}{L}{f}(u:Region.noSelect ops=true)(M:U7 Q)(O:Rm md ops n l0=true)(hc:Region.chainB md ops n=true)(T:n<ops.size)
 (q:∀listed a w, L listed a w→∀j ∈ Region.ready md ops listed, n≤j) {w} (U:S w):∀(A:List Nat) (l:List Oper) (listed:Array Bool) (a:Act), A.map (λi => ops[i]?)=l.map some→KY md ops A listed=true →
    (∀i ∈ A, i<n)→HI md ops n l0 listed →
    QU P ops S (λa' => LH P md ops Q S L f (D6 listed A) a' w) l a→LH P md ops Q S L (f+A.length) listed a w
  | [], [], listed, a, _, _, _, _, h => h
  | [], _::_, _, _, h, _, _, _, _ => by cases h
  | _::_, [], _, _, h, _, _, _, _ => by cases h
  | i::A, o::l, listed, a, I, hB, B, C, ⟨v, V, h⟩ => by
    simp only[KY, vm] at hB
    obtain⟨⟨X, Y⟩, J⟩ := hB
    simp only[wB, yv] at I
    have E:i ∈ Region.ready md ops listed := by simpa using X
    have F := B i (vn ..)
    have := gu u M O hc T q U A l (listed.setIfInBounds i true) (a.put o.dst v) I.2 J (λj Z => B j (vp _ Z)) (C.set E F) h
    rw[v6, ← xl]
    exact lu I.1 (Region.noSelect_spec u) (λc a w h => absurd h (M _ _ _)) O hc T F q _ listed a w C (Region.free_spec I.1 Y) E V U this
end
end Go.Proofs.YtgcalnmhoifpoaaGreatDoor.Al
