/- The program logic, a part of it. -/
import Derived.Below
import Derived.CallsIn
import Derived.ChangeArms
import Derived.ChangeSame
import Derived.Deep.Fields
import Derived.Deep.LoopGhost
import Derived.Deep.Quiet
import Derived.Deep.Slices
import Derived.Laws.CopyRow
import Derived.Laws.StructEq
import Derived.Lib.ItoaNum
import Derived.Lib.ValidU
import Derived.MapKept
import Derived.Maps.AppendAt
import Derived.Maps.RangeRun
import Derived.OpenShut
import Derived.OrdersIn
import Derived.RangeFuncRecord
import Derived.Sort.LoopGhostIn
import Derived.StillTail
import Derived.WalkKit
import Derived.WalkLawsBesides
import Derived.WideKeyArgs
import GoSem.Core.Utf8
set_option linter.all false
namespace Go.Proofs.YtcgleifameckmaaGreatDoor.Al
def wv:=@if_neg
def ww:=@if_pos
def wx:=@List.getElem?_eq_some_iff
def wy:=@Nat.le_refl
def wz:=@List.getElem?_eq_getElem
def w0:=@decide_eq_false
def w9:=@decide_eq_true
def xD:=@Nat.lt_of_lt_of_le
def xE:=@Bool.and_eq_true
def xF:=@Option.some.injEq
def xG:=@decide_eq_true_eq
def xJ:=@List.getElem?_map
def xK:=@Option.map_eq_some_iff
def xM:=@Prod.mk.injEq
def xP:=@List.getElem?_append_right
def xR:=@Nat.eq_of_beq_eq_true
def xT:=@List.getElem?_append_left
def xW:=@Nat.le_trans
def xY:=@List.mem_cons_self
def xZ:=@List.mem_cons_of_mem
def xa:=@List.mem_of_getElem?
def xc:=@congrArg
def xd:=@Nat.zero_add
def xe:=@Array.getElem?_eq_getElem
def xf:=@List.all_eq_true
def xg:=@getElem!_pos
def xh:=@Option.some.inj
def xi:=@Nat.mul_le_mul_right
def xj:=@List.map_cons
def xk:=@List.length_map
def xl:=@Bool.or_eq_true
def xm:=@Classical.not_not
def xn:=@List.getElem?_take
def xo:=@Array.getElem?_toList
def xp:=@Classical.byContradiction
def xq:=@Array.length_toList
def xr:=@List.getElem?_drop
def xt:=@Array.getElem?_eq_some_iff
def xu:=@Nat.le_of_ble_eq_true
def xw:=@List.getElem_mem
def xx:=@List.drop_eq_getElem_cons
def xy:=@List.length_append
def xz:=@List.length_cons
def yA:=@List.mem_range
def yC:=@List.getElem?_set
def yD:=@List.mem_cons
def yE:=@List.exists_of_findSome?_eq_some
def yF:=@Option.map_some
def yG:=@Nat.add_zero
def yH:=@List.mem_iff_getElem
def yJ:=@Option.bind_some
def yK:=@List.foldl_cons
def yL:=@Nat.zero_le
def yM:=@List.mem_iff_getElem?
def yN:=@List.getElem?_eq_none
def yO:=@Bool.true_and
def yP:=@Option.getD_some
def yQ:=@List.append_assoc
def yR:=@List.nil_append
def yS:=@beq_self_eq_true
def yT:=@List.mem_map
def yU:=@Nat.add_mul
def yV:=@List.cons_append
def yW:=@Bool.false_or
def yX:=@List.eq_nil_of_length_eq_zero
def yY:=@List.mem_append
def yZ:=@List.length_take
def ya:=@List.length_pos_iff
def yc:=@Bool.not_eq_true'
def yd:=@List.map_nil
def ye:=@Nat.lt_succ_self
def yf:=@List.flatMap_cons
def yg:=@List.ext_getElem?
def yh:=@List.length_set
def yi:=@Prod.mk.inj
def yj:=@Nat.ble_eq
def yk:=@Nat.blt_eq
def yl:=@List.sum_cons
def ym:=@Nat.ne_of_beq_eq_false
def yn:=@Nat.one_mul
def yo:=@Int.toNat_natCast
def yp:=@List.mem_or_eq_of_mem_set
def yq:=@List.map_append
def yr:=@List.getElem?_set_ne
def yt:=@Bool.and_eq_true_iff
def yu:=@List.getElem?_cons_succ
def yv:=@List.append_nil
def yw:=@List.getElem?_set_self
def yx:=@Array.getElem?_eq_none
def yy:=@List.drop_eq_nil_of_le
def yz:=@Nat.add_assoc
def y8:=@List.any_eq_true
def y9:=@List.length_singleton
def zA:=@List.mem_singleton
def zC:=@Bool.false_and
def zD:=@List.length_filter_le
def zG:=@List.pairwise_iff_getElem
def zH:=@Nat.le_succ
def zJ:=@Nat.mul_comm
def zK:=@List.findSome?_cons
def zL:=@List.drop_zero
def zM:=@Nat.zero_mul
def zO:=@List.pairwise_cons
def zP:=@Array.getElem?_append_left
def zQ:=@List.nodup_iff_pairwise_ne
def zR:=@List.getD_eq_getElem?_getD
def zT:=@List.mem_append_left
def zU:=@dif_pos
def zV:=@Nat.lt_or_ge
def zW:=@Nat.sub_self
def zX:=@List.sum_nil
def zY:=@Option.map_none
def zZ:=@List.cons.injEq
def za:=@List.mem_filter
def zb:=@Bool.false_eq_true
def zc:=@List.size_toArray
def zd:=@List.pairwise_map
def ze:=@Bool.eq_false_iff
def zf:=@List.mem_append_right
def zg:=@Nat.le_of_eq
def zh:=@UInt8.lt_iff_toNat_lt
def zi:=@Nat.div_eq_of_lt
def zj:=@Bool.not_eq_true
def zk:=@Bool.and_self
def zl:=@List.findSome?_eq_none_iff
def zm:=@if_true
def zn:=@List.getElem?_range
def zp:=@Nat.mul_add_div
def zq:=@List.length_nil
def zr:=@Nat.le_add_left
def zt:=@and_true
def zu:=@Ne.symm
def zw:=@Nat.add_sub_cancel_left
def zx:=@decide_eq_false_iff_not
def zy:=@List.length_eq_zero_iff
def z6:=@of_decide_eq_true
def z7:=@Array.getElem?_extract
def z8:=@List.take_of_length_le
def WAA:=@Bool.not_true
def WAB:=@List.any_cons
def WAC:=@List.cons_ne_nil
def WAD:=@Nat.mod_eq_of_lt
def WAE:=@List.map_toArray
def WAF:=@if_false
def WAG:=@Array.toList_map
def WAH:=@Nat.le_add_right
def WAI:=@Array.all_eq_true_iff_forall_mem
def WAJ:=@List.nodup_range
def WAK:=@decide_eq_decide
def WAL:=@Nat.div_lt_iff_lt_mul
def WAM:=@dif_neg
def WAN:=@List.set_append_right
def WAO:=@List.countP_mono_left
def WAP:=@List.range_eq_range'
def WAQ:=@Bool.true_or
def WAR:=@List.mem_of_mem_drop
def WAS:=@List.map_set
def WAT:=@Array.eq_empty_of_size_eq_zero
def WAU:=@List.take_succ_cons
def WAV:=@List.filterMap_cons
def WAW:=@Bool.not_false
def WAX:=@List.all_cons
def WAY:=@List.length_range
def WAZ:=@Nat.lt_succ_of_lt
def WAa:=@Int.emod_eq_of_lt
def WAb:=@List.take_length
def WAc:=@List.length_drop
def WAd:=@List.ext_getElem
def WAe:=@Option.getD_none
def WAf:=@List.mem_flatMap
def WAg:=@List.filter_cons
def WAh:=@Nat.beq_refl
inductive RV where
 | int (k:IntKind) (n:Int)
 | bool (b:Bool)
 | str (s:List UInt8)
 | sl (xs:List (List RV))
 | slf (xs:List (List RV))
 | any
def IU:Nat:=3
def Ik:Nat:=4
def GH:List Int:=List.replicate 128 240++(List.replicate 66 241++(List.replicate 30 2++([19]++(List.replicate 12 3++([35]++(List.replicate 2 3++([52]++(List.replicate 3 4++([68]++List.replicate 11 241)))))))))
def Je:List (Int × Int):=[(128,191),(160,191),(128,159),(144,191),(128,143)]++List.replicate 11 (0,0)
def HP:Nat->Option (List RV):=λg=>
 if g=IU then some (GH.flatMap λz=>[.int .u8 z]) else if g=Ik then some (Je.flatMap λp=>[.int .u8 p.1,.int .u8 p.2]) else none
def XN:Nat:=2
def TD:Nat->Option (Array Value):=λg=>if g=XN then some ((Lib.pow10Tab.map λz=>Value.int .u64 z).toArray) else none
def YO:Nat:=0
def aL:Nat:=1
def WB(w:World):Prop:=(∃t p,w.cell? ⟨YO,0,none⟩=some (.iface t p))/\∃t p,w.cell? ⟨aL,0,none⟩=some (.iface t p)
inductive AV where
 | r (x:RV)
 | agg (cs:List AV)
 | tup (vs:List AV)
 | own (id g:Nat)
 | pre (id g k:Nat)
 | ptr (id g i k:Nat)
 | rop (row:List RV) (k:Nat)
 | fn (f:FuncId) (caps:List AV)
 | mref (id g:Nat)
 | yld (id g:Nat)
 | full (xs:List (List RV))
 | pk (id g v j k:Nat)
 | fo (id g v:Nat) (key:Int)
 | cst (v:Value)
 | whn (b:Bool) (v:AV)
 | ifc (nil:Bool)
 | any
structure FE where
 P:Program
 A:List (List RV)->Option Bool
 b:Nat
 S:Nat->Prop
 J:List (List RV)->World->(Nat->Prop)->Prop
inductive AU where
 | arr (g:Nat) (e:TypeId) (sz:Nat) (xs:List (List RV))
 | box (g:Nat) (e:TypeId) (cs:List AV)
 | hot (g:Nat) (e:TypeId) (xs:List (List RV)) (k id g':Nat)
 | it (g:Nat) (s:List UInt8) (pos:Nat)
 | mp (g:Nat) (ks:List (Int × Nat)) (vs:List AV) (clock:Nat)
 | mi (g mid mg since:Nat) (seen:List Nat) (last:Nat)
 | lp (g:Nat) (e:List (Nat × AV)) (N:Nat) (ps:List Nat) (assign body:Code) (st:LoopState) (pend:Option Code)
 | md (g:Nat) (l:List (Int × RV))
 | mb (g v:Nat) (e:TypeId) (l:List (Int × List RV))
 | mr (g v:Nat) (e:TypeId) (sz:Nat) (hole:Option (Nat × Bool)) (l:List (Int × List (List RV)))
 | mj (g mid mg len:Nat) (seen:List Nat)
 | cal (g:Nat) (W:FE) (ys:List (List RV))
 | rr (g:Nat) (e:TypeId) (sz col:Nat) (e2:TypeId) (sz2:Nat) (hole:Option (Nat × Nat × Nat)) (xs:List (List RV))
def AU.gen:AU->Nat
 | .arr g _ _ _=>g
 | .box g _ _=>g
 | .hot g _ _ _ _ _=>g
 | .it g _ _=>g
 | .mp g _ _ _=>g
 | .mi g _ _ _ _ _=>g
 | .lp g _ _ _ _ _ _ _=>g
 | .md g _=>g
 | .mb g _ _ _=>g
 | .mr g _ _ _ _ _=>g
 | .mj g _ _ _ _=>g
 | .cal g _ _=>g
 | .rr g _ _ _ _ _ _ _=>g
def AU.shape:AU->Bool × Nat × Nat
 | .arr _ _ sz xs=>(true,sz,xs.length)
 | .box _ _ j=>(false,j.length,1)
 | .hot _ _ xs _ _ _=>(true,1,xs.length)
 | .it _ _ _=>(false,1,1)
 | .mp _ _ _ _=>(false,1,1)
 | .mi _ _ _ _ _ _=>(false,1,1)
 | .lp _ _ _ _ _ _ _ _=>(false,1,1)
 | .md _ _=>(false,1,1)
 | .mb _ _ _ _=>(false,1,1)
 | .mr _ _ _ _ _ _=>(false,1,1)
 | .mj _ _ _ _ _=>(false,1,1)
 | .cal _ _ _=>(false,0,2)
 | .rr _ _ sz _ _ _ _ xs=>(true,sz,xs.length)
def AU.isCal:AU->Bool
 | .cal _ _ _=>true
 | _=>false
theorem T5{o j:AU}(h:o.shape=j.shape):o.isCal=j.isCal:=by
 cases o<;>cases j<;>first | rfl | (simp[AU.shape] at h;done)
def Ao{α:Type} : List (Int × α)->Int->Option Nat
 | [],_=>none
 | p::r,k=>if k=p.1 then some 0 else(Ao r k).map (· + 1)
def AU.ver:AU->Nat
 | .mb _ v _ _=>v
 | .mr _ v _ _ _ _=>v
 | _=>0
def AU.isFam:AU->Bool
 | .mb _ _ _ _=>true
 | .mr _ _ _ _ _ _=>true
 | _=>false
def AU.kshape:AU->List (Int × Option Nat)
 | .mb _ _ _ l=>l.map λp=>(p.1,some p.2.length)
 | .mr _ _ _ _ _ l=>l.map λp=>(p.1,some p.2.length)
 | _=>[]
abbrev Aa:=List (Nat × AV)
abbrev AL:=List (Nat × Option AU)
def get:Aa->Nat->AV
 | [],_=>.any
 | (t,v)::r,k=>match Nat.beq t k with | true=>v | false=>get r k
def hget:AL->Nat->Option AU
 | [],_=>none
 | (t,v)::r,k=>match Nat.beq t k with | true=>v | false=>hget r k
inductive A4(w:World)(S:Nat->Prop):RV->Value->Prop
 | int (k:IntKind) (n:Int):A4 w S (.int k n) (.int k n)
 | bool (b:Bool):A4 w S (.bool b) (.bool b)
 | str (s:ByteArray):A4 w S (.str s.data.toList) (.string s)
 | snil:A4 w S (.sl []) (.slice none 0 0)
 | sl0 (a:Addr):A4 w S (.sl []) (.slice (some a) 0 0)
 | sl (b off:Nat) (xs:List (List RV)) (cap size:Nat) (u:Nat->Nat->Value) (hS:xs≠[]->S b) (hc:xs.length<=cap) (hm:cap<=maxLen)
   (hsz:∀row∈xs,row.length=size)
   (hcell:∀i row c x,xs[i]?=some row->row[c]?=some x->w.cell? ⟨b,off+i * size+c,none⟩=some (u i c))
   (hrep:∀i row c x,xs[i]?=some row->row[c]?=some x->A4 w S x (u i c)) :
   A4 w S (.sl xs) (.slice (some ⟨b,off,none⟩) xs.length cap)
 | any (v:Value) (h:v.oneCell'=true):A4 w S .any v
 | slf {xs:List (List RV)} {v:Value} (h:A4 w S (.sl xs) v) (hf:∃a,v=.slice a xs.length xs.length):A4 w S (.slf xs) v
theorem A4.one{w}{S}{x}{v:Value}(h:A4 w S x v):v.oneCell'=true:=by
 cases h<;>first | rfl | assumption | (rename_i j;obtain⟨a,rfl⟩:=j;rfl)
theorem A4.mono{w w':World}{S S'}(C:∀b, S b->w'.heap[b]?=w.heap[b]?)(E:∀b, S b->S' b){x}{v}
 (h:A4 w S x v):A4 w' S' x v := by
  induction h with
  | int k n => exact .int k n
  | bool b => exact .bool b
  | str s => exact .str s
  | snil => exact .snil
  | sl0 a => exact .sl0 a
  | sl b off xs cap size u l F I hsz j A m =>
    refine .sl b off xs cap size u (λh => E _ (l h)) F I hsz (λi row c x B J => ?_) m
    have q:xs≠[] := by rintro rfl;simp at B
    rw[<- j i row c x B J]
    exact World.cell?_of_block (C _ (l q))
  | any v h => exact .any v h
  | slf _ M m => exact .slf m M
structure Cx where
 w:World
 S:Nat->Prop
 F:Nat->Prop
 H:Nat->Option AU
 β:Nat->Option (Nat × Nat)
 K:Nat->Nat->Option (Nat × Nat)
 n:Nat
def Bh(β:Option (Nat × Nat))(len:Nat)(v:Value):Prop:=
 match β with
 | none=>len=0/\v=.slice none 0 0
 | some (b,cap)=>v=.slice (some ⟨b,0,none⟩) len cap
inductive AP(x:Cx):AV->Value->Prop
 | r {d:RV} {v:Value} (h:A4 x.w x.S d v):AP x (.r d) v
 | agg {cs:List AV} {us:Array Value} (hl:cs.length=us.size) (h:∀(i:Nat) (c:AV) (u:Value),cs[i]?=some c->us[i]?=some u->AP x c u):AP x (.agg cs) (.agg us)
 | tup {cs:List AV} {us:Array Value} (hl:cs.length=us.size) (h:∀(i:Nat) (c:AV) (u:Value),cs[i]?=some c->us[i]?=some u->AP x c u):AP x (.tup cs) (.tuple us)
 | own {id g:Nat} {v:Value} (hg:g<x.n) (h1:v.oneCell'=true) (h:∀o,x.H id=some o->o.gen=g->Bh (x.β id) o.shape.2.2 v):AP x (.own id g) v
 | pre {id g k:Nat} {v:Value} (hg:g<x.n) (h1:v.oneCell'=true) (h:∀o,x.H id=some o->o.gen=g->k<=o.shape.2.2/\Bh (x.β id) k v):AP x (.pre id g k) v
 | ptr {id g i k:Nat} {v:Value} (hg:g<x.n) (h1:v.oneCell'=true) (h:∀o,x.H id=some o->o.gen=g->∃b cap,x.β id=some (b,cap)/\v=.pointer (some ⟨b,i * o.shape.2.1+k,none⟩)) :
   AP x (.ptr id g i k) v
 | mref {id g:Nat} {v:Value} (hg:g<x.n) (h1:v.oneCell'=true) (h:∀o,x.H id=some o->o.gen=g->∃b cap,x.β id=some (b,cap)/\v=.map (some b)):AP x (.mref id g) v
 | yld {id g:Nat} {v:Value} (hg:g<x.n) (h1:v.oneCell'=true) (h:∀o,x.H id=some o->o.gen=g->∃b cap,x.β id=some (b,cap)/\v=.func (.yield b) #[] #[]):AP x (.yld id g) v
 | pk {id g ve j k:Nat} {v:Value} (hg:g<x.n) (hv:ve<x.n) (h1:v.oneCell'=true) (h:∀o b c q m,x.H id=some o->o.isFam=true->o.gen=g->o.ver=ve->o.kshape[j]?=some (q,some m)->x.K id j=some (b,c)->v=.pointer (some ⟨b,k,none⟩)):AP x (.pk id g ve j k) v
 | fo {id g ve:Nat} {key:Int} {v:Value} (hg:g<x.n) (hv:ve<x.n) (h1:v.oneCell'=true) (h:∀o,x.H id=some o->o.isFam=true->o.gen=g->o.ver=ve->(Ao o.kshape key=none->v=.slice none 0 0) /\
   ∀j q m b c,Ao o.kshape key=some j->o.kshape[j]?=some (q,some m)->x.K id j=some (b,c)->v=.slice (some ⟨b,0,none⟩) m c):AP x (.fo id g ve key) v
 | full {xs:List (List RV)} {v:Value} (h:A4 x.w x.S (.sl xs) v) (hf:∃a,v=.slice a xs.length xs.length):AP x (.full xs) v
 | rop {row:List RV} {k b off:Nat} (u:Nat->Value) (hS:row≠[]->x.S b) (hc:∀j d,row[j]?=some d->x.w.cell? ⟨b,off+j,none⟩=some (u j))
   (hr:∀j d,row[j]?=some d->A4 x.w x.S d (u j)):AP x (.rop row k) (.pointer (some ⟨b,off+k,none⟩))
 | fn {f:FuncId} {cs:List AV} {us:Array Value} (hl:cs.length=us.size) (h:∀(i:Nat) (c:AV) (u:Value),cs[i]?=some c->us[i]?=some u->AP x c u):AP x (.fn f cs) (.func (.func f) #[] us)
 | cst (v:Value):AP x (.cst v) v
 | whn {b:Bool} {a:AV} {v:Value} (h:b=true->AP x a v) (h2:b=false->v=undef):AP x (.whn b a) v
 | ifc {b:Bool} {v:Value} (h1:v.oneCell'=true) (h:b=true->v=.nilIface) (h2:b=false->∃t u,v=.iface t u):AP x (.ifc b) v
 | any (v:Value):AP x .any v
structure Cx.le(x y:Cx):Prop where
 size:x.w.heap.size<=y.w.heap.size
 os:y.w.os=x.w.os
 tape:y.w.tape=x.w.tape
 output:y.w.output=x.w.output
 blk:∀b,x.S b\/x.F b->y.w.heap[b]?=x.w.heap[b]?
 S:∀b,x.S b->y.S b
 F:y.F=x.F
 n:x.n<=y.n
 H:∀id o',y.H id=some o'->o'.gen<x.n\/o'.isCal=true->∃o,x.H id=some o/\o.gen=o'.gen/\o.shape=o'.shape/\y.β id=x.β id
 K:∀id o',y.H id=some o'->o'.isFam=true->o'.gen<x.n->o'.ver<x.n->∃o,x.H id=some o/\o.isFam=true/\o.gen=o'.gen/\o.ver=o'.ver/\o.kshape=o'.kshape/\y.K id=x.K id
theorem Cx.le.refl(x:Cx):x.le x:=⟨wy _,rfl,rfl,rfl,λ_ _=>rfl,λ_ h=>h,rfl,wy _,λ_ o h _=>⟨o,h,rfl,rfl,rfl⟩,λ_ o h j _ _=>⟨o,h,j,rfl,rfl,rfl,rfl⟩⟩
theorem Cx.le.trans{x y z:Cx}(h:x.le y)(k:y.le z):x.le z where
 size:=xW h.size k.size
 os:=k.os.trans h.os
 tape:=k.tape.trans h.tape
 output:=k.output.trans h.output
 blk b q:=(k.blk b (q.imp (h.S b) (λf=>by rw[h.F];exact f))).trans (h.blk b q)
 S b q:=k.S b (h.S b q)
 F:=k.F.trans h.F
 n:=xW h.n k.n
 H id j w hg:=by
  obtain⟨A,B,l,m,C⟩:=k.H id j w (hg.imp (λhg=>xD hg h.n) _root_.id)
  obtain⟨o,E,F,I,J⟩:=h.H id A B (by rw[l,T5 m];exact hg)
  exact⟨o,E,F.trans l,I.trans m,C.trans J⟩
 K id j w O hg M:=by
  obtain⟨A,B,T,l,m,C,U⟩:=k.K id j w O (xD hg h.n) (xD M h.n)
  obtain⟨o,E,V,F,I,J,X⟩:=h.K id A B T (by rw[l];exact hg) (by rw[m];exact M)
  exact⟨o,E,V,F.trans l,I.trans m,J.trans C,U.trans X⟩
theorem AP.mono{x y:Cx}(h:x.le y){a}{v}(ha:AP x a v):AP y a v:=by
 have O:∀b,x.S b->y.w.heap[b]?=x.w.heap[b]?:=λb O=>h.blk b (.inl O)
 induction ha with
 | r T=>exact .r (T.mono O h.S)
 | agg U _ M=>exact .agg U M
 | tup U _ M=>exact .tup U M
 | own hg w E=>
  refine .own (xD hg h.n) w λF A l=>?_
  obtain⟨o,w,C,I,J⟩:=h.H _ F A (.inl (by rw[l];exact hg))
  rw[J,<- I]
  exact E o w (C.trans l)
 | pre hg w E=>
  refine .pre (xD hg h.n) w λF A l=>?_
  obtain⟨o,w,C,I,J⟩:=h.H _ F A (.inl (by rw[l];exact hg))
  rw[J,<- I]
  exact E o w (C.trans l)
 | ptr hg w E=>
  refine .ptr (xD hg h.n) w λF A l=>?_
  obtain⟨o,w,C,I,J⟩:=h.H _ F A (.inl (by rw[l];exact hg))
  rw[J,<- I]
  exact E o w (C.trans l)
 | mref hg w E=>
  refine .mref (xD hg h.n) w λF A l=>?_
  obtain⟨o,w,C,I,J⟩:=h.H _ F A (.inl (by rw[l];exact hg))
  rw[J]
  exact E o w (C.trans l)
 | yld hg w E=>
  refine .yld (xD hg h.n) w λF A l=>?_
  obtain⟨o,w,C,I,J⟩:=h.H _ F A (.inl (by rw[l];exact hg))
  rw[J]
  exact E o w (C.trans l)
 | pk hg V w E=>
  refine .pk (xD hg h.n) (xD V h.n) w λF b c q m A X l B hm hp=>?_
  obtain⟨o,k1,k0,k2,k3,k4,k5⟩:=h.K _ F A X (by rw[l];exact hg) (by rw[B];exact V)
  exact E o b c q m k1 k0 (k2.trans l) (k3.trans B) (by rw[k4];exact hm) (by rw[<- k5];exact hp)
 | fo hg V w E=>
  refine .fo (xD hg h.n) (xD V h.n) w λF A X l B=>?_
  obtain⟨o,k1,k0,k2,k3,k4,k5⟩:=h.K _ F A X (by rw[l];exact hg) (by rw[B];exact V)
  obtain⟨e1,e2⟩:=E o k1 k0 (k2.trans l) (k3.trans B)
  rw[k4] at e1 e2
  exact⟨e1,λj q m b c w C I=>e2 j q m b c w C (by rw[<- k5];exact I)⟩
 | full T X=>exact .full (T.mono O h.S) X
 | @rop row k b off u hS hc T=>
  refine .rop u (λhn=>h.S _ (hS hn)) (λj d Z=>?_) (λj d Z=>(T j d Z).mono O h.S)
  have a0:row≠[]:=λe=>by subst e;simp at Z
  rw[<- hc j d Z]
  exact World.cell?_of_block (O _ (hS a0))
 | fn U _ M=>exact .fn U M
 | cst v=>exact .cst v
 | whn _ C M=>exact .whn M C
 | ifc w h C=>exact .ifc w h C
 | any v=>exact .any v
def Nw(P:Program)(b:Nat)(us:Array Value)(w:World)(Post:Ending->World->Prop):Prop:=
 ∃f j l m,(Instr.yield b us).run P w=.ok (.round b f j l m) w/\RoundIn { Fence.wide with round:=none } (0-1) P b f j l m w Post
structure Y9(W:FE):Prop where
 stab:∀ys w w' κ,W.J ys w κ->w.heap.size<=w'.heap.size->w'.os=w.os->w'.tape=w.tape->w'.output=w.output->(∀c,c=W.b\/κ c\/W.S c->w'.heap[c]?=w.heap[c]?)->W.J ys w' κ
 round:∀ys y c w κ us,W.A (ys++[y])=some c->W.J ys w κ->us.size=y.length->(∀(i:Nat) (d:RV) (u:Value),y[i]?=some d->us[i]?=some u->A4 w (λ_=>False) d u) ->
  Nw W.P W.b us w λe w'=>e=.returned (.bool c)/\∃κ',W.J (ys++[y]) w' κ'/\w.heap.size<=w'.heap.size/\w'.os=w.os/\w'.tape=w.tape/\w'.output=w.output /\
   (∀d,d<w.heap.size->d≠W.b->¬ κ d->w'.heap[d]?=w.heap[d]?)/\(∀d,κ' d->(κ d\/w.heap.size<=d)/\d<w'.heap.size/\d≠W.b)
def KK(w:World)(S:Nat->Prop)(β:Option (Nat × Nat))(e:TypeId)(sz:Nat)(ys:List (List RV))(u:Value):Prop:=
 (∀row∈ys,row.length=sz)/\Bh β ys.length u/\∃j,w.ownsRow 0 e sz u ys.length j/\∀i row c d,ys[i]?=some row->row[c]?=some d->∃v,j[i * sz+c]?=some v/\A4 w S d v
def CL(x:Cx)(β:Option (Nat × Nat))(κ:Nat->Option (Nat × Nat)):AU->Prop
 | .arr _ e sz xs=>0<sz/\(∀row∈xs,row.length=sz)/\∃w A,Bh β xs.length w/\x.w.ownsRow 0 e sz w xs.length A /\
   ∀i row c d,xs[i]?=some row->row[c]?=some d->∃u,A[i * sz+c]?=some u/\A4 x.w x.S d u
 | .box _ e J=>∃(b:Nat) (B:Array Value),β=some (b,1)/\x.w.heap[b]?=some (.cells B e (0,0))/\B.size=J.length /\
   ∀(j:Nat) (c:AV),J[j]?=some c->∃u:Value,B[j]?=some u/\u.oneCell'=true/\AP x c u
 | .hot _ e xs k id M=>k<xs.length/\(∀row∈xs,row.length=1)/\∃w A,Bh β xs.length w/\x.w.ownsRow 0 e 1 w xs.length A /\
   (∀i row d,i≠k->xs[i]?=some row->row[0]?=some d->∃u,A[i]?=some u/\A4 x.w x.S d u)/\∃u,A[k]?=some u/\AP x (.own id M) u
 | .it _ s pos=>∃b:Nat,β=some (b,1)/\x.w.heap[b]?=some (.stringIter ⟨s.toArray⟩ pos)
 | .mp _ ks X clock=>∃(b:Nat) (A:List Value),β=some (b,1)/\A.length=ks.length/\X.length=ks.length /\
   x.w.heap[b]?=some (.map ((ks.zip A).map λp=>({ key:=.int .i64 p.1.1,val:=p.2,born:=p.1.2 } : MapEntry)).toArray clock) /\
   ∀(j:Nat) (c:AV) (u:Value),X[j]?=some c->A[j]?=some u->AP x c u
 | .mi _ E V F seen last=>∃b m:Nat,β=some (b,1)/\x.w.heap[b]?=some (.mapIter (some m) F seen.toArray last)/\AP x (.mref E V) (.map (some m))
 | .lp _ e N ps assign O st T=>∃(b:Nat) (r:Loop),β=some (b,1)/\x.w.heap[b]?=some (.loop r)/\r.params=ps.toArray/\r.assign=assign/\r.body=O/\r.state=st/\r.pending=T/\r.tmps.size=N /\
   ∀t,AP x (get e t) (r.tmps.getD t undef)
 | .md _ l=>∃(b:Nat) (C:List MapEntry),β=some (b,1)/\x.w.heap[b]?=some (.map C.toArray l.length)/\C.length=l.length /\
   ∀(j:Nat) (k:Int) (d:RV),l[j]?=some (k,d)->∃m,C[j]?=some m/\m.key=.int .i64 k/\m.born=j/\A4 x.w x.S d m.val
 | .mb _ v e l=>v<x.n/\∃(b:Nat) (C:List MapEntry),β=some (b,1)/\x.w.heap[b]?=some (.map C.toArray l.length)/\C.length=l.length /\
   ∀(j:Nat) (k:Int) (J:List RV),l[j]?=some (k,J)->∃m I B,C[j]?=some m/\m.key=.int .i64 k/\m.born=j/\κ j=some (I,1)/\m.val=.pointer (some ⟨I,0,none⟩)/\x.w.heap[I]?=some (.cells B e (0,0))/\B.size=J.length /\
    ∀(i:Nat) (c:RV),J[i]?=some c->∃u:Value,B[i]?=some u/\u.oneCell'=true/\A4 x.w x.S c u
 | .mr _ v e sz hole l=>0<sz/\v<x.n/\∃(b:Nat) (C:List MapEntry),β=some (b,1)/\x.w.heap[b]?=some (.map C.toArray C.length)/\(match hole with | some (j,true)=>l.length=C.length+1/\j=C.length | _=>l.length=C.length) /\
   ∀(j:Nat) (k:Int) (xs:List (List RV)),l[j]?=some (k,xs)->(∀row∈xs,row.length=sz)/\∃I cap A,κ j=some (I,cap)/\x.w.ownsRow 0 e sz (.slice (some ⟨I,0,none⟩) xs.length cap) xs.length A /\
    (∀i row c d,xs[i]?=some row->row[c]?=some d->∃u,A[i * sz+c]?=some u/\A4 x.w x.S d u) /\
    (hole=some (j,true)\/∃m,C[j]?=some m/\m.key=.int .i64 k/\m.born=j/\(hole=some (j,false)\/m.val=.slice (some ⟨I,0,none⟩) xs.length cap))
 | .mj _ E V len seen=>∃b m:Nat,β=some (b,1)/\x.w.heap[b]?=some (.mapIter (some m) len seen.toArray len)/\AP x (.mref E V) (.map (some m))
 | .rr _ e sz col e2 sz2 hole xs=>(0<sz/\col<sz/\0<sz2/\∀row∈xs,row.length=sz)/\∃w A,Bh β xs.length w/\x.w.ownsRow 0 e sz w xs.length A /\
   (∀i row c d,c≠col->xs[i]?=some row->row[c]?=some d->∃u,A[i * sz+c]?=some u/\A4 x.w x.S d u) /\
   ∀i row,xs[i]?=some row->∃u,A[i * sz+col]?=some u/\((∃r M,hole=some (i,r,M)/\AP x (.own r M) u)\/((∀r M,hole≠some (i,r,M))/\∃U,row[col]?=some (.sl U)/\KK x.w x.S (κ i) e2 sz2 U u))
 | .cal _ W U=>∃Z,β=some (W.b,1)/\Y9 W/\W.J U x.w Z/\(∀c,Z c->∃j q,κ j=some (c,q))/\∀c,W.S c->x.S c
structure EH(x:Cx):Prop where
 tab:∀g row,HP g=some row->AP x (.rop row 0) (.pointer (some ⟨g,0,none⟩))
 whole:∀g cs,TD g=some cs->x.S g/\0<cs.size/\∃t p,x.w.heap[g]?=some (.cells cs t p)
 fact:∃W0:World,WB W0/\Go.RowKit.Below W0.heap.size W0 x.w/\∀b,b<W0.heap.size->x.S b
theorem EH.le{x y:Cx}(h:EH x)(j:x.le y):EH y:=⟨λg row hg=>(h.tab g row hg).mono j,λg A hg=>by
 obtain⟨m,B,t,p,l⟩:=h.whole g A hg
 exact⟨j.S g m,B,t,p,by rw[j.blk g (.inl m),l]⟩,by
 obtain⟨W0,m,l,w⟩:=h.fact
 exact⟨W0,m,⟨j.os.trans l.os,j.tape.trans l.tape,j.output.trans l.output,xW l.size j.size,λb q=>(j.blk b (.inl (w b q))).trans (l.block b q)⟩,λb q=>j.S b (w b q)⟩⟩
theorem EH.same{x y:Cx}(h:EH x)(hw:y.w=x.w)(m:∀b,x.S b->y.S b):EH y:=by
 refine⟨λg row hg=>?_,λg C hg=>by rw[hw];exact⟨m g (h.whole g C hg).1,(h.whole g C hg).2⟩,by obtain⟨W0,l,q,w⟩:=h.fact;exact⟨W0,l,by rw[hw];exact q,λb A=>m b (w b A)⟩⟩
 have A:∀b,x.S b->y.w.heap[b]?=x.w.heap[b]?:=λ_ _=>by rw[hw]
 have l:=h.tab g row hg
 generalize E:(Value.pointer (some ⟨g,0,none⟩))=v at l
 cases l with
 | rop u l q w=>exact .rop u (λh=>m _ (l h)) (λj d B=>by rw[hw];exact q j d B) (λj d B=>(w j d B).mono A m)
structure Cx.ok(x:Cx):Prop where
 S_lt:∀b,x.S b->b<x.w.heap.size
 F_lt:∀b,x.F b->b<x.w.heap.size
 SF:∀b,x.S b->¬ x.F b
 obj:∀id o,x.H id=some o->o.gen<x.n/\CL x (x.β id) (x.K id) o
 own:∀id o b k,x.H id=some o->x.β id=some (b,k)->b<x.w.heap.size/\¬ x.S b/\¬ x.F b
 inj:∀id id' o o' b k k',x.H id=some o->x.H id'=some o'->x.β id=some (b,k)->x.β id'=some (b,k')->id=id'
 ext:∀id o j b c,x.H id=some o->x.K id j=some (b,c)->b<x.w.heap.size/\¬ x.S b/\¬ x.F b/\(∀id' o' k,x.H id'=some o'->x.β id'=some (b,k)->False) /\
  ∀id' o' j' c',x.H id'=some o'->x.K id' j'=some (b,c')->id'=id/\j'=j
 tabs:EH x
theorem XC{w w':World}{β}{len}{j}{e}{sz}{us}(B:∀b k,β=some (b,k)->w'.heap[b]?=w.heap[b]?)(l:Bh β len j)(h:w.ownsRow 0 e sz j len us):w'.ownsRow 0 e sz j len us:=by
 obtain⟨C,m⟩:=h
 refine⟨C,?_⟩
 rcases m with m | ⟨E,cap,q,A,F,I,J,M,O,T⟩
 .exact .inl m
 .refine .inr ⟨E,cap,q,A,F,?_,J,M,O,T⟩
  rw[<- I]
  subst A
  cases β with
  | none=>obtain⟨_,l⟩:=l;cases l
  | some p=>
   obtain⟨b,k⟩:=p
   simp only[Bh,Value.slice.injEq,xF,Addr.mk.injEq] at l
   rw[l.1.1]
   exact B b k rfl
theorem KK.mono{w w':World}{S S'}(l:∀b,S b->w'.heap[b]?=w.heap[b]?)(m:∀b,S b->S' b){β}(q:∀b k,β=some (b,k)->w'.heap[b]?=w.heap[b]?){e}{sz}{ys}{u}(h:KK w S β e sz ys u):KK w' S' β e sz ys u:=by
 obtain⟨A,j,B,C,E⟩:=h
 exact⟨A,j,B,XC q j C,λi row c d F I=>let ⟨v,J,M⟩:=E i row c d F I;⟨v,J,M.mono l m⟩⟩
theorem CL.mono{x y:Cx}(h:x.le y){β:Option (Nat × Nat)}{κ:Nat->Option (Nat × Nat)}(w:∀b k,β=some (b,k)->y.w.heap[b]?=x.w.heap[b]?)(hκ:∀j b k,κ j=some (b,k)->y.w.heap[b]?=x.w.heap[b]?){o:AU}(O:CL x β κ o):CL y β κ o:=by
 have Z:∀b,x.S b->y.w.heap[b]?=x.w.heap[b]?:=λb Z=>h.blk b (.inl Z)
 cases o with
 | arr g e sz xs=>
  obtain⟨h0,T,U,us,A,V,C⟩:=O
  refine⟨h0,T,U,us,A,?_,λi row c d E I=>?_⟩
  .obtain⟨hl,hr⟩:=V
   refine⟨hl,?_⟩
   rcases hr with hr | ⟨gg,cap,F,hv,E,I,J,M,h5,h6⟩
   .exact .inl hr
   .refine .inr ⟨gg,cap,F,hv,E,?_,J,M,h5,h6⟩
    rw[<- I]
    subst hv
    cases β with
    | none=>obtain⟨_,A⟩:=A;cases A
    | some p=>
     obtain⟨b,k⟩:=p
     simp only[Bh,Value.slice.injEq,xF,Addr.mk.injEq] at A
     rw[A.1.1]
     exact w b k rfl
  .obtain⟨u,J,M⟩:=C i row c d E I
   exact⟨u,J,M.mono Z h.S⟩
 | box g e cs=>
  obtain⟨b,F,B,A,hs,C⟩:=O
  refine⟨b,F,B,(w b 1 B).trans A,hs,λj c hj=>?_⟩
  obtain⟨u,E,I,J⟩:=C j c hj
  exact⟨u,E,I,J.mono h⟩
 | hot g e xs k id g'=>
  obtain⟨h0,T,U,us,A,V,C,u0,hk,hu⟩:=O
  refine⟨h0,T,U,us,A,?_,λi row d a2 E I=>?_,u0,hk,hu.mono h⟩
  .obtain⟨hl,hr⟩:=V
   refine⟨hl,?_⟩
   rcases hr with hr | ⟨gg,cap,F,hv,E,I,J,M,h5,h6⟩
   .exact .inl hr
   .refine .inr ⟨gg,cap,F,hv,E,?_,J,M,h5,h6⟩
    rw[<- I]
    subst hv
    cases β with
    | none=>obtain⟨_,A⟩:=A;cases A
    | some p=>
     obtain⟨b,k⟩:=p
     simp only[Bh,Value.slice.injEq,xF,Addr.mk.injEq] at A
     rw[A.1.1]
     exact w b k rfl
  .obtain⟨u,J,M⟩:=C i row d a2 E I
   exact⟨u,J,M.mono Z h.S⟩
 | it g s pos=>
  obtain⟨b,B,A⟩:=O
  exact⟨b,B,(w b 1 B).trans A⟩
 | mp g ks vs clock=>
  obtain⟨b,us,B,E,I,A,C⟩:=O
  exact⟨b,us,B,E,I,(w b 1 B).trans A,λj c u k1 k2=>(C j c u k1 k2).mono h⟩
 | mi g a6 mg a7 seen last=>
  obtain⟨b,m,B,A,hm⟩:=O
  exact⟨b,m,B,(w b 1 B).trans A,hm.mono h⟩
 | lp g e N ps assign aa st ab=>
  obtain⟨b,r,B,A,E,I,J,M,h5,h6,he⟩:=O
  exact⟨b,r,B,(w b 1 B).trans A,E,I,J,M,h5,h6,λt=>(he t).mono h⟩
 | md g l=>
  obtain⟨b,es,B,A,hl,C⟩:=O
  exact⟨b,es,B,(w b 1 B).trans A,hl,λj k d hj=>by
   obtain⟨m,k1,k2,k3,X⟩:=C j k d hj
   exact⟨m,k1,k2,k3,X.mono Z h.S⟩⟩
 | mb g v e l=>
  obtain⟨h0,b,es,B,A,hl,C⟩:=O
  exact⟨xD h0 h.n,b,es,B,(w b 1 B).trans A,hl,λj k cs hj=>by
   obtain⟨m,bb,F,k1,k2,k3,X,k5,k6,k7,k8⟩:=C j k cs hj
   exact⟨m,bb,F,k1,k2,k3,X,k5,(hκ j bb 1 X).trans k6,k7,λi c hi=>by
    obtain⟨u,e1,e2,e3⟩:=k8 i c hi
    exact⟨u,e1,e2,e3.mono Z h.S⟩⟩⟩
 | mr g v e sz hole l=>
  obtain⟨h0,hv,b,es,B,A,hl,C⟩:=O
  refine⟨h0,xD hv h.n,b,es,B,(w b 1 B).trans A,hl,λj k xs hj=>?_⟩
  obtain⟨hr,bb,cap,us,e1,⟨a8,e3⟩,e4,e5⟩:=C j k xs hj
  refine⟨hr,bb,cap,us,e1,⟨a8,?_⟩,λi row c d q1 q2=>by
   obtain⟨u,q3,q4⟩:=e4 i row c d q1 q2
   exact⟨u,q3,q4.mono Z h.S⟩,e5⟩
  rcases e3 with e3 | ⟨gg,a1,F,a0,f1,f2,f3,f4,f5,f6⟩
  .exact .inl e3
  .refine .inr ⟨gg,a1,F,a0,f1,?_,f3,f4,f5,f6⟩
   rw[<- f2]
   simp only[Value.slice.injEq,xF,Addr.mk.injEq] at a0
   rw[<- a0.1.1]
   exact hκ j bb cap e1
 | mj g a6 mg len seen=>
  obtain⟨b,m,B,A,hm⟩:=O
  exact⟨b,m,B,(w b 1 B).trans A,hm.mono h⟩
 | rr g e sz col e2 sz2 hole xs=>
  obtain⟨h0,U,us,E,I,J,M⟩:=O
  refine⟨h0,U,us,E,XC w E I,λi row c d C k1 k2=>?_,λi row hi=>?_⟩
  .obtain⟨u,k3,X⟩:=J i row c d C k1 k2
   exact⟨u,k3,X.mono Z h.S⟩
  .obtain⟨u,k1,k2⟩:=M i row hi
   exact⟨u,k1,k2.imp (λ⟨r,g',k3,X⟩=>⟨r,g',k3,X.mono h⟩) λ⟨k3,ys,X,k5⟩=>⟨k3,ys,X,k5.mono Z h.S (hκ i)⟩⟩
 | cal g W ys=>
  obtain⟨κs,E,I,J,M,h5⟩:=O
  refine⟨κs,E,I,I.stab ys x.w y.w κs J h.size h.os h.tape h.output λc C=>?_,M,λc C=>h.S c (h5 c C)⟩
  rcases C with C | C | C
  .exact w c 1 (by rw[C];exact E)
  .obtain⟨j,q,hq⟩:=M c C
   exact hκ j c q hq
  .exact h.blk c (.inl (h5 c C))
def AV.one:AV->Bool
 | .agg _ | .tup _ | .any | .whn _ _=>false
 | .cst v=>v.oneCell'
 | _=>true
theorem AP.one{x}{a:AV}{v:Value}(h:AP x a v)(j:a.one=true):v.oneCell'=true:=by
 cases h<;>first | rfl | assumption | (simp[AV.one] at j;done) | skip
 .rename_i h;exact h.one
 .rename_i h _;exact h.one
def Cx.at(x:Cx)(id b:Nat):Prop:=(∃k,x.β id=some (b,k))\/∃j k,x.K id j=some (b,k)
theorem Cx.ok.at_lt{x:Cx}(l:x.ok){id b}{o}(h:x.H id=some o)(q:x.at id b):b<x.w.heap.size/\¬ x.S b/\¬ x.F b:=by
 rcases q with ⟨k,m⟩ | ⟨j,k,m⟩
 .exact l.own id o b k h m
 .obtain⟨w,A,B,_⟩:=l.ext id o j b k h m
  exact⟨w,A,B⟩
theorem Cx.ok.at_inj{x:Cx}(m:x.ok){id id' b}{o q}(h:x.H id=some o)(h':x.H id'=some q)(E:x.at id b)(B:x.at id' b):id=id':=by
 rcases E with ⟨k,w⟩ | ⟨j,k,w⟩<;>rcases B with ⟨A,l⟩ | ⟨C,A,l⟩
 .exact m.inj id id' o q b k A h h' w l
 .exact((m.ext id' q C b A h' l).2.2.2.1 id o k h w).elim
 .exact((m.ext id o j b k h w).2.2.2.1 id' q A h' l).elim
 .exact((m.ext id o j b k h w).2.2.2.2 id' q C A h' l).1.symm
def Cx.atk(x:Cx)(id b k:Nat):Prop:=x.β id=some (b,k)\/∃j,x.K id j=some (b,k)
theorem Cx.ok.own'{x:Cx}(l:x.ok) id o b k(h:x.H id=some o)(m:x.atk id b k):b<x.w.heap.size/\¬ x.S b/\¬ x.F b:=
 l.at_lt h (m.imp (λh=>⟨k,h⟩) λ⟨j,h⟩=>⟨j,k,h⟩)
theorem Cx.ok.inj'{x:Cx}(l:x.ok){id id' b k m}{o w}(h:x.H id=some o)(h':x.H id'=some w)(A:x.atk id b k)(q:x.atk id' b m):id=id':=
 l.at_inj h h' (A.imp (λh=>⟨k,h⟩) λ⟨j,h⟩=>⟨j,k,h⟩) (q.imp (λh=>⟨m,h⟩) λ⟨j,h⟩=>⟨j,m,h⟩)
theorem Cx.ok.extOf{x y:Cx}(A:x.ok)(B:∀id o,y.H id=some o->∃l,x.H id=some l)(J:y.β=x.β)(I:y.K=x.K)(M:x.w.heap.size<=y.w.heap.size)(O:∀id o b k,y.H id=some o->x.atk id b k->¬ y.S b)(hF:∀id o b k,y.H id=some o->x.atk id b k->¬ y.F b) :
  ∀id o j b c,y.H id=some o->y.K id j=some (b,c)->b<y.w.heap.size/\¬ y.S b/\¬ y.F b/\(∀id' l k,y.H id'=some l->y.β id'=some (b,k)->False)/\∀id' l q C,y.H id'=some l->y.K id' q=some (b,C)->id'=id/\q=j:=by
 intro id o j b c h w
 rw[I] at w
 obtain⟨T,U⟩:=B id o h
 obtain⟨V,e2,e3,X,Z⟩:=A.ext id T j b c U w
 refine⟨xD V M,O id o b c h (.inr ⟨j,w⟩),hF id o b c h (.inr ⟨j,w⟩),λid' l k E m=>?_,λid' l q C E m=>?_⟩
 .obtain⟨o2,F⟩:=B id' l E
  rw[J] at m
  exact X id' o2 k F m
 .obtain⟨o2,F⟩:=B id' l E
  rw[I] at m
  exact Z id' o2 q C F m
theorem HB{x:Cx}(w:x.ok) id(o:AU)(w':World) U V n' 
 (I:x.w.heap.size<=w'.heap.size) (ab:w'.os=x.w.os) (a0:w'.tape=x.w.tape) (a2:w'.output=x.w.output)
 (a6:∀b, b<x.w.heap.size->(∀o0, x.H id=some o0->x.at id b->False)->w'.heap[b]?=x.w.heap[b]?)
 (hβ:∀b k, U=some (b, k)->b<w'.heap.size/\(x.w.heap.size<=b\/∃o0, x.H id=some o0/\x.at id b))
 (hκ:∀j b k, V j=some (b, k)->(b<w'.heap.size/\(x.w.heap.size<=b\/∃o0, x.H id=some o0/\x.at id b))/\(∀k', U=some (b, k')->False)/\∀Z k', V Z=some (b, k')->Z=j)
 (hn:x.n<=n') (a7:o.gen<n') (a8:o.gen<x.n\/o.isCal=true->∃o0, x.H id=some o0/\o0.gen=o.gen/\o0.shape=o.shape/\U=x.β id)
 (ac:o.isFam=true->o.gen<x.n->o.ver<x.n->∃o0, x.H id=some o0/\o0.isFam=true/\o0.gen=o.gen/\o0.ver=o.ver/\o0.kshape=o.kshape/\V=x.K id)
 (aa:x.le { x with w := w', H := λi => if id=i then some o else x.H i, β := λi => if id=i then U else x.β i, K := λi => if id=i then V else x.K i, n := n' } ->
 CL { x with w := w', H := λi => if id=i then some o else x.H i, β := λi => if id=i then U else x.β i, K := λi => if id=i then V else x.K i, n := n' } U V o) :
    x.le { x with w := w', H := λi => if id=i then some o else x.H i, β := λi => if id=i then U else x.β i, K := λi => if id=i then V else x.K i, n := n' } /\
    ({ x with w := w', H := λi => if id=i then some o else x.H i, β := λi => if id=i then U else x.β i, K := λi => if id=i then V else x.K i, n := n' } : Cx).ok := by
  have X:x.le { x with w := w', H := λi => if id=i then some o else x.H i, β := λi => if id=i then U else x.β i, K := λi => if id=i then V else x.K i, n := n' } := by
    refine⟨I, ab, a0, a2, λb A => ?_, λ_ h => h, rfl, hn, λi J m hg => ?_, λi J m hf hg hv => ?_⟩
    · refine a6 b (A.elim (w.S_lt b) (w.F_lt b)) λo0 F E => ?_
      have := w.at_lt F E
      exact A.elim this.2.1 this.2.2
    · dsimp only at m ⊢
      split at m
      · rename_i q;subst q
        cases m
        obtain⟨o0, F, E, h3, h4⟩ := a8 hg
        exact⟨o0, F, E, h3, by rw[ww rfl];exact h4⟩
      · rename_i q
        exact⟨J, m, rfl, rfl, by rw[wv q]⟩
    · dsimp only at m ⊢
      split at m
      · rename_i q;subst q
        cases m
        obtain⟨o0, F, h0, E, h3, h4, h5⟩ := ac hf hg hv
        exact⟨o0, F, h0, E, h3, h4, by rw[ww rfl];exact h5⟩
      · rename_i q
        exact⟨J, m, hf, rfl, rfl, rfl, by rw[wv q]⟩
  have O:∀i J, i≠id->x.H i=some J->∀b, x.at i b->w'.heap[b]?=x.w.heap[b]? := by
    intro i J a1 q b A
    exact a6 b (w.at_lt q A).1 λo0 F E => a1 (w.at_inj q F A E)
  have C:∀b, (x.w.heap.size<=b\/∃o0, x.H id=some o0/\x.at id b)->(¬ x.S b/\¬ x.F b)/\∀i J, i≠id->x.H i=some J->x.at i b->False := by
    intro b A
    rcases A with A | ⟨o0, F, E⟩
    · exact⟨⟨λh => by have := w.S_lt b h;omega, λh => by have := w.F_lt b h;omega⟩, λi J _ q ha => by have := (w.at_lt q ha).1;omega⟩
    · exact⟨(w.at_lt F E).2, λi J a1 q ha => a1 (w.at_inj q F ha E)⟩
  refine⟨X, λb A => xD (w.S_lt b A) I, λb A => xD (w.F_lt b A) I, w.SF, λi J m => ?_, λi J b k m A => ?_, λi M o1 o2 b k k' F E A l => ?_, λi J j b c m A => ?_, w.tabs.le X⟩
  · dsimp only at m ⊢
    split at m
    · rename_i q;subst q
      cases m
      rw[ww rfl, ww rfl]
      exact⟨a7, aa X⟩
    · rename_i q
      rw[wv q, wv q]
      obtain⟨F, E⟩ := w.obj i J m
      exact⟨xD F hn, E.mono X (λb k A => O i J (λe => q e.symm) m b (.inl ⟨k, A⟩)) λj b k A => O i J (λe => q e.symm) m b (.inr ⟨j, k, A⟩)⟩
  · dsimp only at m A ⊢
    split at A
    · rename_i q;subst q
      obtain⟨F, E⟩ := hβ b k A
      exact⟨F, (C b E).1⟩
    · rename_i q
      rw[wv q] at m
      have := w.own i J b k m A
      exact⟨xD this.1 I, this.2⟩
  · dsimp only at F E A l
    by_cases q:id=i<;>by_cases B:id=M
    · rw[<- q, <- B]
    · rw[ww q] at A
      rw[wv B] at E l
      exact((C b (hβ b k A).2).2 M o2 (λe => B e.symm) E (.inl ⟨k', l⟩)).elim
    · rw[ww B] at l
      rw[wv q] at F A
      exact((C b (hβ b k' l).2).2 i o1 (λe => q e.symm) F (.inl ⟨k, A⟩)).elim
    · rw[wv q] at F A
      rw[wv B] at E l
      exact w.inj i M o1 o2 b k k' F E A l
  · dsimp only at m A ⊢
    split at A
    · rename_i q;subst q
      obtain⟨⟨F, E⟩, h3, h4⟩ := hκ j b c A
      refine⟨F, (C b E).1.1, (C b E).1.2, λM o2 k B l => ?_, λM o2 Z c' B l => ?_⟩
      · by_cases q:id=M
        · rw[ww q] at l;exact h3 k l
        · rw[wv q] at B l
          exact(C b E).2 M o2 (λe => q e.symm) B (.inl ⟨k, l⟩)
      · by_cases q:id=M
        · rw[ww q] at l;exact⟨q.symm, h4 Z c' l⟩
        · rw[wv q] at B l
          exact((C b E).2 M o2 (λe => q e.symm) B (.inr ⟨Z, c', l⟩)).elim
    · rename_i q
      rw[wv q] at m
      obtain⟨F, E, h3, h4, h5⟩ := w.ext i J j b c m A
      refine⟨xD F I, E, h3, λM o2 k B l => ?_, λM o2 Z c' B l => ?_⟩
      · by_cases T:id=M
        · rw[ww T] at l
          exact(C b (hβ b k l).2).2 i J (λe => q e.symm) m (.inr ⟨j, c, A⟩)
        · rw[wv T] at B l
          exact h4 M o2 k B l
      · by_cases T:id=M
        · rw[ww T] at l
          exact((C b (hκ Z b c' l).1.2).2 i J (λe => q e.symm) m (.inr ⟨j, c, A⟩)).elim
        · rw[wv T] at B l
          exact h5 M o2 Z c' B l
theorem ES{x:Cx}(F:x.ok)(id:Nat)(o:AU)(w':World)(l:Option (Nat × Nat))(n':Nat)
  (m:x.w.heap.size<=w'.heap.size) (I:w'.os=x.w.os) (q:w'.tape=x.w.tape) (A:w'.output=x.w.output)
  (J:∀b,b<x.w.heap.size->(∀o0 k,x.H id=some o0->x.β id=some (b,k)->False)->w'.heap[b]?=x.w.heap[b]?)
  (V:∀b k,l=some (b,k)->b<w'.heap.size/\(x.w.heap.size<=b\/∃o0 M,x.H id=some o0/\x.β id=some (b,M)))
  (Z:x.n<=n') (B:o.gen<n') (C:o.gen<x.n->∃o0,x.H id=some o0/\o0.gen=o.gen/\o0.shape=o.shape/\l=x.β id)
  (E:x.le { x with w:=w',H:=λi=>if id=i then some o else x.H i,β:=λi=>if id=i then l else x.β i,K:=λi=>if id=i then λ_=>none else x.K i,n:=n' } ->
   CL { x with w:=w',H:=λi=>if id=i then some o else x.H i,β:=λi=>if id=i then l else x.β i,K:=λi=>if id=i then λ_=>none else x.K i,n:=n' } l (λ_=>none) o) (hc:o.isCal=false:=by rfl) (O:o.isFam=false:=by rfl) :
  x.le { x with w:=w',H:=λi=>if id=i then some o else x.H i,β:=λi=>if id=i then l else x.β i,K:=λi=>if id=i then λ_=>none else x.K i,n:=n' } /\
  ({ x with w:=w',H:=λi=>if id=i then some o else x.H i,β:=λi=>if id=i then l else x.β i,K:=λi=>if id=i then λ_=>none else x.K i,n:=n' } : Cx).ok:=
 HB F id o w' l (λ_=>none) n' m I q A (λb w h=>J b w λo0 k T U=>h o0 T (.inl ⟨k,U⟩))
  (λb k w=>⟨(V b k w).1,(V b k w).2.imp _root_.id λ⟨o0,M,T,U⟩=>⟨o0,T,.inl ⟨M,U⟩⟩⟩) (λj b k w=>by cases w) Z B (λh=>C (h.resolve_right (by rw[hc];exact Bool.noConfusion))) (λX=>by rw[O] at X;cases X) E
def zF(z:Option Nat):Fence:={ Fence.wide with round:=z }
def Hq(o:Oper):Bool:=match o.op with
 | .defer _=>false
 | _=>true
def Ca:Code->Bool
 | .region _ ops _=>ops.toList.all Hq
 | .seq x y=>Ca x&&Ca y
 | .cond _ x y=>Ca x&&Ca y
 | .block _ x=>Ca x
 | .loop x=>Ca x
 | .scope x=>Ca x
 | .rangeFunc _ _ _ _=>false
 | _=>true
theorem Uf{z}{ρ}{o:Oper}(h:z=none\/Hq o=true):o.semAt z ρ=execOp ρ o:=by
 rcases h with rfl | h
 .exact Oper.semAt_none ρ o
 .exact Oper.semAt_eq z ρ o λc j=>by unfold Hq at h;rw[j] at h;cases h
theorem sb{z}{P}{row}{args}{w}{R}(h:Rows P row args w R):RowsIn (zF z) (0-1) P row args w R:=
 λc j _=>let ⟨v,w',r,s⟩:=h c j;⟨v,w',r,stepsIn_wide.2 s⟩
theorem Wu{P}{o:Oper}{a:Act}{w}{K}{Q}{z}(j:z=none\/Hq o=true)(h:o.wp P a w K Q):o.wpIn (zF z) 0 P a w K Q:=by
 refine⟨λ_ _=>trivial,?_⟩
 rw[show(zF z).round=z from rfl,Uf j]
 unfold Oper.wp at h
 generalize (execOp a.eval o).run P w=r at h ⊢
 cases r with
 | ok x w'=>
  cases x with
  | enter f args=>exact⟨λe=>(by cases e),callsIn_wide.2 h⟩
  | row l args=>exact⟨λe=>(by cases e),sb h⟩
  | value v=>exact h
  | skip=>exact h
  | defer d=>exact h
  | _=>exact h.elim
 | halt x w'=>cases x<;>first | exact h | exact h.elim
section
variable{P:Program}{ops:Array Oper}{Q:Exit->Act->World->Prop}
theorem OT(j:¬ LetsOut Q){z}(m:z=none\/ops.toList.all Hq=true):∀(l:List Nat) (a:Act) (w:World),wpOps P ops Q l a w->wpOpsIn (zF z) 0 P ops Q l a w
 | [],_,_,h=>h
 | i::rest,a,w,h=>by
  simp only[wpOps] at h
  simp only[wpOpsIn]
  split
  .rename_i q;rw[q] at h;exact OT j m rest a w h
  .rename_i o q
   rw[q] at h
   simp only at h
   split
   .rename_i A
    rw[ww A] at h
    rcases h with h | h
    .refine Wu (m.imp id λB=>xf.1 B o ?_) (Oper.wp_mono (λa w=>OT j m rest a w) h)
     exact xa (by rw[xo];exact q)
    .exact absurd h.2 j
   .rename_i A
    rw[wv A] at h
    exact⟨λ_ _=>trivial,OT j m rest _ w h⟩
theorem ss(j:¬ LetsOut Q){z}{id}{a}{w}{l:List Oper}(m:z=none\/Ca (.region id l.toArray false)=true)(h:wpList P l.toArray Q l a w):(Code.region id l.toArray false).wpIn (zF z) 0 P Q a w:=by
 refine wpIn_region (OT j (m.imp _root_.id λh=>h) _ a w ?_)
 rw[WAP,<- xq,wpOps_eq_wpList _ 0 (by simp)]
 exact h
theorem OP(j:¬ LetsOut Q){z}{id}{a}{w:World}(l:P.follows .mixedOrders=true)(m:z=none\/Ca (.region id ops true)=true)
 (h:wpAny P .any ops Q ops.size (Array.replicate ops.size false) a { w with drawn := w.drawn+1 }):(Code.region id ops true).wpIn (zF z) 0 P Q a w :=
  wpIn_region_draw λt => by
    simp only[Region.schedule, l, WAQ, zm]
    exact OT j (m.imp _root_.id λh => h) _ a _ (wpAny_sound ops.size t _ a _ h)
theorem iQ(m:¬ LetsOut Q){C}{z}{id}{a}{w:World}(q:P.follows .mixedOrders=true)(hB:Region.lexB .any ops=true)(A:z=none\/Ca (.region id ops true)=true)(hC:C { w with drawn := w.drawn+1 })
 (h:wpQuiet P ops C (λj => ∀w', C w'->Q .normal j w') ops.toList a):(Code.region id ops true).wpIn (zF z) 0 P Q a w := by
  simp only[Region.lexB, xE] at hB
  refine OP m q A (wpAny_of_quiet (Q := λj => ∀w', C w'->Q .normal j w') (λ_ w' l h => h w' l) _ _ _ _ hC ?_)
  have := wpAnyQ_lex (C := C) (md := .any) hB.1 ops.toList 0 (Array.replicate ops.size false) a (by simp) (by simpa using hB.2) h
  simpa using this
theorem nO(U:¬ LetsOut Q){z}{id}{a}{w:World}{l:List Oper} n(V:P.follows .mixedOrders=true)(hB:Region.lexTailB .any l.toArray n=true)(X:z=none\/Ca (.region id l.toArray true)=true)
 (h:wpStill P l.toArray { w with drawn := w.drawn+1 } (λF => wpList P l.toArray Q (l.drop n) F { w with drawn := w.drawn+1 }) (l.take n) a):(Code.region id l.toArray true).wpIn (zF z) 0 P Q a w := by
  simp only[Region.lexTailB, xE, xG] at hB
  obtain⟨⟨⟨⟨A, J⟩, Z⟩, hc⟩, B⟩ := hB
  have a0:n<l.length := by simpa using J
  have m:(l.take n).length=n := by simp;omega
  have C:(l.drop n).length=l.toArray.size - n := by simp
  have E:HeadInv .any l.toArray n (Array.replicate l.toArray.size false) :=
    ⟨by simp, λj oj _ M => (by rw[getD_replicate_false] at M;cases M), λt _ ht => getD_in (by simpa using ht) (getD_replicate_false _ _)⟩
  have H := wpAnyL_lex (md := .any) (g := l.toArray.size - n) A Z hc J (l.take n) 0 _ a (λj O => by
    have I:j<n := by rw[m] at O;exact O
    simp[I]) (by simpa using m) E (by rw[m];exact B) h
  refine OP U V X ?_
  have := wpAny_of_head (Q' := Q) (g := l.toArray.size - n) (λq F T => by
    have := wpAny_of_seq (md := .any) (Q' := Q) (l.drop n) n q F { w with drawn := w.drawn+1 } (λj => by simp[xr]) (by rw[C];exact T.1) T.2
    rwa [C] at this) _ _ _ H
  rw[m, show n+(l.toArray.size - n)=l.toArray.size by omega] at this
  exact this
end
structure St where
 e:Aa
 h:AL
 n:Nat
 N:Nat
def LA:Value->AV
 | .int k n=>.r (.int k n)
 | .bool b=>.r (.bool b)
 | .string s=>.r (.str s.data.toList)
 | v=>.cst v
def BE(R:Aa):Operand->AV
 | .tmp t=>get R t
 | .const v=>LA v
 | .global _=>.any
 | .func f=>.fn f []
def Ev(c:Bool)(R:Aa)(x:Operand)(v:AV):Prop:=BE R x=v\/∃j,(c=true->j=true)/\BE R x=.whn j v
def Bv(x:Cx)(R:Aa)(a:Act):Prop:=∀t,AP x (get R t) (a.tmps.getD t undef)
theorem RX x v:AP x (LA v) v:=by
 cases v<;>first | exact .r (.int _ _) | exact .r (.bool _) | exact .r (.str _) | exact .cst _
theorem Bv.eval{x}{R}{a:Act}(h:Bv x R a)(o:Operand):AP x (BE R o) (a.eval o):=by
 cases o with
 | tmp t=>exact h t
 | const v=>exact RX x v
 | global g=>exact .any _
 | func f=>exact .fn rfl (λi c u h=>by simp at h)
theorem Ev.rep{x}{R}{a:Act}{c}{o}{v}(l:Bv x R a)(h:Ev c R o v)(hc:c=true):AP x v (a.eval o):=by
 have j:=l.eval o
 rcases h with h | ⟨w,m,h⟩
 .rwa [h] at j
 .rw[h] at j
  cases j with
  | whn q _=>exact q (m hc)
theorem Bv.mono{x y:Cx}(h:x.le y){R}{a}(j:Bv x R a):Bv y R a:=λt=>(j t).mono h
theorem M2{a:Array Value}{d t}{u}(hd:d<a.size):(a.setIfInBounds d u).getD t undef=if d=t then u else a.getD t undef:=by
 by_cases h:d=t
 .subst h;simp[hd]
 .simp[h]
theorem CE d v R t:get ((d,v)::R) t=if d=t then v else get R t:=by
 show(match Nat.beq d t with | true=>v | false=>get R t)=_
 cases h:Nat.beq d t with
 | true=>rw[ww (xR h)]
 | false=>rw[wv (ym h)]
theorem BG d v R t:hget ((d,v)::R) t=if d=t then v else hget R t:=by
 show(match Nat.beq d t with | true=>v | false=>hget R t)=_
 cases h:Nat.beq d t with
 | true=>rw[ww (xR h)]
 | false=>rw[wv (ym h)]
theorem B8{d N}(h:Nat.blt d N=true):d<N:=xu h
theorem Bv.put{x}{R}{a:Act}{d}{v}{u}(hd:d<a.tmps.size)(j:Bv x R a)(l:AP x v u) :
  Bv x ((d,v)::R) (a.put (some d) u):=by
 intro t
 simp only[Act.put,M2 hd,CE]
 split
 .exact l
 .exact j t
def uK(c0:Cx)(ds:List Deferred)(y:Cx):Prop:=
 (ds.Nodup/\(ds≠[]->∀id o,y.H id=some o->o.isCal=false))/\∀d∈ds,∃D,d = { target:=.collected D,args:=#[] } /\ c0.w.heap.size<=D/\y.S D/\y.w.heap[D]?=some (.deferred (some []))
structure Cx.leM(x:Cx)(ds:List Deferred)(y:Cx):Prop where
 le:x.le y
 marks:uK x ds y
theorem Cx.leM.refl(x:Cx):x.leM [] x:=⟨.refl x,⟨List.Pairwise.nil,λh=>absurd rfl h⟩,λd h=>by cases h⟩
theorem Cx.leM.trans{x y z:Cx}{ds}(h:x.leM ds y)(k:y.le z):x.leM ds z:=
 ⟨h.le.trans k,⟨h.marks.1.1,λhd id o w=>by
  cases m:o.isCal with
  | false=>rfl
  | true=>
   obtain⟨A,j,_,l,_⟩:=k.H id o w (.inr m)
   have:=h.marks.1.2 hd id A j
   rw[T5 l,m] at this
   cases this⟩,λd hd=>let ⟨D,j,l,q,B⟩:=h.marks.2 d hd;⟨D,j,l,k.S D q,(k.blk D (.inl q)).trans B⟩⟩
def D9(c0:Cx)(s:St)(a:Act)(w:World):Prop:=
 ∃j,a.defers=j/\a.tmps.size=s.N/\∃y:Cx,y.w=w/\c0.leM j y/\y.ok/\y.H=hget s.h/\y.n=s.n/\Bv y s.e a
def Az(P:Program)(c:Bool)(o:Oper)(R:Aa)(h:AL)(n:Nat)(v:AV)(h':AL)(n':Nat):Prop:=
 c=true->∀(x:Cx) (a:Act),x.ok->x.H=hget h->x.n=n->Bv x R a->∀(K:Act->World->Prop) (Q:Exit->Act->World->Prop),
  (∀(u:Value) (y:Cx),x.le y->y.ok->y.H=hget h'->y.n=n'->AP y v u->K (a.put o.dst u) y.w)->o.wp P a x.w K Q
def DZ(x:Cx)(j:World):Prop:=∀b,(x.S b\/∃id o k,x.H id=some o/\x.atk id b k)->j.heap[b]?=x.w.heap[b]?
theorem DZ.cellS{x:Cx}{j:World}(h:DZ x j){b k}(l:x.S b):j.cell? ⟨b,k,none⟩=x.w.cell? ⟨b,k,none⟩:=World.cell?_of_block (h b (.inl l))
theorem DZ.cellO{x:Cx}{l:World}(h:DZ x l){id b k j}{o}(m:x.H id=some o)(q:x.β id=some (b,k)):l.cell? ⟨b,j,none⟩=x.w.cell? ⟨b,j,none⟩:=World.cell?_of_block (h b (.inr ⟨id,o,k,m,.inl q⟩))
def AS(P:Program)(c:Bool)(o:Oper)(R:Aa)(h:AL)(v:AV):Prop:=
 c=true->∀(x:Cx) (a:Act),x.ok->x.H=hget h->Bv x R a->∃u,(∀j,DZ x j->(execOp a.eval o).run P j=.ok (.value u) j)/\AP x v u
theorem AS.spec{P}{c}{o}{R}{h}{v}(H:AS P c o R h v)(n:Nat):Az P c o R h n v h n:=by
 intro m x a j l q w K Q A
 obtain⟨u,B,C⟩:=H m x a j l w
 unfold Oper.wp
 rw[B x.w λ_ _=>rfl]
 exact A u x (.refl x) j l q C
def AN(P:Program)(ops:Array Oper)(rest:List Oper)(s:St)(K:St->Prop):Prop:=
 ∀(j:Cx) (a:Act) (w:World),D9 j s a w->∀Q:Exit->Act->World->Prop,(∀l m w',K l->D9 j l m w'->Q .normal m w')->wpList P ops Q rest a w
section
variable{P:Program}{ops:Array Oper}{rest:List Oper}{s:St}{K:St->Prop}{o:Oper}
theorem AN.nil(h:K s):AN P ops [] s K:=λ_ a w j _ l=>l s a w h j
theorem AN.step{d}{v}{h'}{n'}(hg:o.guard=none)(hd:o.dst=some d)(O:Nat.blt d s.N=true)(T:Az P true o s.e s.h s.n v h' n')
 (U:AN P ops rest { e := (d, v)::s.e, h := h', n := n', N := s.N } K):AN P ops (o::rest) s K := by
  intro V a w ⟨_, j, hsz, y, q, A, B, X, Z, M⟩ Q hQ
  subst q
  refine wpList_plain hg λK' C => ?_
  refine T rfl y a B X Z M K' Q λu z l m E F I => ?_
  refine C _ _ ?_
  have J:d<a.tmps.size := by rw[hsz];exact B8 O
  rw[hd]
  exact U V (a.put (some d) u) z.w ⟨_, j, by simpa[Act.put] using hsz, z, rfl, A.trans l, m, E, F, (M.mono l).put J I⟩ Q hQ
theorem hM{v}{h'}{n'}(hg:o.guard=none)(hd:o.dst=none)(J:Az P true o s.e s.h s.n v h' n')
 (M:AN P ops rest { e := s.e, h := h', n := n', N := s.N } K):AN P ops (o::rest) s K := by
  intro O a w ⟨_, j, hsz, y, q, A, B, T, U, I⟩ Q V
  subst q
  refine wpList_plain hg λX C => ?_
  refine J rfl y a B T U I X Q λu z l m E F Z => ?_
  refine C _ _ ?_
  rw[hd]
  exact M O _ _ ⟨_, j, hsz, z, rfl, A.trans l, m, E, F, I.mono l⟩ Q V
end
def Dm(c0:Cx)(Q:Exit->St->Prop)(e:Exit)(a:Act)(w:World):Prop:=e≠.outgrown/\∃j,Q e j/\D9 c0 j a w
theorem KQ{c0}{Q} : ¬ LetsOut (Dm c0 Q):=λ⟨_,_,h,_⟩=>h rfl
theorem Dm.mono{c0}{Q Q'}(h:∀e s,Q e s->Q' e s){e}{a}{w} : Dm c0 Q e a w->Dm c0 Q' e a w
 | ⟨l,j,m,q⟩=>⟨l,j,h e j m,q⟩
def AW(P:Program)(c:Code)(Q:Exit->St->Prop)(s:St):Prop:=
 ∀z:Option Nat,(z=none\/Ca c=true)->∀(j:Cx) (a:Act) (w:World),D9 j s a w->c.wpIn (zF z) 0 P (Dm j Q) a w
def Es(K:St->Prop)(Q:Exit->St->Prop):Exit->St->Prop
 | .normal,s=>K s
 | e,s=>Q e s
def Ma(id:Nat)(Q:Exit->St->Prop):Exit->St->Prop
 | .exit i,s=>if i=id then Q .normal s else Q (.exit i) s
 | e,s=>Q e s
def AZ(s s':St):Prop:=∀j a w,D9 j s a w->D9 j s' a w
section
variable{P:Program}{Q:Exit->St->Prop}{s:St}{x y:Code}
theorem AW.mono{Q'}(h:AW P x Q s)(j:∀e s,Q e s->Q' e s):AW P x Q' s:=
 λz l m a w q=>wpIn_mono (h z l m a w q) λ_ _ _ hp=>hp.mono j
theorem AW.weak{s'}(hw:AZ s s')(h:AW P x Q s'):AW P x Q s:=λz j l a w m=>h z j l a w (hw _ _ _ m)
theorem AW.skip(h:Q .normal s):AW P .skip Q s:=λ_ _ _ _ _ j=>wpIn_skip ⟨by simp,s,h,j⟩
theorem AW.ret(h:Q .ret s):AW P .ret Q s:=λ_ _ _ _ _ j=>wpIn_ret ⟨by simp,s,h,j⟩
theorem AW.exit{id}(h:Q (.exit id) s):AW P (.exit id) Q s:=λ_ _ _ _ _ j=>wpIn_exit ⟨by simp,s,h,j⟩
theorem AW.seq(h:AW P x (Es (AW P y Q) Q) s):AW P (.seq x y) Q s:=by
 intro z E F a w I
 have B:z=none\/Ca x=true:=E.imp id λh=>by simp only[Ca,xE] at h;exact h.1
 have C:z=none\/Ca y=true:=E.imp id λh=>by simp only[Ca,xE] at h;exact h.2
 refine wpIn_seq (wpIn_mono (h z B F a w I) λe J w' ⟨m,A,q,j⟩=>?_)
 cases e with
 | normal=>exact q z C F J w' j
 | exit id=>exact⟨m,A,q,j⟩
 | goto l=>exact⟨m,A,q,j⟩
 | ret=>exact⟨m,A,q,j⟩
 | panic M=>exact⟨m,A,q,j⟩
 | outgrown=>exact absurd rfl m
theorem wD(h:∀K:St->Prop,(∀s,AW P y Q s->K s)->AW P x (Es K Q) s):AW P (.seq x y) Q s:=.seq (h _ λ_ h=>h)
theorem AW.block{id}(h:AW P x (Ma id Q) s):AW P (.block id x) Q s:=by
 intro z C E a w F
 refine wpIn_block (wpIn_mono (h z C E a w F) λe I w' ⟨A,q,m,j⟩=>?_)
 cases e with
 | exit i=>
  simp only[Ma,Exit.inBlock] at m ⊢
  split
  .rename_i B;rw[ww B] at m;exact⟨by simp,q,m,j⟩
  .rename_i B;rw[wv B] at m;exact⟨by simp,q,m,j⟩
 | normal=>exact⟨A,q,m,j⟩
 | goto l=>exact⟨A,q,m,j⟩
 | ret=>exact⟨A,q,m,j⟩
 | panic J=>exact⟨A,q,m,j⟩
 | outgrown=>exact absurd rfl A
theorem AW.cond{c}{b}(hc:BE s.e c=.r (.bool b))(B:b=true->AW P x Q s)(C:b=false->AW P y Q s):AW P (.cond c x y) Q s:=by
 intro z l m a w j
 have E:a.eval c=.bool b:=by
  obtain⟨_,_,_,z,_,_,_,_,_,F⟩:=j
  have q:=F.eval c
  rw[hc] at q
  cases q with
  | r A=>generalize a.eval c=u at A ⊢;cases A;rfl
 exact wpIn_cond_split E (λh=>B h z (l.imp id λh=>by simp only[Ca,xE] at h;exact h.1) m a w j) (λh=>C h z (l.imp id λh=>by simp only[Ca,xE] at h;exact h.2) m a w j)
theorem AW.loop(I:Nat->St->Prop)(m:Nat)(V:∃q,AZ s q/\I m q)(round:∀m s,I m s->AW P x (Es (λq=>∃E,E<m/\∃A,AZ q A/\I E A) Q) s):AW P (.loop x) Q s:=by
 intro z X U a w Z
 obtain⟨s0,F,J⟩:=V
 refine wpIn_loop_ghost (λk a w=>∃s,I k s/\D9 U s a w) m ⟨s0,J,F _ _ _ Z⟩ ?_
 intro k a w ⟨s1,hI,M⟩
 refine wpIn_mono (round k s1 hI z (X.imp id λh=>h) U a w M) λe a' w' ⟨B,q,C,j⟩=>?_
 cases e with
 | normal=>
  obtain⟨E,O,A,hw,T⟩:=C
  exact⟨E,O,A,T,hw _ _ _ j⟩
 | exit id=>exact⟨B,q,C,j⟩
 | goto l=>exact⟨B,q,C,j⟩
 | ret=>exact⟨B,q,C,j⟩
 | panic ch=>exact⟨B,q,C,j⟩
 | outgrown=>exact absurd rfl B
theorem AW.region{id}{l:List Oper}(h:AN P l.toArray l s (Q .normal)):AW P (.region id l.toArray false) Q s:=by
 intro z m q a w A
 exact ss KQ m (h q a w A _ λB E w' C j=>⟨by simp,B,C,j⟩)
end
theorem AZ.refl s:AZ s s:=λ_ _ _ h=>h
theorem AZ.trans{a b c}(h:AZ a b)(k:AZ b c):AZ a c:=λ_ _ _ x=>k _ _ _ (h _ _ _ x)
def LX:AL->AL->Prop
 | [],_=>True
 | (id,o)::r,h=>(o=none\/hget h id=o)/\LX r h
theorem LX.get{h' h}(k:LX h' h)(t:Nat):hget h' t=none\/hget h' t=hget h t:=by
 induction h' with
 | nil=>exact .inl rfl
 | cons p r l=>
  obtain⟨d,v⟩:=p
  rw[BG]
  split
  .rename_i hd;subst hd
   rcases k.1 with j | j
   .exact .inl j
   .exact .inr j.symm
  .exact l k.2
theorem Qt{y:Cx}(j:y.ok) q(l:∀id o,q id=some o->y.H id=some o) n'(B:y.n<=n') :
  y.le { y with H:=q,n:=n' } /\ ({ y with H:=q,n:=n' } : Cx).ok:=by
 have m:y.le { y with H:=q,n:=n' }:=⟨wy _,rfl,rfl,rfl,λ_ _=>rfl,λ_ h=>h,rfl,B,λid o h _=>⟨o,l id o h,rfl,rfl,rfl⟩,λid o h C _ _=>⟨o,l id o h,C,rfl,rfl,rfl,rfl⟩⟩
 refine⟨m,j.S_lt,j.F_lt,j.SF,λid o h=>?_,λid o b k h=>j.own id o b k (l _ _ h),λid w o E b k F h I=>j.inj id w o E b k F (l _ _ h) (l _ _ I),j.extOf (λid o h=>⟨o,l id o h⟩) rfl rfl (wy _) (λid o b k h A=>(j.own' id o b k (l _ _ h) A).2.1) (λid o b k h A=>(j.own' id o b k (l _ _ h) A).2.2),j.tabs.le m⟩
 obtain⟨J,M⟩:=j.obj id o (l _ _ h)
 exact⟨xD J B,M.mono m (λ_ _ _=>rfl) λ_ _ _ _=>rfl⟩
section
variable{x:Cx}{w':World}
def Kp(x:Cx)(w':World):Prop:=∀b,x.S b->w'.heap[b]?=x.w.heap[b]?\/∀k,x.w.cell? ⟨b,k,none⟩=none
theorem Kp.cell(h:Kp x w'){b k}{v}(j:x.S b)(hc:x.w.cell? ⟨b,k,none⟩=some v):w'.cell? ⟨b,k,none⟩=some v:=by
 rcases h b j with h | h
 .rw[<- hc];exact World.cell?_of_block h
 .rw[h k] at hc;cases hc
theorem A4.off(B:Kp x w'){d}{v}(h:A4 x.w x.S d v):A4 w' x.S d v:=by
 induction h with
 | int k n=>exact .int k n
 | bool b=>exact .bool b
 | str s=>exact .str s
 | snil=>exact .snil
 | sl0 a=>exact .sl0 a
 | sl b off xs cap size u l C E hsz j w m=>
  refine .sl b off xs cap size u l C E hsz (λi row c x A F=>?_) m
  have q:xs≠[]:=by rintro rfl;simp at A
  exact B.cell (l q) (j i row c x A F)
 | any v h=>exact .any v h
 | slf _ I m=>exact .slf m I
theorem AP.off(B:Kp x w'){a}{v}(M:AP x a v):AP { x with w:=w' } a v:=by
 induction M with
 | r w=>exact .r (w.off B)
 | agg A _ q=>exact .agg A q
 | tup A _ q=>exact .tup A q
 | own hg l m=>exact .own hg l m
 | pre hg l m=>exact .pre hg l m
 | ptr hg l m=>exact .ptr hg l m
 | mref hg l m=>exact .mref hg l m
 | yld hg l m=>exact .yld hg l m
 | pk hg E l m=>exact .pk hg E l m
 | fo hg E l m=>exact .fo hg E l m
 | full w O=>exact .full (w.off B) O
 | @rop row k b off u J T w=>
  refine .rop u J (λj d C=>?_) (λj d C=>(w j d C).off B)
  have F:row≠[]:=λe=>by subst e;simp at C
  exact B.cell (J F) (T j d C)
 | fn A _ q=>exact .fn A q
 | cst v=>exact .cst v
 | whn _ I q=>exact .whn q I
 | ifc l h I=>exact .ifc l h I
 | any v=>exact .any v
theorem CL.off(I:Kp x w'){β}{κ}(q:∀b k,β=some (b,k)->w'.heap[b]?=x.w.heap[b]?)(hκ:∀j b k,κ j=some (b,k)->w'.heap[b]?=x.w.heap[b]?){o:AU}(a2:o.isCal=false)(O:CL x β κ o):CL { x with w:=w' } β κ o:=by
 have T:∀ {e:TypeId} {sz:Nat} {B:Value} {len:Nat} {J:List Value},Bh β len B->x.w.ownsRow 0 e sz B len J->w'.ownsRow 0 e sz B len J:=by
  intro e sz B len J w ⟨hl,hr⟩
  refine⟨hl,?_⟩
  rcases hr with hr | ⟨gg,cap,E,hv,C,M,U,Z,h5,h6⟩
  .exact .inl hr
  .refine .inr ⟨gg,cap,E,hv,C,?_,U,Z,h5,h6⟩
   rw[<- M]
   subst hv
   cases β with
   | none=>obtain⟨_,w⟩:=w;cases w
   | some p=>
    obtain⟨b,k⟩:=p
    simp only[Bh,Value.slice.injEq,xF,Addr.mk.injEq] at w
    rw[w.1.1]
    exact q b k rfl
 cases o with
 | arr g e sz xs=>
  obtain⟨h0,C,B,J,w,V,F⟩:=O
  exact⟨h0,C,B,J,w,T w V,λi row c d C M=>let ⟨u,U,Z⟩:=F i row c d C M;⟨u,U,Z.off I⟩⟩
 | box g e cs=>
  obtain⟨b,E,A,w,hs,F⟩:=O
  exact⟨b,E,A,(q b 1 A).trans w,hs,λj c hj=>let ⟨u,C,M,U⟩:=F j c hj;⟨u,C,M,U.off I⟩⟩
 | hot g e xs k id g'=>
  obtain⟨h0,C,B,J,w,V,F,u0,hk,hu⟩:=O
  exact⟨h0,C,B,J,w,T w V,λi row d a6 C M=>let ⟨u,U,Z⟩:=F i row d a6 C M;⟨u,U,Z.off I⟩,u0,hk,hu.off I⟩
 | it g s pos=>obtain⟨b,A,w⟩:=O;exact⟨b,A,(q b 1 A).trans w⟩
 | mp g ks vs clock=>obtain⟨b,J,A,C,M,w,F⟩:=O;exact⟨b,J,A,C,M,(q b 1 A).trans w,λj c u k1 k2=>(F j c u k1 k2).off I⟩
 | mi g a7 mg a8 seen last=>obtain⟨b,m,A,w,hm⟩:=O;exact⟨b,m,A,(q b 1 A).trans w,hm.off I⟩
 | lp g e N ps assign ac st ad=>
  obtain⟨b,r,A,w,C,M,U,Z,h5,h6,he⟩:=O
  exact⟨b,r,A,(q b 1 A).trans w,C,M,U,Z,h5,h6,λt=>(he t).off I⟩
 | md g l=>
  obtain⟨b,es,A,w,hl,F⟩:=O
  exact⟨b,es,A,(q b 1 A).trans w,hl,λj k d hj=>let ⟨m,k1,k2,k3,X⟩:=F j k d hj;⟨m,k1,k2,k3,X.off I⟩⟩
 | mb g v e l=>
  obtain⟨h0,b,es,A,w,hl,F⟩:=O
  exact⟨h0,b,es,A,(q b 1 A).trans w,hl,λj k cs hj=>let ⟨m,bb,E,k1,k2,k3,X,k5,k6,k7,k8⟩:=F j k cs hj;⟨m,bb,E,k1,k2,k3,X,k5,(hκ j bb 1 X).trans k6,k7,λi c hi=>let ⟨u,e1,e2,e3⟩:=k8 i c hi;⟨u,e1,e2,e3.off I⟩⟩⟩
 | mr g v e sz hole l=>
  obtain⟨h0,hv,b,es,A,w,hl,F⟩:=O
  refine⟨h0,hv,b,es,A,(q b 1 A).trans w,hl,λj k xs hj=>?_⟩
  obtain⟨hr,bb,cap,J,e1,⟨aa,e3⟩,e4,e5⟩:=F j k xs hj
  refine⟨hr,bb,cap,J,e1,⟨aa,?_⟩,λi row c d q1 q2=>let ⟨u,q3,q4⟩:=e4 i row c d q1 q2;⟨u,q3,q4.off I⟩,e5⟩
  rcases e3 with e3 | ⟨gg,a1,E,a0,f1,f2,f3,f4,f5,f6⟩
  .exact .inl e3
  .refine .inr ⟨gg,a1,E,a0,f1,?_,f3,f4,f5,f6⟩
   rw[<- f2]
   simp only[Value.slice.injEq,xF,Addr.mk.injEq] at a0
   rw[<- a0.1.1]
   exact hκ j bb cap e1
 | mj g a7 mg len seen=>
  obtain⟨b,m,A,w,hm⟩:=O
  exact⟨b,m,A,(q b 1 A).trans w,hm.off I⟩
 | rr g e sz col e2 sz2 hole xs=>
  obtain⟨h0,B,J,C,M,U,Z⟩:=O
  exact⟨h0,B,J,C,T C M,λi row c d F k1 k2=>let ⟨u,k3,X⟩:=U i row c d F k1 k2;⟨u,k3,X.off I⟩,λi row hi=>let ⟨u,k1,k2⟩:=Z i row hi
   ⟨u,k1,k2.imp (λ⟨r,g',k3,X⟩=>⟨r,g',k3,X.off I⟩) λ⟨k3,ys,X,k5,k6,ab,k7,k8⟩=>⟨k3,ys,X,k5,k6,ab,XC (hκ i) k6 k7,λi row c d q1 q2=>let ⟨v,q3,q4⟩:=k8 i row c d q1 q2;⟨v,q3,q4.off I⟩⟩⟩⟩
 | cal g W ys=>cases a2
end
theorem Cx.turn{y:Cx}(l:y.ok){D}(J:y.S D)(hc:∀k,y.w.cell? ⟨D,k,none⟩=none)(hF:∃W0:World,WB W0/\Go.RowKit.Below W0.heap.size W0 y.w/\(∀b,b<W0.heap.size->y.S b)/\W0.heap.size<=D)(E:∀id q,y.H id=some q->q.isCal=false)(o:Obj):Kp y (y.w.putObj D o)/\({ y with w:=y.w.putObj D o } : Cx).ok:=by
 have m:Kp y (y.w.putObj D o):=λb _=>by
  by_cases h:b=D
  .subst h;exact .inr hc
  .exact .inl (World.putObj_heap_other h)
 refine⟨m,?_⟩
 refine⟨λb w=>by show b<(y.w.putObj D o).heap.size;rw[World.putObj_size];exact l.S_lt b w,λb w=>by show b<(y.w.putObj D o).heap.size;rw[World.putObj_size];exact l.F_lt b w,l.SF,λid q h=>?_,λid q b k B A=>?_,l.inj,l.extOf (y:={ y with w:=y.w.putObj D o }) (λid o h=>⟨o,h⟩) rfl rfl (by show _<=(y.w.putObj D o).heap.size;rw[World.putObj_size];exact wy _) (λid o b k h F=>(l.own' id o b k h F).2.1) (λid o b k h F=>(l.own' id o b k h F).2.2),?_⟩
 .obtain⟨B,A⟩:=l.obj id q h
  exact⟨B,A.off m (λb k w=>World.putObj_heap_other λe=>by subst e;exact(l.own id q b k h w).2.1 J) (λj b k w=>World.putObj_heap_other λe=>by subst e;exact(l.own' id q b k h (.inr ⟨j,w⟩)).2.1 J) (E id q h)⟩
 .have:=l.own id q b k B A
  exact⟨by show b<(y.w.putObj D o).heap.size;rw[World.putObj_size];exact this.1,this.2⟩
 .refine⟨λg row hg=>(l.tabs.tab g row hg).off m,λg O hg=>?_,by
   obtain⟨W0,T,f2,U,V⟩:=hF
   exact⟨W0,T,⟨f2.os,f2.tape,f2.output,by rw[World.putObj_size];exact f2.size,λb w=>(World.putObj_heap_other (by omega)).trans (f2.block b w)⟩,U⟩⟩
  obtain⟨B,M,t,p,A⟩:=l.tabs.whole g O hg
  refine⟨B,M,t,p,?_⟩
  have I:g≠D:=by
   intro e
   subst e
   have C:=hc 0
   unfold World.cell? at C
   rw[A] at C
   simp only[xe M] at C
   cases C
  show(y.w.putObj D o).heap[g]?=_
  rw[World.putObj_heap_other I,A]
theorem Y4{P}{fn}{tmps:Array Value}{R}{c0:Cx}{e} : ∀(ds:List Deferred) (y:Cx),y.ok->c0.ok->c0.leM ds y->(∀t,AP y (get e t) (tmps.getD t undef)) ->
  (∀m,c0.le m->m.ok->m.H=y.H->m.n=y.n->(∀t,AP m (get e t) (tmps.getD t undef))->∃u,(results fn tmps).run P m.w=.ok u m.w/\R (.returned u) m.w)->LeavesInM Fence.wide 0 P fn tmps R ds .returning y.w
 | [],y,q,_,j,F,w=>w y j.le q rfl rfl F
 | d::ds,y,q,l,j,F,w=>by
  obtain⟨D,I,T,U,J⟩:=j.marks.2 d (xY ..)
  have B:=List.nodup_cons.1 j.marks.1.1
  have V:∀k,y.w.cell? ⟨D,k,none⟩=none:=λk=>by simp[World.cell?,J]
  obtain⟨X,Z⟩:=Cx.turn q U V (by
   obtain⟨W0,f1,f2,M⟩:=l.tabs.fact
   exact⟨W0,f1,⟨j.le.os.trans f2.os,j.le.tape.trans f2.tape,j.le.output.trans f2.output,xW f2.size j.le.size,λb A=>(j.le.blk b (.inl (M b A))).trans (f2.block b A)⟩,λb A=>j.le.S b (M b A),xW f2.size T⟩) (j.marks.1.2 (WAC _ _)) (.deferred none)
  have C:c0.le { y with w:=y.w.putObj D (.deferred none) }:=
   ⟨by show _<=(y.w.putObj D (.deferred none)).heap.size;rw[World.putObj_size];exact j.le.size,j.le.os,j.le.tape,j.le.output,λb A=>by
    refine(World.putObj_heap_other λe=>?_).trans (j.le.blk b A)
    subst e
    have:=A.elim (l.S_lt b) (l.F_lt b)
    omega,j.le.S,j.le.F,j.le.n,j.le.H,j.le.K⟩
  refine⟨by simp,.inl ⟨D,_,by rw[I],run_takeDeferred J,?_⟩⟩
  refine Y4 ds { y with w:=y.w.putObj D (.deferred none) } Z l ⟨C,⟨B.2,λ_=>j.marks.1.2 (WAC _ _)⟩,λd' E=>?_⟩ (λt=>(F t).off X) λm k1 k2 k3 k4 k5=>w m k1 k2 k3 k4 k5
  obtain⟨D',O,e2,e3,e4⟩:=j.marks.2 d' (xZ _ E)
  refine⟨D',O,e2,e3,(World.putObj_heap_other λe=>?_).trans e4⟩
  subst e
  exact B.1 (by rw[I,<- O];exact E)
theorem TW{P:Program}{f}{fn:Func}{code}{vs:Array Value}{R}{c0:Cx}{F}{Q}(T:P.funcs[f]?=some fn)(U:fn.body=some code)(j:c0.ok)
 (l:D9 c0 F { tmps := vs++Array.replicate (fn.ntmps - vs.size) undef, defers := [] } c0.w) (hw:AW P code Q F)
 (m:∀(e:Exit) (s:St) (a:Act) (y:Cx), Q e s->c0.le y->y.ok->y.H=hget s.h->y.n=s.n->Bv y s.e a->(e=.normal\/e=.ret)/\∃u, (results fn a.tmps).run P y.w=.ok u y.w/\R (.returned u) y.w):Calls P f vs c0.w R := by
  refine callsIn_wide.1 (callsIn_of_wp_marks (n := 0) T U trivial (wpIn_mono (hw none (.inl rfl) c0 _ _ l) λe a w ⟨ho, s, I, V⟩ => ?_))
  obtain⟨X, q, _, y, C, A, B, J, M, O⟩ := V
  subst C
  have key:LeavesInM Fence.wide 0 P fn a.tmps R a.defers .returning y.w := by
    rw[q]
    exact Y4 (e := s.e) X y B j A O λZ k1 k2 k3 k4 k5 => (m e s a Z I k1 k2 (k3.trans J) (k4.trans M) k5).2
  have E := (m e s a y I A.le B J M O).1
  rcases E with rfl | rfl
  · exact key
  · exact key
def H3:TypeDesc->Bool
 | .struct _ | .array _ _=>false
 | _=>true
def BH(P:Program)(t:TypeId):Prop:=∃d i,P.underlying t=some d/\H3 d=true/\P.info? t=some i/\i.size=1
def BW(P:Program)(t:TypeId)(sz:Nat):Prop:=∃d i,P.underlying t=some d/\H3 d=false/\P.info? t=some i/\i.size=sz
def DU(P:Program)(t e:TypeId)(sz:Nat):Prop:=P.underlying t=some (.slice e)/\∃i,P.info? e=some i/\i.size=sz
def An(P:Program)(t:TypeId)(f off:Nat):Prop:=∃l j i,P.underlying t=some (.struct l)/\l[f]?=some j/\j.offset=off/\P.info? j.type=some i/\i.size≠0
section
variable{P:Program}{c:Bool}{o:Oper}{R:Aa}{h:AL}
theorem IV{t}{d}(hd:P.underlying t=some d) w:(isAgg t).run P w=.ok (!H3 d) w:=by
 cases d<;>simp[isAgg,run_underlying hd,H3]
theorem DY{t}{i:TypeInfo}(j:P.info? t=some i) w:(sizeOf t).run P w=.ok i.size w:=by
 simp[sizeOf,typeInfo,j]
theorem AM{x}{v}(j:o.op=.move x)(l:Ev c R x v):AS P c o R h v:=by
 intro m y a _ _ q
 exact⟨a.eval x,λ_ _=>by unfold execOp;rw[j];rfl,l.rep q m⟩
theorem EL{x}{v}(j:o.op=.assign x)(l:Ev c R x v):AS P c o R h v:=by
 intro m y a _ _ q
 exact⟨a.eval x,λ_ _=>by unfold execOp;rw[j];rfl,l.rep q m⟩
theorem Ci{x}{k}{n}{v}(h:AP x (.r (.int k n)) v):v=.int k n:=by
 cases h with
 | r h=>cases h;rfl
theorem G2{x}{b}{v}(h:AP x (.r (.bool b)) v):v=.bool b:=by
 cases h with
 | r h=>cases h;rfl
theorem IM{x}{s:List UInt8}{v}(h:AP x (.r (.str s)) v):v=.string ⟨s.toArray⟩:=by
 cases h with
 | r h=>cases h;rfl
theorem Eo{op}{t q}{x y}{k}{m n}{v}{u}(A:o.op=.binOp op t x y q)(B:Ev c R x (.r (.int k m)))(C:Ev c R y (.r (.int k n)))
 (E:∀w, (binOp op t (.int k m) (.int k n)).run P w=.ok u w) (F:∀w S, A4 w S v u):AS P c o R h (.r v) := by
  intro j z a _ _ l
  refine⟨u, λJ I => ?_, .r (F _ _)⟩
  unfold execOp
  rw[A]
  simp only[Ci (B.rep l j), Ci (C.rep l j), eqGuard_at_int]
  simp[E]
theorem iO{t j}{x y}{k:IntKind}{m n}(l:o.op=.binOp .add t x y j)(q:Ev c R x (.r (.int k m)))(A:Ev c R y (.r (.int k n)))
 (B:k.wrap (m+n)=m+n):AS P c o R h (.r (.int k (m+n))) :=
  Eo l q A (λw => by rw[binOp_add];simp only[Op.intArith, B];rfl) (λ_ _ => .int _ _)
theorem ll{t j}{x y}{k:IntKind}{m n}(l:o.op=.binOp .sub t x y j)(q:Ev c R x (.r (.int k m)))(A:Ev c R y (.r (.int k n)))
 (B:k.wrap (m - n)=m - n):AS P c o R h (.r (.int k (m - n))) :=
  Eo l q A (λw => by rw[binOp_sub];simp only[Op.intArith, B];rfl) (λ_ _ => .int _ _)
theorem dM{t j}{x y}{k:IntKind}{m n}(l:o.op=.binOp .mul t x y j)(q:Ev c R x (.r (.int k m)))(A:Ev c R y (.r (.int k n)))
 (B:k.wrap (m * n)=m * n):AS P c o R h (.r (.int k (m * n))) :=
  Eo l q A (λw => by rw[binOp_mul];simp only[Op.intArith, B];rfl) (λ_ _ => .int _ _)
theorem rN{t j}{x y}{k:IntKind}{m n}(l:o.op=.binOp .add t x y j)(q:Ev c R x (.r (.int k m)))(A:Ev c R y (.r (.int k n))) :
  AS P c o R h (.r (.int k (k.wrap (m+n)))):=
 Eo l q A (λw=>by rw[binOp_add];simp only[Op.intArith];rfl) (λ_ _=>.int _ _)
theorem X5{t j}{x y}{k:IntKind}{m n}(l:o.op=.binOp .sub t x y j)(q:Ev c R x (.r (.int k m)))(A:Ev c R y (.r (.int k n))) :
  AS P c o R h (.r (.int k (k.wrap (m-n)))):=
 Eo l q A (λw=>by rw[binOp_sub];simp only[Op.intArith];rfl) (λ_ _=>.int _ _)
theorem aV{t j}{x y}{k:IntKind}{m n:Int}(l:o.op=.binOp .quo t x y j)(q:Ev c R x (.r (.int k m)))(A:Ev c R y (.r (.int k n)))
 (B:n≠0) (C:k.wrap (m.tdiv n)=m.tdiv n):AS P c o R h (.r (.int k (m.tdiv n))) :=
  Eo l q A (λw => by rw[binOp_quo];simp only[Op.intDiv, wv B, C];rfl) (λ_ _ => .int _ _)
theorem gk{t j}{x y}{k}{m n:Int}(l:o.op=.binOp .rem t x y j)(q:Ev c R x (.r (.int k m)))(A:Ev c R y (.r (.int k n)))
 (B:n≠0):AS P c o R h (.r (.int k (m.tmod n))) :=
  Eo l q A (λw => by rw[binOp_rem];simp only[Op.intDiv, wv B];rfl) (λ_ _ => .int _ _)
theorem BB{t j}{x y}{k}{m n}(l:o.op=.binOp .eql t x y j)(q:Ev c R x (.r (.int k m)))(A:Ev c R y (.r (.int k n))) :
  AS P c o R h (.r (.bool (decide (m=n)))):=
 Eo l q A (λw=>by rw[binOp_eql];rfl) (λ_ _=>.bool _)
theorem Cm{t j}{x y}{k}{m n}(l:o.op=.binOp .neq t x y j)(q:Ev c R x (.r (.int k m)))(A:Ev c R y (.r (.int k n))) :
  AS P c o R h (.r (.bool (!(m=n)))):=
 Eo l q A (λw=>by rw[binOp_neq];rfl) (λ_ _=>.bool _)
theorem B6{t j}{x y}{k}{m n}(l:o.op=.binOp .lss t x y j)(q:Ev c R x (.r (.int k m)))(A:Ev c R y (.r (.int k n))) :
  AS P c o R h (.r (.bool (decide (m<n)))):=
 Eo l q A (λw=>by rw[binOp_lss];rfl) (λ_ _=>.bool _)
theorem FA{t j}{x y}{k}{m n}(l:o.op=.binOp .leq t x y j)(q:Ev c R x (.r (.int k m)))(A:Ev c R y (.r (.int k n))) :
  AS P c o R h (.r (.bool (decide (m<=n)))):=
 Eo l q A (λw=>by rw[binOp_leq];rfl) (λ_ _=>.bool _)
theorem Bd{t j}{x y}{k}{m n}(l:o.op=.binOp .gtr t x y j)(q:Ev c R x (.r (.int k m)))(A:Ev c R y (.r (.int k n))) :
  AS P c o R h (.r (.bool (decide (n<m)))):=
 Eo l q A (λw=>by rw[binOp_gtr];rfl) (λ_ _=>.bool _)
theorem DE{t j}{x y}{k}{m n}(l:o.op=.binOp .geq t x y j)(q:Ev c R x (.r (.int k m)))(A:Ev c R y (.r (.int k n))) :
  AS P c o R h (.r (.bool (decide (n<=m)))):=
 Eo l q A (λw=>by rw[binOp_geq];rfl) (λ_ _=>.bool _)
def Ay(a b:List UInt8):Bool:=Op.bytesLess a b
theorem Kw{op}{t m}{x y}{a b:List UInt8}{v}{u}(q:o.op=.binOp op t x y m)(A:Ev c R x (.r (.str a)))(B:Ev c R y (.r (.str b)))
 (C:∀w, (binOp op t (.string ⟨a.toArray⟩) (.string ⟨b.toArray⟩)).run P w=.ok u w) (E:∀w S, A4 w S v u):AS P c o R h (.r v) := by
  intro j z w _ _ l
  refine⟨u, λI F => ?_, .r (E _ _)⟩
  unfold execOp
  rw[q]
  simp only[IM (A.rep l j), IM (B.rep l j), eqGuard_at_string]
  simp[C]
theorem EM{t j}{x y}{a b}(l:o.op=.binOp .eql t x y j)(m:Ev c R x (.r (.str a)))(q:Ev c R y (.r (.str b))) :
  AS P c o R h (.r (.bool (decide (a=b)))):=
 Kw (u:=.bool (a==b)) l m q (λw=>by simp[binOp,Op.stringOp,ByteArray.toList_eq]) (λ_ _=>by
  have:(a==b)=decide (a=b):=by by_cases h:a=b<;>simp[h]
  rw[this];exact .bool _)
theorem D7{t j}{x y}{a b}(l:o.op=.binOp .neq t x y j)(m:Ev c R x (.r (.str a)))(q:Ev c R y (.r (.str b))) :
  AS P c o R h (.r (.bool (!(a=b)))):=
 Kw (u:=.bool (!(a==b))) l m q (λw=>by simp[binOp,Op.stringOp,ByteArray.toList_eq]) (λ_ _=>by
  have:(a==b)=decide (a=b):=by by_cases h:a=b<;>simp[h]
  rw[this];exact .bool _)
theorem Nr{t j}{x y}{a b}(l:o.op=.binOp .lss t x y j)(m:Ev c R x (.r (.str a)))(q:Ev c R y (.r (.str b))) :
  AS P c o R h (.r (.bool (Ay a b))):=
 Kw (u:=.bool (Ay a b)) l m q (λw=>by simp[binOp,Op.stringOp,ByteArray.toList_eq,Ay]) (λ_ _=>.bool _)
theorem U6{t j}{x y}{a b}(l:o.op=.binOp .geq t x y j)(m:Ev c R x (.r (.str a)))(q:Ev c R y (.r (.str b))) :
  AS P c o R h (.r (.bool (!Ay a b))):=
 Kw (u:=.bool (!Ay a b)) l m q (λw=>by simp[binOp,Op.stringOp,ByteArray.toList_eq,Ay]) (λ_ _=>.bool _)
theorem ZL{t j}{x y}{a b}(l:o.op=.binOp .leq t x y j)(m:Ev c R x (.r (.str a)))(q:Ev c R y (.r (.str b))) :
  AS P c o R h (.r (.bool (Ay a b||(a=b)))):=
 Kw (u:=.bool (Ay a b||(a==b))) l m q (λw=>by simp[binOp,Op.stringOp,ByteArray.toList_eq,Ay]) (λ_ _=>by
  have:(a==b)=decide (a=b):=by by_cases h:a=b<;>simp[h]
  rw[this];exact .bool _)
theorem ZW{t j}{x y}{a b}(l:o.op=.binOp .gtr t x y j)(m:Ev c R x (.r (.str a)))(q:Ev c R y (.r (.str b))) :
  AS P c o R h (.r (.bool (!(Ay a b||(a=b))))):=
 Kw (u:=.bool (!(Ay a b||(a==b)))) l m q (λw=>by simp[binOp,Op.stringOp,ByteArray.toList_eq,Ay]) (λ_ _=>by
  have:(a==b)=decide (a=b):=by by_cases h:a=b<;>simp[h]
  rw[this];exact .bool _)
theorem gR{t l}{x y}{a b:List UInt8}(m:o.op=.binOp .add t x y l)(q:Ev c R x (.r (.str a)))(A:Ev c R y (.r (.str b)))
 (C:a.length+b.length<=9223372036854775807):AS P c o R h (.r (.str (a++b))) :=
  Kw (u := .string (⟨a.toArray⟩++⟨b.toArray⟩)) m q A (λw => by
    have j:(⟨a.toArray⟩:ByteArray).size=a.length := rfl
    have B:(⟨b.toArray⟩:ByteArray).size=b.length := rfl
    have:¬ (9223372036854775807:Int)<(a.length:Int)+(b.length:Int) := by omega
    simp[binOp, Op.stringOp, j, B, this]) (λw S => by
    have j:(a++b)=((⟨a.toArray⟩:ByteArray)++⟨b.toArray⟩).data.toList := by simp[ByteArray.data_append]
    rw[j];exact .str _)
theorem BC{t}{x}{b}(j:o.op=.unOp .not t x)(l:Ev c R x (.r (.bool b))):AS P c o R h (.r (.bool (!b))):=by
 intro m z w _ _ q
 refine⟨.bool (!b),λB A=>?_,.r (.bool _)⟩
 unfold execOp
 rw[j]
 simp[G2 (l.rep q m),Op.unary]
theorem YS{t}{x}{k:IntKind}{m}(j:o.op=.unOp .neg t x)(l:Ev c R x (.r (.int k m)))(q:k.wrap (-m) = -m):AS P c o R h (.r (.int k (-m))):=by
 intro A z w _ _ B
 refine⟨.int k (-m),λE C=>?_,.r (.int _ _)⟩
 unfold execOp
 rw[j]
 simp[Ci (l.rep B A),Op.unary,Op.intArith,q]
theorem BZ{x y}{a b}(m:o.op=.pick x y (.const (.bool false)))(q:Ev c R x (.r (.bool a)))(A:Ev (c&&(a==true)) R y (.r (.bool b))) :
  AS P c o R h (.r (.bool (a&&b))):=by
 intro j z w _ _ l
 refine⟨.bool (a&&b),λE B=>?_,.r (.bool _)⟩
 unfold execOp
 rw[m]
 simp only[G2 (q.rep l j),asBool]
 cases a with
 | true=>
  have C:w.eval y=.bool b:=G2 (A.rep l (by simp[j]))
  simp[C]
 | false=>simp[Act.eval]
theorem CS{x y}{a b}(m:o.op=.pick x (.const (.bool true)) y)(q:Ev c R x (.r (.bool a)))(A:Ev (c&&(a==false)) R y (.r (.bool b))) :
  AS P c o R h (.r (.bool (a||b))):=by
 intro j z w _ _ l
 refine⟨.bool (a||b),λE B=>?_,.r (.bool _)⟩
 unfold execOp
 rw[m]
 simp only[G2 (q.rep l j),asBool]
 cases a with
 | false=>
  have C:w.eval y=.bool b:=G2 (A.rep l (by simp[j]))
  simp[C]
 | true=>simp[Act.eval]
theorem Ro{x:Cx}{xs:List (List RV)}{v}(j:AP x (.r (.sl xs)) v):(xs=[]/\(v=.slice none 0 0\/∃a,v=.slice (some a) 0 0)) \/
  ∃(b off cap size:Nat) (u:Nat->Nat->Value),v=.slice (some ⟨b,off,none⟩) xs.length cap/\(xs≠[]->x.S b)/\xs.length<=cap/\cap<=maxLen/\(∀row∈xs,row.length=size) /\
   (∀i row k d,xs[i]?=some row->row[k]?=some d->x.w.cell? ⟨b,off+i * size+k,none⟩=some (u i k)) /\
   ∀i row k d,xs[i]?=some row->row[k]?=some d->A4 x.w x.S d (u i k):=by
 cases j with
 | r h=>cases h with
  | snil=>exact .inl ⟨rfl,.inl rfl⟩
  | sl0 a=>exact .inl ⟨rfl,.inr ⟨a,rfl⟩⟩
  | sl b off _ cap size u l m q w A B=>exact .inr ⟨b,off,cap,size,u,rfl,l,m,q,w,A,B⟩
theorem am{t}{e}{sz}{x}{xs:List (List RV)}(q:o.op=.call { callee:=.builtin .len,args:=#[x],argTypes:=#[t] })(l:DU P t e sz)(A:Ev c R x (.r (.sl xs))) :
  AS P c o R h (.r (.int .i64 xs.length)):=by
 intro B z w _ _ C
 refine⟨.int .i64 xs.length,λF E=>?_,.r (.int _ _)⟩
 unfold execOp
 rw[q]
 rcases Ro (A.rep C B) with ⟨m,j | ⟨a,j⟩⟩ | ⟨b,off,cap,size,u,j,_⟩
 .subst m;simp[resolve,invoke,builtin,j,Builtin.len_,run_underlying l.1,goInt]
 .subst m;simp[resolve,invoke,builtin,j,Builtin.len_,run_underlying l.1,goInt]
 .simp[resolve,invoke,builtin,j,Builtin.len_,run_underlying l.1,goInt]
theorem gc{t}{e e'}{sz l}{x}{id g}{xs:List (List RV)}(B:o.op=.call { callee := .builtin .len, args := #[x], argTypes := #[t] })(m:DU P t e sz)(C:Ev c R x (.own id g))
 (E:hget h id=some (.arr g e' l xs)):AS P c o R h (.r (.int .i64 xs.length)) := by
  intro F z w _ I J
  refine⟨.int .i64 xs.length, λU M => ?_, .r (.int _ _)⟩
  unfold execOp
  rw[B]
  have q := C.rep J F
  generalize A:w.eval x=v at q
  cases q with
  | own _ _ O =>
    have j := O _ (by rw[I];exact E) rfl
    simp only[AU.shape] at j
    unfold Bh at j
    split at j
    · obtain⟨T, rfl⟩ := j
      simp[resolve, invoke, builtin, A, T, Builtin.len_, run_underlying m.1, goInt]
    · subst j
      simp[resolve, invoke, builtin, A, Builtin.len_, run_underlying m.1, goInt]
theorem oT{t}{e}{sz}{x}(l:o.op=.call { callee:=.builtin .len,args:=#[x],argTypes:=#[t] })(m:DU P t e sz)(q:Ev c R x (.cst (.slice none 0 0))) :
  AS P c o R h (.r (.int .i64 0)):=by
 intro A z w _ _ B
 refine⟨.int .i64 0,λF C=>?_,.r (.int _ _)⟩
 unfold execOp
 rw[l]
 have j:=q.rep B A
 generalize E:w.eval x=v at j
 cases j
 simp[resolve,invoke,builtin,E,Builtin.len_,run_underlying m.1,goInt]
theorem Df{t}{x}{s:List UInt8}(j:o.op=.call { callee:=.builtin .len,args:=#[x],argTypes:=#[t] })(l:P.underlying t=some .string)(m:Ev c R x (.r (.str s))) :
  AS P c o R h (.r (.int .i64 s.length)):=by
 intro q z w _ _ A
 refine⟨.int .i64 s.length,λC B=>?_,.r (.int _ _)⟩
 unfold execOp
 rw[j]
 have hsz:(⟨s.toArray⟩:ByteArray).size=s.length:=rfl
 simp[resolve,invoke,builtin,IM (m.rep A q),Builtin.len_,run_underlying l,goInt,hsz]
theorem eU{t e}{sz}{x i}{xs:List (List RV)}{k}{n:Int}{row:List RV}(Z:o.op=.indexAddr t x i)(ht:DU P t e sz)(hx:Ev c R x (.r (.sl xs)))
 (hi:Ev c R i (.r (.int k n))) (h0:c=true->0<=n) (q:c=true->xs[n.toNat]?=some row) (A:row.length=sz):AS P c o R h (.rop row 0) := by
  intro F z w _ _ V
  obtain⟨J, ii, M, O⟩ := ht
  have I := q F
  have B:n.toNat<xs.length := (wx.1 I).1
  have T := h0 F
  have C:n<xs.length := by omega
  rcases Ro (hx.rep V F) with ⟨h1, _⟩ | ⟨b, off, cap, size, u, h2, hS, X, hm, hsz, l, E⟩
  · subst h1;simp at B
  · have m:size=sz := by rw[<- hsz row (xa I)];exact A
    subst m
    refine⟨.pointer (some ⟨b, (off+n.toNat * size)+0, none⟩), λw2 a0 => ?_, .rop (λj => u n.toNat j) (λ_ => hS (by rintro rfl;simp at B)) (λj d U => l _ _ _ _ I U) (λj d U => E _ _ _ _ I U)⟩
    unfold execOp
    rw[Z]
    simp[h2, Ci (hi.rep V F), Instr.indexAt, asIntOf, run_underlying J, T, C, DY M, O, Addr.add_lit]
theorem MT{x:Cx}(j:x.ok){id g}{e}{sz}{xs:List (List RV)}{v}(w:x.H id=some (.arr g e sz xs))(l:AP x (.own id g) v) :
  0<sz/\(∀row∈xs,row.length=sz)/\∃us,Bh (x.β id) xs.length v/\x.w.ownsRow 0 e sz v xs.length us /\
   ∀i row c d,xs[i]?=some row->row[c]?=some d->∃u,us[i * sz+c]?=some u/\A4 x.w x.S d u:=by
 obtain⟨_,B,C,m,us,q,E,F⟩:=j.obj _ _ w
 cases l with
 | own _ _ l=>
  have A:=l _ w rfl
  simp only[AU.shape] at A
  have:v=m:=by
   unfold Bh at q A
   split at q<;>simp_all
  subst this
  exact⟨B,C,us,q,E,F⟩
theorem fS{t e}{sz}{x i}{id g}{e'}{xs:List (List RV)}{k}{n:Int}(T:o.op=.indexAddr t x i)(U:DU P t e sz)(V:Ev c R x (.own id g))
 (X:hget h id=some (.arr g e' sz xs)) (Z:Ev c R i (.r (.int k n))) (h0:c=true->0<=n) (h1:c=true->n<xs.length):AS P c o R h (.ptr id g n.toNat 0) := by
  intro q z w A hH J
  obtain⟨B, ii, C, E⟩ := U
  have F := h0 q
  have l := h1 q
  have j:z.H id=some (.arr g e' sz xs) := by rw[hH];exact X
  have M := V.rep J q
  obtain⟨_, _, us, hd, _, _⟩ := MT A j M
  have hg:g<z.n := by cases M with | own hg _ _ => exact hg
  cases I:z.β id with
  | none => rw[I] at hd;have := hd.1;omega
  | some p =>
    obtain⟨b, cap⟩ := p
    rw[I] at hd
    simp only[Bh] at hd
    refine⟨.pointer (some ⟨b, n.toNat * sz+0, none⟩), λw2 a0 => ?_, .ptr hg rfl λo' m O => ?_⟩
    · unfold execOp
      rw[T]
      simp[hd, Ci (Z.rep J q), Instr.indexAt, asIntOf, run_underlying B, F, l, DY C, E, Addr.add_lit]
    · rw[j] at m;cases m
      exact⟨b, cap, I, rfl⟩
end
section
variable{P:Program}{c:Bool}{o:Oper}{R:Aa}{h:AL}
theorem Xj{t}{x i}{s:List UInt8}{k}{n:Int}{l:UInt8}(B:o.op=.index t x i)(C:P.underlying t=some .string)(E:Ev c R x (.r (.str s)))
 (F:Ev c R i (.r (.int k n))) (I:c=true->0<=n) (j:c=true->s[n.toNat]?=some l):AS P c o R h (.r (.int .u8 l.toNat)) := by
  intro m z w _ _ A
  refine⟨.int .u8 l.toNat, λU J => ?_, .r (.int _ _)⟩
  obtain⟨M, O⟩ := wx.1 (j m)
  have q:n.toNat<(⟨s.toArray⟩:ByteArray).size := M
  have T:(if 0<=n then(⟨s.toArray⟩:ByteArray)[n.toNat]? else none)=some l := by
    rw[ww (I m), ByteArray.getElem?_lt' _ _ q]
    exact xc some O
  unfold execOp
  rw[B]
  simp only[IM (E.rep A m), Ci (F.rep A m), Instr.index, asIntOf]
  simp[run_underlying C, T]
theorem BL{t}{x}{f off}{row}{k}(q:o.op=.fieldAddr t x f)(A:An P t f off)(B:Ev c R x (.rop row k)):AS P c o R h (.rop row (k+off)):=by
 intro C z w _ _ E
 obtain⟨Z,fl,i,F,I,J,M,O⟩:=A
 have m:=B.rep E C
 generalize T:w.eval x=v at m
 cases m with
 | @rop _ _ b j u U l V=>
  refine⟨.pointer (some ⟨b,j+(k+off),none⟩),λw2 X=>?_,.rop u U l V⟩
  unfold execOp
  rw[q]
  simp[T,Instr.fieldAt,run_underlying F,I,Instr.sureAddr,fieldPlace,DY M,O,J,Addr.add_lit,yz]
theorem CO{t}{x}{f off}{id g i k}{ob:AU}(B:o.op=.fieldAddr t x f)(C:An P t f off)(E:Ev c R x (.ptr id g i k))(F:c=true->hget h id=some ob)
 (hg:ob.gen=g):AS P c o R h (.ptr id g i (k+off)) := by
  intro q z w _ I J
  obtain⟨fs, fl, ii, M, O, T, U, V⟩ := C
  have A := E.rep J q
  generalize X:w.eval x=v at A
  cases A with
  | ptr m _ hp =>
    have j:z.H id=some ob := by rw[I];exact F q
    obtain⟨b, cap, Z, rfl⟩ := hp ob j hg
    refine⟨.pointer (some ⟨b, i * ob.shape.2.1+(k+off), none⟩), λw2 a0 => ?_, .ptr m rfl λo' l _ => ?_⟩
    · unfold execOp
      rw[B]
      simp[X, Instr.fieldAt, run_underlying M, O, Instr.sureAddr, fieldPlace, DY U, V, T, Addr.add_lit, yz]
    · rw[j] at l;cases l;exact⟨b, cap, Z, rfl⟩
theorem Mj{t}(j:BH P t){w:World}{b k}{u}(hc:w.cell? ⟨b,k,none⟩=some u):(Instr.loadAt t (.pointer (some ⟨b,k,none⟩))).run P w=.ok u w:=by
 obtain⟨d,i,l,m,_,_⟩:=j
 simp[Instr.loadAt,Instr.sureAddr,loadVar,IV l,m,hc]
theorem J0{t}{sz}(l:BW P t sz){w:World}{b k}(f:Nat->Value)(hc:∀j,j<sz->w.cell? ⟨b,k+j,none⟩=some (f j)) :
  (Instr.loadAt t (.pointer (some ⟨b,k,none⟩))).run P w=.ok (.agg ((List.range sz).map f).toArray) w:=by
 obtain⟨d,i,m,q,A,B⟩:=l
 have C:=run_loadCells (P:=P) w ⟨b,k,none⟩ sz f (λj E=>by rw[Addr.add_lit];exact hc j E)
 simp[Instr.loadAt,Instr.sureAddr,loadVar,IV m,q,DY A,B,C]
theorem JD{x}{cs:List AV}{sz}(q:cs.length=sz) f(w:∀j a,cs[j]?=some a->AP x a (f j)):AP x (.agg cs) (.agg ((List.range sz).map f).toArray):=by
 refine .agg (by simp[q]) λi a u l m=>?_
 have A:i<sz:=by have:=(wx.1 l).1;omega
 simp[A] at m
 subst m
 exact w i a l
theorem YE{t}{x}{row}{k}{d}(C:o.op=.load t x)(E:BH P t)(F:Ev c R x (.rop row k))(hd:c=true->row[k]?=some d):AS P c o R h (.r d):=by
 intro j z w _ _ I
 have A:=F.rep I j
 generalize J:w.eval x=v at A
 cases A with
 | @rop _ _ b B u M l O=>
  refine⟨u k,λT m=>?_,.r (O _ _ (hd j))⟩
  unfold execOp
  rw[C]
  have q:row≠[]:=by have:=hd j;rintro rfl;simp at this
  simp[J,Mj E ((m.cellS (M q)).trans (l _ _ (hd j)))]
theorem bO{t}{x}{row:List RV}{sz}(C:o.op=.load t x)(E:BW P t sz)(F:Ev c R x (.rop row 0))(hd:row.length=sz):AS P c o R h (.agg (row.map .r)):=by
 intro I z w _ _ J
 have B:=F.rep J I
 generalize M:w.eval x=v at B
 cases B with
 | @rop _ _ b l u O m T=>
  refine⟨.agg ((List.range sz).map u).toArray,λU q=>?_,JD (by simp[hd]) u λj a A=>?_⟩
  .unfold execOp
   rw[C]
   have:=J0 E (w:=U) (b:=b) (k:=l+0) u (λj A=>(q.cellS (O (by rintro rfl;simp at hd;omega))).trans (m j (row[j]'(by omega)) (wz _)))
   simp only[yG] at this
   simp[M,this]
  .simp only[xJ,xK] at A
   obtain⟨d,V,rfl⟩:=A
   exact .r (T _ _ V)
theorem IQ{x:Cx}(m:x.ok){id g k}{e}{cs:List AV}{v}(A:x.H id=some (.box g e cs))(q:AP x (.ptr id g 0 k) v) :
  ∃b l,x.β id=some (b,1)/\v=.pointer (some ⟨b,k,none⟩)/\x.w.heap[b]?=some (.cells l e (0,0))/\l.size=cs.length /\
   ∀(j:Nat) (a:AV),cs[j]?=some a->∃u:Value,l[j]?=some u/\u.oneCell'=true/\AP x a u:=by
 obtain⟨_,b,l,B,C,E,F⟩:=m.obj _ _ A
 cases q with
 | ptr _ _ q=>
  obtain⟨J,cap,w,I⟩:=q _ A rfl
  rw[B] at w
  simp only[xF,xM] at w
  obtain⟨rfl,rfl⟩:=w
  exact⟨b,l,B,by rw[I,zM,xd],C,E,F⟩
theorem ZU{t}{x}{id g k}{e}{cs}{a}(B:o.op=.load t x)(C:BH P t)(E:Ev c R x (.ptr id g 0 k))(F:c=true->hget h id=some (.box g e cs))
 (I:c=true->cs[k]?=some a):AS P c o R h a := by
  intro l z w m J M
  have j:z.H id=some (.box g e cs) := by rw[J];exact F l
  obtain⟨b, q, O, T, U, h4, V⟩ := IQ m j (E.rep M l)
  obtain⟨u, X, _, Z⟩ := V _ _ (I l)
  refine⟨u, λw2 A => ?_, Z⟩
  unfold execOp
  rw[B]
  simp[T, Mj C ((A.cellO j O).trans ((cell_of_row _ b k q e _ U).trans X))]
theorem mW{t}{x}{id g}{e}{sz}{cs:List AV}(I:o.op=.load t x)(J:BW P t sz)(M:Ev c R x (.ptr id g 0 0))(O:c=true->hget h id=some (.box g e cs))
 (T:cs.length=sz):AS P c o R h (.agg cs) := by
  intro F z w B U V
  have m:z.H id=some (.box g e cs) := by rw[U];exact O F
  obtain⟨b, l, X, Z, h3, h4, h5⟩ := IQ B m (M.rep V F)
  have q:∀j, j<sz->z.w.cell? ⟨b, 0+j, none⟩=some ((λj => l.getD j undef) j) := by
    intro j A
    have C:j<l.size := by omega
    rw[xd, cell_of_row _ b j l e _ h3]
    simp[C]
  refine⟨.agg ((List.range sz).map λj => l.getD j undef).toArray, λw2 E => ?_, JD T _ λj a A => ?_⟩
  · unfold execOp
    rw[I]
    simp[Z, J0 J _ (λj A => (E.cellO m X).trans (q j A))]
  · obtain⟨u, h6, _, h7⟩ := h5 _ _ A
    obtain⟨h8, h9⟩ := xt.1 h6
    simpa[h8, h9] using h7
theorem Jm{w:World}{e}{sz n cap b}{us}(h:w.ownsRow 0 e sz (.slice (some ⟨b,0,none⟩) n cap) n us){j}{u}(l:us[j]?=some u):w.cell? ⟨b,j,none⟩=some u:=by
 have:=h.cells (g:=b) rfl j u l
 rwa [Addr.add_lit,xd] at this
theorem SD{x:Cx}(j:x.ok){id g i k}{e}{sz}{xs:List (List RV)}{v}(q:x.H id=some (.arr g e sz xs))(_hi:i<xs.length)(l:AP x (.ptr id g i k) v) :
  ∃b cap us,x.β id=some (b,cap)/\v=.pointer (some ⟨b,i * sz+k,none⟩)/\x.w.ownsRow 0 e sz (.slice (some ⟨b,0,none⟩) xs.length cap) xs.length us/\(∀row∈xs,row.length=sz) /\
   ∀i row c d,xs[i]?=some row->row[c]?=some d->∃u,us[i * sz+c]?=some u/\A4 x.w x.S d u:=by
 obtain⟨_,I,A,B,us,m,C,E⟩:=j.obj _ _ q
 cases l with
 | ptr _ _ l=>
  obtain⟨b,cap,w,F⟩:=l _ q rfl
  rw[w] at m
  simp only[Bh] at m
  subst m
  exact⟨b,cap,us,w,F,C,A,E⟩
theorem gU{t}{x}{id g i k}{e}{sz}{xs}{row}{d}(B:o.op=.load t x)(C:BH P t)(E:Ev c R x (.ptr id g i k))(F:c=true->hget h id=some (.arr g e sz xs))
 (j:c=true->xs[i]?=some row) (I:c=true->row[k]?=some d):AS P c o R h (.r d) := by
  intro m z w q J M
  have l:z.H id=some (.arr g e sz xs) := by rw[J];exact F m
  obtain⟨b, cap, us, O, T, U, _, V⟩ := SD q l (wx.1 (j m)).1 (E.rep M m)
  obtain⟨u, X, Z⟩ := V _ _ _ _ (j m) (I m)
  refine⟨u, λw2 A => ?_, .r Z⟩
  unfold execOp
  rw[B]
  simp[T, Mj C ((A.cellO l O).trans (Jm U X))]
theorem fM{t}{x}{id g i}{e}{sz}{xs}{row:List RV}(M:o.op=.load t x)(O:BW P t sz)(T:Ev c R x (.ptr id g i 0))(U:c=true->hget h id=some (.arr g e sz xs))
 (l:c=true->xs[i]?=some row):AS P c o R h (.agg (row.map .r)) := by
  intro A z w E V X
  have m:z.H id=some (.arr g e sz xs) := by rw[V];exact U A
  obtain⟨b, cap, I, Z, h2, h3, h4, J⟩ := SD E m (wx.1 (l A)).1 (T.rep X A)
  have hl := h4 row (xa (l A))
  have q:∀j, j<sz->z.w.cell? ⟨b, i * sz+0+j, none⟩=some ((λj => I.getD (i * sz+j) undef) j) := by
    intro j B
    obtain⟨u, C, _⟩ := J i row j (row[j]'(by omega)) (l A) (wz _)
    rw[yG, Jm h3 C]
    simp[List.getD, C]
  refine⟨.agg ((List.range sz).map λj => I.getD (i * sz+j) undef).toArray, λw2 F => ?_, JD (by simp[hl]) _ λj a B => ?_⟩
  · unfold execOp
    rw[M]
    simp only[h2, J0 O _ (λj B => (F.cellO m Z).trans (q j B)), Sem.run_bind, Result.andThen_ok, Sem.run_pure]
  · simp only[xJ, xK] at B
    obtain⟨d, C, rfl⟩ := B
    obtain⟨u, h7, h8⟩ := J i row j d (l A) C
    simpa[List.getD, h7] using AP.r h8
theorem Tg{x}{vs}{i}{a}(B:o.op=.extract x i)(C:Ev c R x (.tup vs))(m:vs[i]?=some a):AS P c o R h a:=by
 intro E z w _ _ F
 have q:=C.rep F E
 generalize I:w.eval x=v at q
 cases q with
 | @tup _ l M j=>
  have A:i<l.size:=by have:=(wx.1 m).1;omega
  refine⟨l[i],λO J=>?_,j i a l[i] m (xe A)⟩
  unfold execOp
  rw[B]
  simp[I,Instr.extract,xe A]
theorem j9{x}{row}{k}(m:o.op=.nilCheck x)(q:Ev c R x (.rop row k)):AS P c o R h (.rop row k):=by
 intro A z w _ _ B
 have j:=q.rep B A
 refine⟨w.eval x,λI C=>?_,j⟩
 generalize E:w.eval x=v at j
 cases j with
 | @rop _ _ b l u J F M=>
  unfold execOp
  rw[m]
  simp[E]
theorem Ku{x}{id g i k}{ob:AU}(m:o.op=.nilCheck x)(q:Ev c R x (.ptr id g i k))(A:c=true->hget h id=some ob)(hg:ob.gen=g):AS P c o R h (.ptr id g i k):=by
 intro l z w _ B C
 have j:=q.rep C l
 refine⟨w.eval x,λJ E=>?_,j⟩
 generalize F:w.eval x=v at j
 cases j with
 | ptr I _ hp=>
  obtain⟨b,cap,M,rfl⟩:=hp ob (by rw[B];exact A l) hg
  unfold execOp
  rw[m]
  simp[F]
theorem D3{t m}{x}{k j:IntKind}{n}{d}(q:o.op=.convert t m x)(A:P.underlying t=some d)(l:P.underlying m=some (.int j))(B:Ev c R x (.r (.int k n))) :
  AS P c o R h (.r (.int j (j.wrap n))):=by
 intro C z w _ _ E
 refine⟨.int j (j.wrap n),λI F=>?_,.r (.int _ _)⟩
 unfold execOp
 rw[q]
 simp[Ci (B.rep E C),convert,run_underlying A,run_underlying l,Conv.intToInt]
theorem WI{j}{x y}{k}{m n}(A:o.op=.call { callee:=.builtin .min,args:=#[x,y],argTypes:=j })(B:Ev c R x (.r (.int k m)))(C:Ev c R y (.r (.int k n))) :
  AS P c o R h (.r (.int k (min m n))):=by
 intro l z w _ _ q
 refine⟨.int k (if n<m then n else m),λF E=>?_,?_⟩
 .unfold execOp
  rw[A]
  simp[resolve,invoke,builtin,Ci (B.rep q l),Ci (C.rep q l),Builtin.min_,Builtin.min2]
 .have:(if n<m then n else m)=min m n:=by omega
  rw[this];exact .r (.int _ _)
theorem R5{j}{x y}{k}{m n}(A:o.op=.call { callee:=.builtin .max,args:=#[x,y],argTypes:=j })(B:Ev c R x (.r (.int k m)))(C:Ev c R y (.r (.int k n))) :
  AS P c o R h (.r (.int k (max m n))):=by
 intro l z w _ _ q
 refine⟨.int k (if n > m then n else m),λF E=>?_,?_⟩
 .unfold execOp
  rw[A]
  simp[resolve,invoke,builtin,Ci (B.rep q l),Ci (C.rep q l),Builtin.max_,Builtin.max2]
 .have:(if n > m then n else m)=max m n:=by omega
  rw[this];exact .r (.int _ _)
end
section
variable{P:Program}{c:Bool}{o:Oper}{R:Aa}{h:AL}{n:Nat}
theorem Ck id ob h:(λi=>if id=i then some ob else hget h i)=hget ((id,some ob)::h):=by
 funext i;rw[BG]
def BQ:AV->List AV
 | .agg j=>j
 | a=>[a]
theorem Kj{x}{a}{v:Value}(I:AP x a v)(C:∀b∈BQ a,b.one=true) :
  v.cells.size=(BQ a).length/\(∀(j:Nat) (b:AV),(BQ a)[j]?=some b->∃u:Value,v.cells[j]?=some u/\u.oneCell'=true/\AP x b u)/\∀u∈v.cells.toList,u.oneCell'=true:=by
 have key:∀(w:List AV) (q:Array Value),w.length=q.size->(∀(i:Nat) (c:AV) (u:Value),w[i]?=some c->q[i]?=some u->AP x c u)->(∀b∈w,b.one=true) ->
   q.size=w.length/\(∀(j:Nat) (b:AV),w[j]?=some b->∃u:Value,q[j]?=some u/\u.oneCell'=true/\AP x b u)/\∀u∈q.toList,u.oneCell'=true:=by
  intro w q J l A
  refine⟨J.symm,λj b B=>?_,λu E=>?_⟩
  .have m:j<q.size:=by have:=(wx.1 B).1;omega
   exact⟨q[j],xe m,(l j b q[j] B (xe m)).one (A b (xa B)),l j b q[j] B (xe m)⟩
  .obtain⟨j,B⟩:=yM.1 E
   have m:j<w.length:=by have:=(wx.1 B).1;simp at this;omega
   have C:=l j w[j] u (wz m) (by simpa using B)
   exact C.one (A _ (xw m))
 cases a with
 | agg w=>
  cases I with
  | agg J l=>exact key _ _ J l C
 | _=>
  have M:=I.one (C _ (by simp[BQ]))
  have O:v.cells = #[v]:=by cases v<;>first | rfl | (simp[Value.oneCell'] at M)
  rw[O]
  refine key _ _ rfl (λi c u F E=>?_) C
  simp only[BQ,List.getElem?_singleton] at F
  split at F
  .rename_i T;subst T
   cases F;simp at E;subst E;exact I
  .cases F
theorem Uh{x:Cx}(q:x.ok)(id:Nat)(e:TypeId)(a:AV){v:Value}(B:AP x a v)(C:∀b∈BQ a,b.one=true) :
  ∃y:Cx,x.le y/\y.ok/\y.w=x.w.alloc (.cells v.cells e)/\y.H=(λi=>if id=i then some (.box x.n e (BQ a)) else x.H i)/\y.n=x.n+1 /\
   AP y (.ptr id x.n 0 0) (.pointer (some ⟨x.w.heap.size,0,none⟩)):=by
 obtain⟨E,l,_⟩:=Kj B C
 have:=ES q id (.box x.n e (BQ a)) (x.w.alloc (.cells v.cells e)) (some (x.w.heap.size,1)) (x.n+1) (by simp) rfl rfl rfl
  (λb w _=>heap_alloc_old _ _ w) (λb k w=>by cases w;simp) (by omega) (by simp[AU.gen]) (λhg=>absurd hg (by simp[AU.gen]))
  (λA=>⟨x.w.heap.size,v.cells,rfl,heap_alloc_new _ _,E,λj b F=>by
   obtain⟨u,I,J,M⟩:=l j b F
   exact⟨u,I,J,M.mono A⟩⟩)
 refine⟨_,this.1,this.2,rfl,rfl,rfl,.ptr (by simp) rfl λO m _=>?_⟩
 simp only[ww] at m
 cases m
 exact⟨x.w.heap.size,1,by simp,by simp⟩
theorem WG{t}{v:Value}{w:World} : (newVar t v).run P w=.ok ⟨w.heap.size,0,none⟩ (w.alloc (.cells v.cells t)):=by
 simp[newVar,newRow]
def Cj(P:Program)(t:TypeId)(z:Value):Prop:=∃i,P.info? t=some i/\i.zero=some z
def Gc(z:Value):AV:=
 match z with
 | .agg j=>.agg (j.toList.map LA)
 | v=>LA v
theorem bU x z:AP x (Gc z) z:=by
 cases z with
 | agg m=>
  refine .agg (by simp) λi a u l q=>?_
  have j:m.toList[i]?=some u:=by simpa using q
  simp only[xJ,j,yF,xF] at l
  subst l;exact RX x u
 | _=>simp only[Gc];exact RX x _
theorem ZR{t:TypeId}{x:Operand}{a:AV}(id:Nat)(m:o.op=.box t x)(q:Ev c R x a)(A:(BQ a).all AV.one=true):Az P c o R h n (.ptr id n 0 0) ((id,some (.box n t (BQ a)))::h) (n+1):=by
 intro B z w j C l E K Q F
 obtain⟨y,I,J,M,O,T,U⟩:=Uh j id t a (q.rep E B) (λb V=>xf.1 A b V)
 unfold Oper.wp execOp
 rw[m]
 simp only[Instr.box,Sem.run_bind,WG,Result.andThen_ok,Sem.run_pure]
 have:=F (.pointer (some ⟨z.w.heap.size,0,none⟩)) y I J (by rw[O,C,l,Ck]) (by rw[T,l]) (by rw[<- l];exact U)
 rw[M] at this
 exact this
theorem aM{t:TypeId}{j:Value}(id:Nat)(A:o.op=.alloc t)(l:Cj P t j)(B:(BQ (Gc j)).all AV.one=true) :
  Az P c o R h n (.ptr id n 0 0) ((id,some (.box n t (BQ (Gc j))))::h) (n+1):=by
 intro X z w m C q Z K Q E
 obtain⟨i,F,l⟩:=l
 obtain⟨y,I,J,M,O,T,U⟩:=Uh m id t (Gc j) (bU z j) (λb V=>xf.1 B b V)
 unfold Oper.wp execOp
 rw[A]
 simp only[Instr.alloc,zeroValue,typeInfo,Sem.run_bind,run_program,Result.andThen_ok,F,Sem.run_pure,l,WG]
 have:=E (.pointer (some ⟨z.w.heap.size,0,none⟩)) y I J (by rw[O,C,q,Ck]) (by rw[T,q]) (by rw[<- q];exact U)
 rw[M] at this
 exact this
theorem O1{t}{i:TypeInfo}(m:P.info? t=some i){w:World}{b k}{e}{j:Array Value}(q:w.heap[b]?=some (.cells j e (0, 0))){v:Value}(A:v.cells.size=i.size)
 (B:∀u ∈ v.cells.toList, u.oneCell'=true) (l:k+v.cells.size<=j.size) :
    (Instr.storeAt t (.pointer (some ⟨b, k, none⟩)) v).run P w=.ok () (w.setRow b (j.toList.take k++v.cells.toList++j.toList.drop (k+v.cells.size)).toArray) := by
  have := run_storeCells_at P b k e v.cells.toList 0 j w q (by simpa using l) B
  simp only[yG, xq] at this
  simp[Instr.storeAt, Instr.sureAddr, storeVar, DY m, A, this]
theorem Jq{α:Type}(l vs:List α) k j(q:k+vs.length<=l.length):(l.take k++vs++l.drop (k+vs.length))[j]?=if k<=j/\j<k+vs.length then vs[j-k]? else l[j]?:=by
 by_cases m:j<k
 .rw[wv (by omega),yQ,xT (by simp;omega),xn,ww m]
 .by_cases w:j<k+vs.length
  .rw[ww (by omega),yQ,xP (by simp;omega),xT (by simp;omega)]
   congr 1
   simp only[yZ]
   omega
  .rw[wv (by omega),xP (by simp;omega)]
   simp only[xy,yZ,xr]
   congr 1<;>omega
def GF(cs:List AV)(k:Nat)(vs:List AV):List AV:=cs.take k++vs++cs.drop (k+vs.length)
theorem gK{t}{x y}{id g k}{e}{cs:List AV}{a}{sz}(ho:o.op=.store t x y)(ht:∃i, P.info? t=some i/\i.size=sz)(hx:Ev c R x (.ptr id g 0 k))
 (hh:hget h id=some (.box g e cs)) (hy:Ev c R y a) (hsz:(BQ a).length=sz) (h1:(BQ a).all AV.one=true) (F:Nat.ble (k+sz) cs.length=true) :
    Az P c o R h n .any ((id, some (.box g e (GF cs k (BQ a))))::h) n := by
  intro hc z w m hH hn he K Q hK
  obtain⟨ii, hi, a7⟩ := ht
  have l:z.H id=some (.box g e cs) := by rw[hH];exact hh
  have U:k+sz<=cs.length := xu F
  obtain⟨b, C, T, V, A, a8, q⟩ := IQ m l (hx.rep he hc)
  obtain⟨X, Z, a0⟩ := Kj (hy.rep he hc) (λb hb => xf.1 h1 b hb)
  have I := O1 (P := P) (k := k) hi A (v := w.eval y) (by omega) a0 (by omega)
  have a1 := (m.obj _ _ l).1
  have hl:(GF cs k (BQ a)).length=cs.length := by simp[GF];omega
  have J := ES m id (.box g e (GF cs k (BQ a))) (z.w.setRow b (C.toList.take k++(w.eval y).cells.toList++C.toList.drop (k+(w.eval y).cells.size)).toArray) (some (b, 1)) z.n (by simp[World.setRow]) rfl rfl rfl
    (λb' _ a2 => setRow_other _ _ _ _ (λe => a2 _ 1 l (by rw[e];exact T))) (λb' k' hb => by
      cases hb
      exact⟨by simpa[World.setRow] using(m.own id _ b 1 l T).1, .inr ⟨_, _, l, T⟩⟩) (wy _) a1
    (λ_ => ⟨_, l, rfl, by simp[AU.shape, hl], T.symm⟩)
    (λM => ⟨b, _, rfl, setRow_heap _ _ _ _ _ _ A, by simp;omega, λj d O => by
      have a6 := Jq cs (BQ a) k j (by omega)
      have B := Jq C.toList (w.eval y).cells.toList k j (by simp;omega)
      rw[xq] at B
      rw[List.getElem?_toArray, B]
      unfold GF at O
      rw[a6, <- X] at O
      split at O
      · rename_i E
        obtain⟨u, k1, k2, k3⟩ := Z _ _ O
        exact⟨u, by rw[ww E];simpa using k1, k2, k3.mono M⟩
      · rename_i E
        obtain⟨u, k1, k2, k3⟩ := q _ _ O
        exact⟨u, by rw[wv E];simpa using k1, k2, k3.mono M⟩⟩)
  unfold Oper.wp execOp
  rw[ho]
  simp only[V, Sem.run_bind, I, Result.andThen_ok, Sem.run_pure]
  exact hK undef _ J.1 J.2 (by simp only[hH];exact Ck _ _ _) hn (.any _)
end
section
variable{P:Program}{c:Bool}{o:Oper}{R:Aa}{h:AL}{n:Nat}
def Ba(P:Program)(t e:TypeId)(sz j:Nat):Prop:=
 P.underlying t=some (.slice e)/\∃i z,P.info? e=some i/\i.size=sz/\i.bytes=j/\i.zero=some z/\z.cells.size=sz/\(∀u∈z.cells.toList,u.oneCell'=true)/\0<sz
theorem Ba.slice{t e}{sz b}(h:Ba P t e sz b):DU P t e sz:=by
 obtain⟨j,i,z,l,m,_⟩:=h
 exact⟨j,i,l,m⟩
def HR:Value->Option (Nat × Nat)
 | .slice (some a) _ cap=>some (a.block,cap)
 | _=>none
theorem mP{xs:List (List RV)}{sz:Nat}(l:∀row∈xs,row.length=sz){us:List Value}{Q:RV->Value->Prop}
  (F:us.length=xs.length * sz) (I:∀j u,us[j]?=some u->∃row d,xs[j / sz]?=some row/\row[j % sz]?=some d/\Q d u) (hsz:0<sz) {i k:Nat} {row:List RV} {d:RV} (q:xs[i]?=some row) (w:row[k]?=some d) :
  ∃u,us[i * sz+k]?=some u/\Q d u:=by
 have J:i<xs.length:=(wx.1 q).1
 have A:k<sz:=by rw[<- l row (xa q)];exact(wx.1 w).1
 have m:i * sz+k<us.length:=by
  rw[F]
  calc i * sz+k<i * sz+sz:=by omega
   _=(i+1) * sz:=by rw[yU,yn]
   _<=xs.length * sz:=xi _ J
 refine⟨us[i * sz+k],wz m,?_⟩
 obtain⟨B,T,C,E,M⟩:=I _ _ (wz m)
 have O:(i * sz+k) / sz=i:=by rw[zJ,zp hsz,zi A,yG]
 have e2:(i * sz+k) % sz=k:=by rw[zJ,Nat.mul_add_mod,WAD A]
 rw[O,q] at C
 cases C
 rw[e2,w] at E
 cases E
 exact M
def QD(x:Cx)(v:Value)(sz:Nat)(ys:List (List RV)):Prop:=
 (ys=[]/\∃c,v=.slice none 0 c)\/∃(a:Addr) (cap:Nat) (l:List Value),v=.slice (some a) ys.length cap/\l.length=ys.length * sz/\(∀j u,l[j]?=some u->x.w.cell? (Addr.add a j)=some u)/\(∀u∈l,u.oneCell'=true) /\
  ∀i row k d,ys[i]?=some row->row[k]?=some d->∃u,l[i * sz+k]?=some u/\A4 x.w x.S d u
theorem ov{x:Cx}{v:Value}{ys:List (List RV)}{sz:Nat}(hv:AP x (.r (.sl ys)) v)(hsz:∀row∈ys,row.length=sz)(I:0<sz):QD x v sz ys:=by
 rcases Ro hv with ⟨rfl,rfl | ⟨a,rfl⟩⟩ | ⟨b,off,cap,size,u,rfl,hS,U,hm,l,A,q⟩
 .exact .inl ⟨rfl,0,rfl⟩
 .exact .inr ⟨_,0,[],rfl,by simp,by simp,by simp,by simp⟩
 .by_cases V:ys=[]
  .subst V
   exact .inr ⟨_,cap,[],rfl,by simp,by simp,by simp,by simp⟩
  .have hs:size=sz:=by
    obtain⟨row,X⟩:=List.exists_mem_of_ne_nil _ V
    rw[<- l row X,hsz row X]
   subst hs
   have hget:∀j,j<ys.length * size->∃row d,ys[j / size]?=some row/\row[j % size]?=some d:=by
    intro j m
    have J:j / size<ys.length:=by rw[WAL I];exact m
    have M:j % size<(ys[j / size]).length:=by rw[l _ (xw _)];exact Nat.mod_lt _ I
    exact⟨_,_,wz J,wz M⟩
   have O:∀j,j / size * size+j % size=j:=λj=>Nat.div_add_mod' j size
   refine .inr ⟨⟨b,off,none⟩,cap,(List.range (ys.length * size)).map λj=>u (j / size) (j % size),rfl,by simp,λj w m=>?_,λw Z=>?_,λi row k d J M=>?_⟩
   .simp only[xJ,xK] at m
    obtain⟨j',T,rfl⟩:=m
    obtain⟨E,F⟩:=wx.1 T
    simp only[List.getElem_range] at F;subst F
    simp only[WAY] at E
    obtain⟨row,d,B,C⟩:=hget _ E
    rw[Addr.add_lit,<- A _ _ _ _ B C,yz,O]
   .simp only[yT,yA] at Z
    obtain⟨j,m,rfl⟩:=Z
    obtain⟨row,d,B,C⟩:=hget _ m
    exact(q _ _ _ _ B C).one
   .refine mP l (Q:=λd u=>A4 x.w x.S d u) (by simp) (λj w m=>?_) I J M
    simp only[xJ,xK] at m
    obtain⟨j',T,rfl⟩:=m
    obtain⟨E,F⟩:=wx.1 T
    simp only[List.getElem_range] at F;subst F
    simp only[WAY] at E
    obtain⟨row,d,B,C⟩:=hget _ E
    exact⟨row,d,B,C,q _ _ _ _ B C⟩
theorem uv{x:Cx}{sz}{xs:List (List RV)}{us:List Value}(B:us.length=xs.length * sz)(q:0<sz)(l:∀row ∈ xs, row.length=sz)
 (hc:∀i row k d, xs[i]?=some row->row[k]?=some d->∃u, us[i * sz+k]?=some u/\A4 x.w x.S d u):∀u ∈ us, u.oneCell'=true := by
  intro u C
  obtain⟨j, w⟩ := yM.1 C
  have m:j<xs.length * sz := by rw[<- B];exact(wx.1 w).1
  have E:j / sz<xs.length := by rw[WAL q];exact m
  have F:j % sz<(xs[j / sz]).length := by rw[l _ (xw _)];exact Nat.mod_lt _ q
  obtain⟨v, A, I⟩ := hc _ _ _ _ (wz E) (wz F)
  rw[Nat.div_add_mod', w] at A
  cases A
  exact I.one
theorem sW{x:Cx}(q:x.ok){id g}{e}{sz}{ys}{v}(A:x.H id=some (.arr g e sz ys))(B:AP x (.own id g) v):QD x v sz ys:=by
 obtain⟨C,l,E,hd,j,w⟩:=MT q A B
 have m:=uv j.1 C l w
 unfold Bh at hd
 split at hd
 .have F:ys=[]:=yX hd.1
  exact .inl ⟨F,0,hd.2⟩
 .subst hd
  exact .inr ⟨_,_,E,rfl,j.1,j.cells (by rfl),m,w⟩
theorem gm{x:Cx}(ad:x.ok){t e}{sz M}(ht:Ba P t e sz M)(id:Nat){xs ys:List (List RV)}{us:List Value}{v u:Value}(A:x.w.ownsRow 0 e sz v xs.length us)
 (hβ:∀b, v.ownBlock=some b->∃o0 k, x.H id=some o0/\x.β id=some (b, k)) (X:∀row ∈ xs, row.length=sz)
 (hc:∀i row k d, xs[i]?=some row->row[k]?=some d->∃u, us[i * sz+k]?=some u/\A4 x.w x.S d u)
 (Z:QD x u sz ys) (O:∀row ∈ ys, row.length=sz) (hm:xs.length+ys.length<=maxLen) (hb:(xs.length+ys.length) * M<=140737488355328) (ty:TypeId) :
    ∃q y, (Builtin.append_ #[t, t] ty #[v, u]).run P x.w=.ok q y.w/\x.le y/\y.ok/\y.H=(λi => if id=i then some (.arr x.n e sz (xs++ys)) else x.H i)/\y.n=x.n+1/\AP y (.own id x.n) q := by
  obtain⟨T, ii, z, hi, a0, a1, hz, ae, _, h0⟩ := ht
  have key:∃(q:Value) (w':World) (j:List Value), (Builtin.append_ #[t, t] ty #[v, u]).run P x.w=.ok q w'/\w'.ownsRow 0 e sz q (xs.length+ys.length) (us++j)/\x.w.grownBy w' v.ownBlock /\
      (q.ownBlock=v.ownBlock\/q.ownBlock=some x.w.heap.size)/\j.length=ys.length * sz/\∀i row k d, ys[i]?=some row->row[k]?=some d->∃u, j[i * sz+k]?=some u/\A4 x.w x.S d u := by
    rcases Z with ⟨hy, cc, rfl⟩ | ⟨a, cap, j, rfl, hl, F, a2, a6⟩
    · subst hy
      refine⟨v, x.w, [], ?_, by simpa using A, ⟨rfl, rfl, rfl, wy _, λ_ _ _ => rfl⟩, .inl rfl, by simp, by simp⟩
      rcases A.2 with ⟨rfl, w⟩ | ⟨g, cap, a7, rfl, _, _, af, _⟩
      · simp[Builtin.append_, run_underlying T, sizeOf, typeInfo, hi, Builtin.lenOf, Builtin.firstCells]
      · simp[Builtin.append_, run_underlying T, sizeOf, typeInfo, hi, Builtin.lenOf, Builtin.firstCells, af, storeCells]
    · obtain⟨q, w', C, k1, k2, _, k4⟩ := run_append_own_at (P := P) x.w 0 t ty e ii z sz M T hi hz a0 a1 ae h0 v xs.length us A a ys.length cap j hl F a2 hm hb (yL _)
      exact⟨q, w', j, C, k1, k2, k4, hl, a6⟩
  obtain⟨q, w', j, C, m, E, a8, ao, U⟩ := key
  have ag := m.lt
  have I:Bh (HR q) (xs++ys).length q := by
    rcases m.2 with ⟨rfl, w⟩ | ⟨g, cap, a7, rfl, _⟩
    · exact⟨by rw[xy];exact w, rfl⟩
    · simp[Bh, HR]
  have ah:∀b k, HR q=some (b, k)->q.ownBlock=some b := by
    intro b k B
    cases q with
    | slice a l cp =>
      cases a with
      | none => cases B
      | some a => simp only[HR, xF, xM] at B;simp[Value.ownBlock, B.1]
    | _ => cases B
  have aa := ES ad id (.arr x.n e sz (xs++ys)) w' (HR q) (x.n+1) E.size E.os E.tape E.output
    (λb ai aj => E.block b ai (λheq => by
      obtain⟨o0, k, w, J⟩ := hβ b heq.symm
      exact aj o0 k w J))
    (λb k B => by
      have w := ah b k B
      refine⟨(ag b w).2, ?_⟩
      rcases a8 with J | J
      · rw[J] at w
        obtain⟨o0, k', V, h4⟩ := hβ b w
        exact .inr ⟨o0, k', V, h4⟩
      · rw[J] at w;cases w;exact .inl (wy _))
    (by omega) (by simp[AU.gen]) (λhg => absurd hg (by simp[AU.gen]))
    (λak => by
      have ab:∀b, x.S b->w'.heap[b]?=x.w.heap[b]? := λb hb => ak.blk b (.inl hb)
      refine⟨h0, λrow hr => (yY.1 hr).elim (X row) (O row), q, us++j, I, by rw[xy];exact m, λi row k d w J => ?_⟩
      have al := A.1
      by_cases an:i<xs.length
      · rw[xT an] at w
        obtain⟨u, V, h4⟩ := hc i row k d w J
        refine⟨u, ?_, h4.mono ab (λ_ h => h)⟩
        rw[xT ((wx.1 V).1)]
        exact V
      · rw[xP (by omega)] at w
        obtain⟨u, V, h4⟩ := U _ row k d w J
        refine⟨u, ?_, h4.mono ab (λ_ h => h)⟩
        have e1:i * sz+k=us.length+((i - xs.length) * sz+k) := by
          rw[al, Nat.sub_mul]
          have:xs.length * sz<=i * sz := xi _ (by omega)
          omega
        rw[e1, xP (by omega), zw]
        exact V)
  refine⟨q, _, C, aa.1, aa.2, rfl, rfl, .own (by simp) ?_ λo' ac _ => ?_⟩
  · rcases m.2 with ⟨rfl, _⟩ | ⟨g, cap, a7, rfl, _⟩<;>rfl
  · simp only[ww] at ac ⊢
    cases ac
    simpa[AU.shape] using I
end
section
variable{P:Program}{c:Bool}{o:Oper}{R:Aa}{h:AL}{n:Nat}
def KN(c:Bool)(R:Aa)(h:AL)(x:Operand)(sz:Nat)(ys:List (List RV)):Prop:=
 (Ev c R x (.r (.sl ys))/\(c=true->∀row∈ys,row.length=sz))\/(∃id g e,Ev c R x (.own id g)/\hget h id=some (.arr g e sz ys))\/(Ev c R x (.cst (.slice none 0 0))/\ys=[])
theorem KN.src{x}{sz}{ys}(A:KN c R h x sz ys)(B:0<sz)(hc:c=true){z:Cx}{a:Act}(q:z.ok)(C:z.H=hget h)(w:Bv z R a) :
  QD z (a.eval x) sz ys/\∀row∈ys,row.length=sz:=by
 rcases A with ⟨m,l⟩ | ⟨id,g,e,m,l⟩ | ⟨m,rfl⟩
 .exact⟨ov (m.rep w hc) (l hc) B,l hc⟩
 .have j:z.H id=some (.arr g e sz ys):=by rw[C];exact l
  exact⟨sW q j (m.rep w hc),(MT q j (m.rep w hc)).2.1⟩
 .have l:=m.rep w hc
  generalize a.eval x=v at l ⊢
  cases l
  exact⟨.inl ⟨rfl,0,rfl⟩,by simp⟩
theorem aW{t e}{sz A}{s x}{id g}{xs ys:List (List RV)}(U:o.op=.call { callee := .builtin .append, args := #[s, x], argTypes := #[t, t] })(V:Ba P t e sz A)
 (X:Ev c R s (.own id g)) (Z:hget h id=some (.arr g e sz xs)) (hx:KN c R h x sz ys) (hm:(xs.length+ys.length) * A<=140737488355328) (a0:xs.length+ys.length<=9223372036854775807) :
    Az P c o R h n (.own id n) ((id, some (.arr n e sz (xs++ys)))::h) (n+1) := by
  intro O z w l J M T K Q hK
  have j:z.H id=some (.arr g e sz xs) := by rw[J];exact Z
  obtain⟨h0, B, us, hd, C, m⟩ := MT l j (X.rep T O)
  obtain⟨E, q⟩ := hx.src h0 O l J T
  obtain⟨v', y, F, k1, k2, k3, k4, k5⟩ := gm l V id C (λb I => by
    refine⟨_, ?_, j, ?_⟩
    · exact match z.β id with | some p => p.2 | none => 0
    · unfold Bh at hd
      split at hd
      · rw[hd.2] at I;cases I
      · rename_i heq;rw[hd] at I;simp only[Value.ownBlock, xF] at I;subst I;simp[heq]) B m E q (by unfold maxLen;omega) hm o.type
  unfold Oper.wp execOp
  simp only[U, resolve, invoke, builtin, Sem.run_bind, Sem.run_pure, Result.andThen_ok, WAE, xj, yd, F]
  exact hK v' y k1 k2 (by rw[k3, J, M, Ck]) (by rw[k4, M]) (by rw[<- M];exact k5)
theorem cX{t e}{sz l}{s x}(id:Nat){ys:List (List RV)}(T:o.op=.call { callee := .builtin .append, args := #[s, x], argTypes := #[t, t] })(F:Ba P t e sz l)
 (U:Ev c R s (.cst (.slice none 0 0))) (V:KN c R h x sz ys) (X:ys.length * l<=140737488355328) (Z:ys.length<=9223372036854775807) :
    Az P c o R h n (.own id n) ((id, some (.arr n e sz ys))::h) (n+1) := by
  intro I z w m J B M K Q hK
  have C := F
  obtain⟨_, _, _, _, _, _, _, _, _, h0⟩ := C
  obtain⟨q, j⟩ := V.src h0 I m J M
  have E:w.eval s=.slice none 0 0 := by
    have O := U.rep M I
    generalize w.eval s=v at O ⊢
    cases O;rfl
  obtain⟨v', y, A, k1, k2, k3, k4, k5⟩ := gm (xs := []) m F id (World.ownsRow_nil z.w 0 e sz) (λb hb => by cases hb) (by simp) (by simp) q j (by unfold maxLen;simp;omega) (by simpa using X) o.type
  unfold Oper.wp execOp
  simp only[T, resolve, invoke, builtin, Sem.run_bind, Sem.run_pure, Result.andThen_ok, WAE, xj, yd, E, A]
  exact hK v' y k1 k2 (by rw[k3, J, B, Ck, yR]) (by rw[k4, B]) (by rw[<- B];exact k5)
theorem ZM off:∀(vs:List Value) (j:Nat) (cells:Array Value),off+j+vs.length<=cells.size ->
  ((vs.zipIdx j).foldl (λcs p=>cs.setIfInBounds (off+p.2) p.1) cells).size=cells.size /\
  ∀k,((vs.zipIdx j).foldl (λcs p=>cs.setIfInBounds (off+p.2) p.1) cells)[k]?=if off+j<=k/\k<off+j+vs.length then vs[k-(off+j)]? else cells[k]?
 | [],j,cells,_=>⟨rfl,λk=>by simp;omega⟩
 | v::vs,j,cells,q=>by
  simp only[xz] at q
  obtain⟨w,A⟩:=ZM off vs (j+1) (cells.setIfInBounds (off+j) v) (by simp;omega)
  simp only[List.zipIdx_cons,yK]
  refine⟨by rw[w];simp,λk=>?_⟩
  rw[A]
  by_cases m:k=off+j
  .subst m
   rw[wv (by omega),ww (by simp)]
   simp[show off+j<cells.size by omega]
  .by_cases l:off+j<=k/\k<off+j+(v::vs).length
   .rw[ww l,ww (by simp only[xz] at l;omega)]
    rw[show k-(off+j)=(k-(off+(j+1)))+1 by omega,yu]
   .rw[wv l,wv (by simp only[xz] at l;omega)]
    simp[show off+j≠k from λe=>m e.symm]
theorem YW off(v:Value)(cells:Array Value)(l:off+v.cells.size<=cells.size) :
  (v.cells.zipIdx.foldl (λcs (c,j)=>cs.setIfInBounds (off+j) c) cells).size=cells.size /\
  ∀k,(v.cells.zipIdx.foldl (λcs (c,j)=>cs.setIfInBounds (off+j) c) cells)[k]?=if off<=k/\k<off+v.cells.size then v.cells[k-off]? else cells[k]?:=by
 have:=ZM off v.cells.toList 0 cells (by simpa using l)
 simp only[yG,xq] at this
 rw[<- Array.foldl_toList,Array.toList_zipIdx]
 refine⟨this.1,λk=>?_⟩
 rw[<- xo] at *
 simpa using this.2 k
theorem Ra size:∀(l:List (Nat × Value)) (start:Nat) (us:Array Value),(∀j p,l[j]?=some p->p.1=start+j/\p.2.cells.size=size)->(start+l.length) * size<=us.size ->
  ∃m,Instr.fill (λi=>some (i * size,size)) us l=some m/\m.size=us.size/\(∀k,k<start * size->m[k]?=us[k]?) /\
   ∀j p k,l[j]?=some p->k<size->m[(start+j) * size+k]?=p.2.cells[k]?
 | [],start,us,_,_=>⟨us,rfl,rfl,λ_ _=>rfl,by simp⟩
 | p::l,start,us,hp,C=>by
  obtain⟨i,v⟩:=p
  obtain⟨E,A⟩:=hp 0 (i,v) rfl
  simp only[yG] at E A
  subst E
  have B:i * size+size<=us.size:=by
   have:(i+1) * size<=(i+(l.length+1)) * size:=xi _ (by omega)
   simp only[xz] at C
   rw[yU,yn] at this
   omega
  obtain⟨F,I⟩:=YW (i * size) v us (by rw[A];exact B)
  obtain⟨m,O,f2,J,T⟩:=Ra size l (i+1) _ (λj q w=>by
   have:=hp (j+1) q (by simpa using w)
   exact⟨by omega,this.2⟩) (by rw[F];simp only[xz] at C;rwa [show i+1+l.length=i+(l.length+1) by omega])
  refine⟨m,?_,f2.trans F,λk M=>?_,λj q k w M=>?_⟩
  .simp only[Instr.fill]
   rw[wv (by simp[A];omega)]
   exact O
  .rw[J k (by rw[yU];omega),I,wv (by omega)]
  .cases j with
   | zero=>
    cases w
    rw[yG,J _ (by rw[yU];omega),I,ww (by omega)]
    congr 1;omega
   | succ j=>
    have:=T j q k (by simpa using w) M
    rwa [show i+1+j=i+(j+1) by omega] at this
def IF:AV->Option RV
 | .r d=>some d
 | .cst (.slice none 0 0)=>some (.sl [])
 | .full xs=>some (.slf xs)
 | _=>none
def Pw:List AV->Option (List RV)
 | []=>some []
 | a::l=>match IF a,Pw l with
  | some d,some r=>some (d::r)
  | _,_=>none
def GR(a:AV):Option (List RV):=Pw (BQ a)
theorem RT{x:Cx}{a}{d}{v}(h:IF a=some d)(j:AP x a v):A4 x.w x.S d v:=by
 unfold IF at h
 split at h
 .cases h;cases j with | r l=>exact l
 .cases h;cases j;exact .snil
 .cases h;cases j with | full m q=>exact .slf m q
 .cases h
theorem Sw{l:List AV}{row:List RV}(h:Pw l=some row):row.length=l.length/\∀(j:Nat) (d:RV),row[j]?=some d->∃a:AV,l[j]?=some a/\IF a=some d:=by
 induction l generalizing row with
 | nil=>simp only[Pw,xF] at h;subst h;simp
 | cons a l q=>
  simp only[Pw] at h
  split at h
  .rename_i d r w A
   cases h
   obtain⟨B,C⟩:=q A
   refine⟨by simp[B],λj E m=>?_⟩
   cases j with
   | zero=>simp at m;subst m;exact⟨a,rfl,w⟩
   | succ j=>simpa using C j E (by simpa using m)
  .cases h
theorem Rp{a:AV}{d}(h:IF a=some d):a.one=true:=by
 unfold IF at h
 split at h<;>first | rfl | cases h
theorem MM{x:Cx}{a}{row:List RV}{v:Value}(h:GR a=some row)(E:AP x a v):v.cells.size=row.length/\∀(k:Nat) (d:RV),row[k]?=some d->∃u:Value,v.cells[k]?=some u/\A4 x.w x.S d u:=by
 obtain⟨A,B⟩:=Sw h
 have l:∀b∈BQ a,b.one=true:=by
  intro b F
  obtain⟨j,C⟩:=yM.1 F
  have q:j<row.length:=by rw[A];exact(wx.1 C).1
  obtain⟨T,m,w⟩:=B j _ (wz q)
  rw[C] at m;cases m
  exact Rp w
 obtain⟨m,w,_⟩:=Kj E l
 refine⟨by rw[m,A],λk d hd=>?_⟩
 obtain⟨b,I,J⟩:=B k d hd
 obtain⟨u,M,_,O⟩:=w k b I
 exact⟨u,M,RT J O⟩
def JT(c:Bool)(R:Aa):Nat->List (Nat × Operand)->List (List RV)->Prop
 | _,[],[]=>True
 | i,(j,x)::r,row::l=>j=i/\(∃a,Ev c R x a/\GR a=some row)/\JT c R (i+1) r l
 | _,_,_=>False
theorem JT.get{ps:List (Nat × Operand)}{l:List (List RV)} : ∀ {i:Nat},JT c R i ps l->ps.length=l.length/\∀(j:Nat) (p:Nat × Operand),ps[j]?=some p->p.1=i+j/\∃row a,l[j]?=some row/\Ev c R p.2 a/\GR a=some row:=by
 induction ps generalizing l with
 | nil=>intro i h;cases l with | nil=>exact⟨rfl,by simp⟩ | cons _ _=>exact h.elim
 | cons p ps w=>
  intro i h
  cases l with
  | nil=>exact h.elim
  | cons row l=>
   obtain⟨J,⟨a,A,B⟩,C⟩:=h
   obtain⟨E,F⟩:=w C
   refine⟨by simp[E],λj q m=>?_⟩
   cases j with
   | zero=>simp at m;subst m;exact⟨by omega,row,a,rfl,A,B⟩
   | succ j=>
    obtain⟨M,I⟩:=F j q (by simpa using m)
    exact⟨by omega,by simpa using I⟩
theorem WV{x:Cx}(w:x.ok) id e sz(xs:List (List RV))(cells:Array Value)(C:0<sz)(j:∀row ∈ xs, row.length=sz)(A:cells.size=xs.length * sz)(E:xs.length<=maxLen)
 (hc:∀i row k d, xs[i]?=some row->row[k]?=some d->∃u, cells[i * sz+k]?=some u/\A4 x.w x.S d u) :
    ∃y:Cx, x.le y/\y.ok/\y.w=x.w.alloc (.cells cells e)/\y.H=(λi => if id=i then some (.arr x.n e sz xs) else x.H i)/\y.n=x.n+1 /\
      AP y (.own id x.n) (.slice (some ⟨x.w.heap.size, 0, none⟩) xs.length xs.length) := by
  have l := ES w id (.arr x.n e sz xs) (x.w.alloc (.cells cells e)) (some (x.w.heap.size, xs.length)) (x.n+1) (by simp) rfl rfl rfl
    (λb m _ => heap_alloc_old _ _ m) (λb k m => by cases m;simp) (by omega) (by simp[AU.gen]) (λhg => absurd hg (by simp[AU.gen]))
    (λB => ⟨C, j, _, cells.toList, rfl, ⟨by simpa using A, .inr ⟨x.w.heap.size, xs.length, cells, rfl, yL _, heap_alloc_new _ _, wy _, E, A, by rw[<- A, <- xq];exact WAb⟩⟩, λi row k d F I => by
      obtain⟨u, J, M⟩ := hc i row k d F I
      exact⟨u, by simpa using J, M.mono (λb m => B.blk b (.inl m)) (λ_ h => h)⟩⟩)
  refine⟨_, l.1, l.2, rfl, rfl, rfl, .own (by simp) rfl λO q _ => ?_⟩
  simp only[ww] at q
  cases q
  show Bh (if id=id then _ else _) _ _
  rw[ww rfl]
  rfl
theorem gO{t e}{sz a0 len}{parts:Array (Nat × Operand)}(id:Nat){l:List (List RV)}(ho:o.op=.buildSlice t len parts)(ht:Ba P t e sz a0)
 (hp:JT c R 0 parts.toList l) (A:l.length=len) (B:∀row ∈ l, row.length=sz) (C:Nat.ble (len * sz) 16777216=true) :
    Az P c o R h n (.own id n) ((id, some (.arr n e sz l))::h) (n+1) := by
  intro hc z w a1 hH hn he K Q hK
  obtain⟨I, ii, zv, hi, E, _, hz, a7, _, h0⟩ := ht
  have a8:len * sz<=16777216 := xu C
  have aa:len<=len * sz := Nat.le_mul_of_pos_right _ h0
  obtain⟨J, M⟩ := hp.get
  have F:∃init:Array Value, init.size=len * sz/\∀W, (Instr.buildSlice t len (parts.map λ(i, x) => (i, w.eval x))).run P W =
      match Instr.fill (λi => some (i * sz, sz)) init (parts.toList.map λ(i, x) => (i, w.eval x)) with
      | some cells => .ok (.slice (some ⟨W.heap.size, 0, none⟩) len len) (W.alloc (.cells cells e))
      | none => .halt (.stuck "buildSlice: a part of the wrong size") W := by
    refine⟨(Array.range (len * sz)).map (λi => (if len * sz=0 then #[] else zv.cells)[i % (if len * sz=0 then #[] else zv.cells).size]!), by simp, λW => ?_⟩
    have O:¬ 2 ^ 24<len * sz := by omega
    by_cases T:len * sz=0
    · simp only[Instr.buildSlice, Sem.run_bind, run_underlying I, Result.andThen_ok, DY hi, E, T]
      simp
      split<;>simp_all [newRow, Instr.fill]
    · simp only[Instr.buildSlice, Sem.run_bind, run_underlying I, Result.andThen_ok, DY hi, E]
      simp only[O, T, zeroValue, typeInfo, WAF, Sem.run_bind, run_program, Result.andThen_ok, hi, hz, Sem.run_pure, WAG]
      generalize Instr.fill _ _ _=r
      cases r<;>simp[newRow]
  obtain⟨init, m, U⟩ := F
  obtain⟨a2, f1, f2, _, f4⟩ := Ra sz (parts.toList.map λ(i, x) => (i, w.eval x)) 0 init (λj p hj => by
    simp only[xJ, xK] at hj
    obtain⟨q, hq, rfl⟩ := hj
    obtain⟨V, row, a, Z, h3, h4⟩ := M j q hq
    refine⟨by simpa using V, ?_⟩
    rw[(MM h4 (h3.rep he hc)).1]
    exact B row (xa Z)) (by rw[m];simp only[xk, J, A, xd];exact wy _)
  obtain⟨y, k1, k2, k3, k4, k5, k6⟩ := WV a1 id e sz l a2 h0 B (by rw[f2, m, A]) (by unfold maxLen;omega) (λi row k d V Z => by
    have X:i<parts.toList.length := by rw[J];exact(wx.1 V).1
    obtain⟨_, a6, a, h3, h4, h5⟩ := M i _ (wz X)
    rw[V] at h3;cases h3
    obtain⟨u, h6, h7⟩ := (MM h5 (h4.rep he hc)).2 k d Z
    refine⟨u, ?_, h7⟩
    have hk:k<sz := by rw[<- B row (xa V)];exact(wx.1 Z).1
    have := f4 i (parts.toList[i].1, w.eval parts.toList[i].2) k (by simp[xJ, wz X]) hk
    rw[xd] at this
    rw[this];exact h6)
  unfold Oper.wp execOp
  simp only[ho, Sem.run_bind, U, f1, Result.andThen_ok, Sem.run_pure]
  have := hK _ y k1 k2 (by rw[k4, hH, hn, Ck]) (by rw[k5, hn]) (by rw[<- hn];exact k6)
  rw[k3, A] at this
  exact this
end
section
variable{P:Program}{c:Bool}{o:Oper}{R:Aa}{h:AL}{n:Nat}
def JI(P:Program)(e:TypeId)(j:List RV):Prop:=∃i l,P.info? e=some i/\i.zero=some l/\GR (Gc l)=some j
theorem eR{t e}{sz C}{l k}(id:Nat){m:Int}{j:List RV}(ho:o.op=.makeSlice t l k)(ht:Ba P t e sz C)(hz:JI P e j)
 (hl:Ev c R l (.r (.int .i64 m))) (hk:Ev c R k (.r (.int .i64 m))) (h0:0<=m) (hb:m * C<=281474976710656) (hm:m<=9223372036854775807) :
    Az P c o R h n (.own id n) ((id, some (.arr n e sz (List.replicate m.toNat j)))::h) (n+1) := by
  intro hc z w a0 hH hn he K Q hK
  obtain⟨a1, ii, B, hi, q, E, F, I, _, J⟩ := ht
  obtain⟨i2, a8, M, O, a2⟩ := hz
  rw[hi] at M;cases M
  rw[F] at O;cases O
  have T := run_make (P := P) z.w t e ii B a1 hi F .i64 .i64 m m h0 (Int.le_refl _) (by rw[E, Int.mul_comm];exact hb) hm
  obtain⟨k1, k2⟩ := MM a2 (bU z B)
  have U:j.length=sz := by rw[<- k1, I]
  obtain⟨y, e1, e2, e3, e4, e5, e6⟩ := WV a0 id e sz (List.replicate m.toNat j) (madeCells B.cells (m.toNat * ii.size)) J (λrow hr => by rw[(List.mem_replicate.1 hr).2];exact U)
    (by rw[size_madeCells, q];simp) (by unfold maxLen;simp;omega) (λi row k d h1 h2 => by
      obtain⟨V, A⟩ := wx.1 h1
      simp only[List.length_replicate] at V
      rw[List.getElem_replicate] at A
      subst A
      have a6:k<sz := by rw[<- U];exact(wx.1 h2).1
      obtain⟨u, h3, h4⟩ := k2 k d h2
      refine⟨u, ?_, h4⟩
      have a7:i * sz+k<m.toNat * sz := by
        calc i * sz+k<i * sz+sz := by omega
          _=(i+1) * sz := by rw[yU, yn]
          _<=m.toNat * sz := xi _ V
      have X:(i * sz+k) % B.cells.size=k := by rw[I, zJ, Nat.mul_add_mod, WAD a6]
      simp only[madeCells, q]
      rw[Array.getElem?_map, Array.getElem?_range, ww a7]
      simp only[yF, X]
      rw[<- h3]
      have Z:k<B.cells.size := by omega
      rw[xg B.cells k Z, xe Z])
  unfold Oper.wp execOp
  simp only[ho, Ci (hl.rep he hc), Ci (hk.rep he hc), Sem.run_bind, T, Result.andThen_ok, Sem.run_pure]
  have := hK _ y e1 e2 (by rw[e4, hH, hn, Ck]) (by rw[e5, hn]) (by rw[<- hn];exact e6)
  rw[e3, List.length_replicate] at this
  exact this
theorem iE{t}{x y}{id g i k:Nat}{e}{sz}{xs:List (List RV)}{row:List RV}{a:AV}{d}(ho:o.op=.store t x y)(ht:∃i, P.info? t=some i/\i.size=1)
 (hx:Ev c R x (.ptr id g i k)) (hh:hget h id=some (.arr g e sz xs)) (F:xs[i]?=some row) (hk:k<row.length) (hy:Ev c R y a) (hd:IF a=some d) (h1:(BQ a).length=1) :
    Az P c o R h n .any ((id, some (.arr g e sz (xs.set i (row.set k d))))::h) n := by
  intro hc z w I hH hn he K Q hK
  obtain⟨ii, hi, ab⟩ := ht
  have m:z.H id=some (.arr g e sz xs) := by rw[hH];exact hh
  have a2:i<xs.length := (wx.1 F).1
  obtain⟨b, cap, us, hβ, al, ac, A, U⟩ := SD I m a2 (hx.rep he hc)
  have an := (I.obj _ _ m).1
  obtain⟨b0, a6⟩ := ac
  rcases a6 with ⟨hv, _⟩ | ⟨X, ax, C, hv, _, Z, ad, ao, ae, a7⟩
  · cases hv
  simp only[Value.slice.injEq, xF, Addr.mk.injEq, true_and, zt] at hv
  obtain⟨rfl, rfl⟩ := hv
  have hsz:0<sz := (I.obj _ _ m).2.1
  have af := A row (xa F)
  have J:a.one=true := Rp hd
  have b1:BQ a=[a] := by cases a<;>first | rfl | (simp[AV.one] at J)
  have a8 := hy.rep he hc
  have V:(w.eval y).cells = #[w.eval y] := by
    have h2 := a8.one J
    generalize w.eval y=v at h2 ⊢
    cases v<;>first | rfl | (simp[Value.oneCell'] at h2)
  have aq:i * sz+sz<=xs.length * sz := by
    have:(i+1) * sz<=xs.length * sz := xi _ a2
    rwa [yU, yn] at this
  have ay:xs.length * sz<=C.size := by rw[ae];exact xi _ ad
  have M := O1 (P := P) (k := i * sz+k) hi Z (v := w.eval y) (by rw[V, ab];rfl) (by rw[V];simpa using a8.one J) (by rw[V];simp;omega)
  rw[V] at M
  simp only[zc, y9] at M
  have a0 := λj => Jq C.toList [w.eval y] (i * sz+k) j (by simp;omega)
  simp only[y9] at a0
  let l:Array Value := (C.toList.take (i * sz+k)++[w.eval y]++C.toList.drop (i * sz+k+1)).toArray
  have B:l.size=C.size := by simp[l];omega
  have ag := ES I id (.arr g e sz (xs.set i (row.set k d))) (z.w.setRow b l) (some (b, cap)) z.n (by simp[World.setRow]) rfl rfl rfl
    (λX _ ar => setRow_other _ _ _ _ (λe => ar _ cap m (by rw[e];exact hβ))) (λX k' hb => by
      cases hb
      exact⟨by simpa[World.setRow] using(I.own id _ b cap m hβ).1, .inr ⟨_, _, m, hβ⟩⟩) (wy _) an
    (λ_ => ⟨_, m, rfl, by simp[AU.shape], hβ.symm⟩)
    (λau => by
      have ah:∀X, z.S X->(z.w.setRow b l).heap[X]?=z.w.heap[X]? := λX hb => au.blk X (.inl hb)
      refine⟨hsz, λr hr => ?_, .slice (some ⟨b, 0, none⟩) xs.length cap, l.toList.take (xs.length * sz), by simp[Bh], ⟨by simp[B];omega, .inr ⟨b, cap, l, by simp, yL _, setRow_heap _ _ _ _ _ _ Z, by simpa using ad, ao, by rw[B, ae], by simp⟩⟩, λq a1 E d' O k2 => ?_⟩
      · rcases yp hr with hr | rfl
        · exact A r hr
        · simpa using af
      · have ai:q<xs.length := by simpa using(wx.1 O).1
        have az:E<sz := by
          have := (wx.1 k2).1
          rw[yC] at O
          split at O
          · cases O;simpa[af] using this
          · rw[<- A a1 (xa O)];exact this
        have aj:q * sz+E<xs.length * sz := by
          calc q * sz+E<q * sz+sz := by omega
            _=(q+1) * sz := by rw[yU, yn]
            _<=xs.length * sz := xi _ ai
        have hget:(l.toList.take (xs.length * sz))[q * sz+E]?=if i * sz+k<=q * sz+E/\q * sz+E<i * sz+k+1 then [w.eval y][q * sz+E - (i * sz+k)]? else C.toList[q * sz+E]? := by
          rw[xn, ww aj]
          simp only[l]
          exact a0 _
        have aa:i * sz+k=q * sz+E->i=q/\k=E := by
          intro heq
          have e1:(i * sz+k) / sz=i := by rw[zJ, zp hsz, zi (by omega), yG]
          have e2:(q * sz+E) / sz=q := by rw[zJ, zp hsz, zi (by omega), yG]
          have:i=q := by rw[<- e1, <- e2, heq]
          subst this
          exact⟨rfl, by omega⟩
        by_cases heq:i * sz+k=q * sz+E
        · obtain⟨rfl, rfl⟩ := aa heq
          rw[yC, ww rfl, ww a2] at O
          cases O
          rw[yC, ww rfl, ww hk] at k2
          cases k2
          refine⟨w.eval y, by rw[hget, ww (by omega)];simp, (RT hd a8).mono ah (λ_ h => h)⟩
        · have ak:∃T, xs[q]?=some T/\T[E]?=some d' := by
            rw[yC] at O
            split at O
            · rename_i av;subst av
              cases O
              rw[yC] at k2
              split at k2
              · rename_i aw;subst aw;exact absurd rfl heq
              · exact⟨row, F, k2⟩
            · exact⟨a1, O, k2⟩
          obtain⟨T, k3, k4⟩ := ak
          obtain⟨u, k5, k6⟩ := U _ _ _ _ k3 k4
          refine⟨u, ?_, k6.mono ah (λ_ h => h)⟩
          rw[hget, wv (by omega), <- k5, <- a7, xn, ww aj])
  unfold Oper.wp execOp
  rw[ho]
  simp only[al, Sem.run_bind, M, Result.andThen_ok, Sem.run_pure]
  exact hK undef _ ag.1 ag.2 (by simp only[hH];exact Ck _ _ _) hn (.any _)
end
section
variable{P:Program}{c:Bool}{o:Oper}{R:Aa}{h:AL}{n:Nat}
def OM(c:Bool)(R:Aa)(j:Nat):Option Operand->Nat->Prop
 | none,m=>m=j
 | some x,m=>∃k z,Ev c R x (.r (.int k z))/\(c=true->0<=z)/\z.toNat=m
theorem M6{k:IntKind}{z:Int}{y:Nat}(j:0<=z)(l:z<=y)(code:BoundsCode)(w:World):(Instr.sliceBound (.int k z) y code).run P w=.ok z.toNat w:=by
 simp[Instr.sliceBound,asIntOf,j,l]
theorem eP{t e:TypeId}{sz:Nat}{x:Operand}{U hi:Option Operand}{xs:List (List RV)}{l m:Nat}(ho:o.op=.slice t x U hi none)(ht:DU P t e sz)(hx:Ev c R x (.r (.sl xs)))
  (X:OM c R 0 U l) (B:OM c R xs.length hi m) (h1:c=true->l<=m) (h2:c=true->m<=xs.length) (Z:∀row∈xs,row.length=sz):AS P c o R h (.r (.sl ((xs.drop l).take (m-l)))):=by
 intro F z w _ _ he
 obtain⟨I,ii,J,a7⟩:=ht
 have ae:=h1 F
 have a1:=h2 F
 have j:∀(len cap:Nat),len=xs.length->xs.length<=cap->∀W,(Instr.sliceBounds true len cap (U.map w.eval) (hi.map w.eval) none).run P W=.ok (l,m,cap) W:=by
  intro len cap q C W
  have hL:∀W,(∃y,U=some y/\(Instr.sliceBound (w.eval y) m .sliceB).run P W=.ok l W)\/U=none/\l=0:=by
   intro W
   cases U with
   | none=>exact .inr ⟨rfl,X⟩
   | some v=>
    obtain⟨k,zz,e1,e2,e3⟩:=X
    refine .inl ⟨v,rfl,?_⟩
    rw[Ci (e1.rep he F),M6 (e2 F) (by have:=e2 F;omega),e3]
  cases hi with
  | none=>
   simp only[OM] at B
   rcases hL W with ⟨y,rfl,V⟩ | ⟨rfl,rfl⟩
   .rw[B] at V;simp[Instr.sliceBounds,q,V,B]
   .simp[Instr.sliceBounds,q,B]
  | some v=>
   obtain⟨k,zz,e1,e2,e3⟩:=B
   have hH:(Instr.sliceBound (w.eval v) cap .sliceAcap).run P W=.ok m W:=by
    rw[Ci (e1.rep he F),M6 (e2 F) (by have:=e2 F;omega),e3]
   rcases hL W with ⟨y,rfl,V⟩ | ⟨rfl,rfl⟩
   .simp[Instr.sliceBounds,hH,V]
   .simp[Instr.sliceBounds,hH]
 rcases Ro (hx.rep he F) with ⟨rfl,O⟩ | ⟨b,off,cap,size,u,O,hS,C,hm,hsz,T,a2⟩
 .simp only[zq,Nat.le_zero] at a1
  subst a1
  have a8:l=0:=by omega
  subst a8
  rcases O with O | ⟨a0,O⟩
  .refine⟨.slice none 0 0,λw2 a6=>?_,by simpa using AP.r .snil⟩
   unfold execOp
   rw[ho]
   simp[O,Instr.sliceAt,Instr.slice,run_underlying I,DY J,j 0 0 rfl (wy _)]
  .refine⟨.slice (some a0) 0 0,λw2 a6=>?_,by simpa using AP.r (.sl0 a0)⟩
   unfold execOp
   rw[ho]
   simp[O,Instr.sliceAt,Instr.slice,run_underlying I,DY J,j 0 0 rfl (wy _)]
 .let k0:=if cap=l then 0 else l * sz
  refine⟨.slice (some ⟨b,off+k0,none⟩) ((xs.drop l).take (m-l)).length (cap-l),λw2 a6=>?_,.r (.sl b (off+k0) _ (cap-l) size (λi k=>u (l+i) k) (λaa=>hS (by rintro rfl;simp at aa)) ?_ (by omega) ?_ (λi row k d M k2=>?_) (λi row k d M k2=>?_))⟩
  .unfold execOp
   rw[ho]
   have q:((xs.drop l).take (m-l)).length=m-l:=by simp;omega
   by_cases E:cap=l
   .have ab:k0=0:=ww E
    have ac:=j _ cap rfl C w2
    rw[ab,q]
    simp only[O,Instr.sliceAt,Instr.slice,Sem.run_bind,run_underlying I,Result.andThen_ok,zY,ac,DY J,Sem.run_pure,ww E,yG]
   .simp[O,Instr.sliceAt,Instr.slice,run_underlying I,DY J,a7,j _ cap rfl C,E,k0,Addr.add_lit]
    omega
  .simp;omega
  .exact λrow V=>hsz row (WAR (List.mem_of_mem_take V))
  .have A:xs[l+i]?=some row:=by
    rw[xn] at M
    split at M
    .rwa [xr] at M
    .cases M
   have E:cap≠l:=by have:=(wx.1 A).1;omega
   have ad:size=sz:=by rw[<- hsz row (xa A),Z row (xa A)]
   rw[<- T _ _ _ _ A k2]
   simp only[k0,wv E,ad,yU,yz]
  .have A:xs[l+i]?=some row:=by
    rw[xn] at M
    split at M
    .rwa [xr] at M
    .cases M
   exact a2 _ _ _ _ A k2
theorem HC{s:St} t id e sz(J:0<sz)(M:get s.e t=.cst (.slice none 0 0)):AZ s ⟨(t,.own id s.n)::s.e,(id,some (.arr s.n e sz []))::s.h,s.n+1,s.N⟩:=by
 intro V a w ⟨_,q,hsz,y,B,A,C,O,j,l⟩
 have m:=ES C id (.arr s.n e sz []) y.w none (y.n+1) (wy _) rfl rfl rfl (λ_ _ _=>rfl) (λb k T=>by cases T) (by omega) (by simp[AU.gen,j]) (λhg=>absurd hg (by simp[AU.gen,j]))
  (λA=>⟨J,by simp,.slice none 0 0,[],⟨rfl,rfl⟩,World.ownsRow_nil _ _ _ _,by simp⟩)
 refine⟨_,q,hsz,{ y with H:=λi=>if id=i then some (.arr s.n e sz []) else y.H i,β:=λi=>if id=i then none else y.β i,K:=λi=>if id=i then λ_=>none else y.K i,n:=y.n+1 },B,A.trans m.1,m.2,by simp only[O];exact Ck _ _ _,by simp[j],λU=>?_⟩
 rw[CE]
 split
 .rename_i E;subst E
  have F:=l t
  rw[M] at F
  generalize a.tmps.getD t undef=u at F ⊢
  cases F
  refine .own (by simp[j]) rfl λo I _=>?_
  simp only[ww] at I ⊢
  cases I
  exact⟨rfl,rfl⟩
 .exact(l U).mono m.1
theorem Po{y:Cx}(C:y.ok){id g}{e}{sz}{xs:List (List RV)}{v}(J:y.H id=some (.arr g e sz xs))(M:AP y (.own id g) v){S'}
 (O:∀b, y.S b->S' b) (E:∀b k, y.β id=some (b, k)->S' b):A4 y.w S' (.sl xs) v := by
  obtain⟨X, q, B, hd, l, T⟩ := MT C J M
  unfold Bh at hd
  split at hd
  · have:xs=[] := yX hd.1
    subst this
    rw[hd.2];exact .snil
  · rename_i b cap heq
    subst hd
    have w:xs.length<=cap/\cap<=maxLen := by
      rcases l.2 with ⟨j, _⟩ | ⟨Z, I, U, j, _, _, m, F, _⟩
      · cases j
      · simp only[Value.slice.injEq] at j;rw[j.2.2];exact⟨m, F⟩
    have A:∀i row k d, xs[i]?=some row->row[k]?=some d->B[i * sz+k]?=some (B.getD (i * sz+k) undef)/\A4 y.w y.S d (B.getD (i * sz+k) undef) := by
      intro i row k d j m
      obtain⟨u, F, V⟩ := T i row k d j m
      simp only[List.getD, F, yP]
      exact⟨trivial, V⟩
    refine .sl b 0 xs cap sz (λi k => B.getD (i * sz+k) undef) (λ_ => E b cap heq) w.1 w.2 q (λi row k d j m => ?_) (λi row k d j m => (A i row k d j m).2.mono (λ_ _ => rfl) O)
    rw[xd]
    exact Jm l (A i row k d j m).1
theorem pP{y:Cx}(F:y.ok){id g m}{e}{sz}{xs:List (List RV)}{v}(O:y.H id=some (.arr g e sz xs))(U:AP y (.pre id g m) v){S'}
 (V:∀b, y.S b->S' b) (I:∀b k, y.β id=some (b, k)->S' b):A4 y.w S' (.sl (xs.take m)) v := by
  obtain⟨_, h0, w, X, E, hd, l, Z⟩ := F.obj _ _ O
  have hp:m<=xs.length/\Bh (y.β id) m v := by
    cases U with
    | pre _ _ h => exact h _ O rfl
  obtain⟨hm, hp⟩ := hp
  unfold Bh at hd hp
  split at hd
  · rename_i heq
    rw[heq] at hp
    obtain⟨rfl, rfl⟩ := hp
    rw[List.take_zero];exact .snil
  · rename_i b cap heq
    rw[heq] at hp
    subst hd;subst hp
    have J:xs.length<=cap/\cap<=maxLen := by
      rcases l.2 with ⟨j, _⟩ | ⟨g', T, a0, j, _, _, q, M, _⟩
      · cases j
      · simp only[Value.slice.injEq] at j;rw[j.2.2];exact⟨q, M⟩
    have A:∀i row k d, xs[i]?=some row->row[k]?=some d->E[i * sz+k]?=some (E.getD (i * sz+k) undef)/\A4 y.w y.S d (E.getD (i * sz+k) undef) := by
      intro i row k d j q
      obtain⟨u, M, h4⟩ := Z i row k d j q
      simp only[List.getD, M, yP]
      exact⟨trivial, h4⟩
    have B:∀i row, (xs.take m)[i]?=some row->xs[i]?=some row := λi row h => by
      rw[xn] at h
      split at h
      · exact h
      · cases h
    have C:(xs.take m).length=m := by rw[yZ];omega
    have := A4.sl (w := y.w) (S := S') b 0 (xs.take m) cap sz (λi k => E.getD (i * sz+k) undef) (λ_ => I b cap heq) (by omega) J.2 (λrow hr => w row (List.mem_of_mem_take hr))
      (λi row k d j q => by rw[xd];exact Jm l (A i row k d (B i row j) q).1) (λi row k d j q => (A i row k d (B i row j) q).2.mono (λ_ _ => rfl) V)
    rwa [C] at this
theorem AN.weak{ops}{rest}{s s'}{K}(hw:AZ s s')(h:AN P ops rest s' K):AN P ops rest s K:=λj a w l=>h j a w (hw _ _ _ l)
def Gt (P : Program) (f : FuncId) : Prop := ∃ fn, P.funcs[f]? = some fn /\ fn.body.isNone = false /\ (fn.name == "runtime.NumGoroutine") = false
mutual
def AV.closed:AV->Bool
 | .r _=>true
 | .cst _=>true
 | .any=>true
 | .rop _ _=>true
 | .agg cs=>Dc cs
 | .tup cs=>Dc cs
 | .fn _ cs=>Dc cs
 | .ifc _=>true
 | .own _ _=>false
 | .pre _ _ _=>false
 | .ptr _ _ _ _=>false
 | .mref _ _=>false
 | .pk _ _ _ _ _=>false
 | .fo _ _ _ _=>false
 | .yld _ _=>false
 | .full _=>false
 | .whn _ _=>false
def Dc:List AV->Bool
 | []=>true
 | a::l=>a.closed&&Dc l
end
theorem L3{cs:List AV}(h:Dc cs=true){i:Nat}{a:AV}(j:cs[i]?=some a):a.closed=true:=by
 induction cs generalizing i with
 | nil=>simp at j
 | cons b l m=>
  simp only[Dc,xE] at h
  cases i with
  | zero=>simp at j;subst j;exact h.1
  | succ i=>exact m h.2 (by simpa using j)
theorem s7(row:List RV):Dc (row.map AV.r)=true:=by
 induction row with
 | nil=>rfl
 | cons d l j=>simp[Dc,AV.closed,j]
theorem jl(row:List RV):(AV.agg (row.map AV.r)).closed=true:=by simp[AV.closed,s7]
theorem JA{x y:Cx}(hw:y.w=x.w)(B:∀b,x.S b->y.S b){a:AV}{v}(F:AP x a v)(q:a.closed=true):AP y a v:=by
 have E:∀b,x.S b->y.w.heap[b]?=x.w.heap[b]?:=λ_ _=>by rw[hw]
 induction F with
 | r h=>exact .r (h.mono E B)
 | cst v=>exact .cst v
 | any v=>exact .any v
 | ifc l h m=>exact .ifc l h m
 | rop u l m I=>exact .rop u (λh=>B _ (l h)) (λj d C=>by rw[hw];exact m j d C) (λj d C=>(I j d C).mono E B)
 | agg w _ A=>simp only[AV.closed] at q;exact .agg w λi c u l m=>A i c u l m (L3 q l)
 | tup w _ A=>simp only[AV.closed] at q;exact .tup w λi c u l m=>A i c u l m (L3 q l)
 | fn w _ A=>simp only[AV.closed] at q;exact .fn w λi c u l m=>A i c u l m (L3 q l)
 | _=>simp[AV.closed] at q
def Fy(x:Cx)(j:List AV)(vs:List Value):Prop:=vs.length=j.length/\∀(i:Nat) (a:AV) (u:Value),j[i]?=some a->vs[i]?=some u->AP x a u
def AY(P:Program)(f:FuncId)(args:List AV)(r:AV):Prop:=
 Gt P f/\r.closed=true/\∀(x:Cx) (j:Array Value),x.ok->(x.H=λ_=>none)->Fy x args j.toList ->
  Calls P f j x.w λe w'=>∃u y,e=.returned u/\y.w=w'/\x.le y/\y.ok/\AP y r u
inductive Hz(h:AL):AV->AV->Prop
 | closed (a:AV) (ha:a.closed=true):Hz h a a
 | own {id g:Nat} {e:TypeId} {sz:Nat} {xs:List (List RV)} (hh:hget h id=some (.arr g e sz xs)):Hz h (.own id g) (.r (.sl xs))
 | nil:Hz h (.cst (.slice none 0 0)) (.r (.sl []))
 | pre {α:Type} {f:α->List RV} {id g k:Nat} {e:TypeId} {sz:Nat} {l l':List α} (hh:hget h id=some (.arr g e sz (l.map f))) (hl:l'=l.take k):Hz h (.pre id g k) (.r (.sl (l'.map f)))
 | full {xs:List (List RV)} : Hz h (.full xs) (.r (.sl xs))
def OR(h:AL):List AV->List AV->Prop
 | [],[]=>True
 | a::l,b::m=>Hz h a b/\OR h l m
 | _,_=>False
inductive Fz(h:AL):AV->AV->Prop
 | one {a b:AV} (h1:Hz h a b):Fz h a b
 | agg {cs ds:List AV} (h1:OR h cs ds):Fz h (.agg cs) (.agg ds)
def Cx.frozen(y:Cx):Cx:={ w:=y.w,S:=λb=>y.S b\/∃id o k,y.H id=some o/\y.atk id b k,F:=y.F,H:=λ_=>none,β:=λ_=>none,K:=λ_ _=>none,n:=y.n }
theorem Xb{y:Cx} : y.le y.frozen:=⟨wy _,rfl,rfl,rfl,λ_ _=>rfl,λ_ h=>.inl h,rfl,wy _,(λ_ _ h=>by cases h),λ_ _ h=>by cases h⟩
theorem T6{y:Cx}(j:y.ok):y.frozen.ok:=by
 refine⟨λb l=>?_,j.F_lt,λb l=>?_,(λ_ _ h=>by cases h),(λ_ _ _ _ h=>by cases h),(λ_ _ _ _ _ _ _ h=>by cases h),(λ_ _ _ _ _ h=>by cases h),j.tabs.le Xb⟩
 .rcases l with l | ⟨id,o,k,m,q⟩
  .exact j.S_lt b l
  .exact(j.own' id o b k m q).1
 .rcases l with l | ⟨id,o,k,m,q⟩
  .exact j.SF b l
  .exact(j.own' id o b k m q).2.2
theorem Hz.rep{y:Cx}(m:y.ok){h:AL}(B:y.H=hget h){a b:AV}(C:Hz h a b){v:Value}(q:AP y a v):AP y.frozen b v:=by
 cases C with
 | closed _ E=>exact JA (x:=y) (y:=y.frozen) rfl (λb h=>Or.inl h) q E
 | @own id g e sz xs w=>
  have j:y.H id=some (.arr g e sz xs):=by rw[B];exact w
  exact .r (Po m j q (λ_ h=>.inl h) λb k A=>.inr ⟨_,_,k,j,.inl A⟩)
 | nil=>cases q;exact .r .snil
 | full=>cases q with | full h _=>exact(AP.r h).mono Xb
 | @pre α f id g k e sz l I w F=>
  subst F
  have j:y.H id=some (.arr g e sz (l.map f)):=by rw[B];exact w
  rw[List.map_take]
  exact .r (pP m j q (λ_ h=>.inl h) λb k A=>.inr ⟨_,_,k,j,.inl A⟩)
theorem OR.get{h}{cs ds:List AV}(j:OR h cs ds):cs.length=ds.length/\∀(i:Nat) (b:AV),ds[i]?=some b->∃a,cs[i]?=some a/\Hz h a b:=by
 induction cs generalizing ds with
 | nil=>cases ds with | nil=>exact⟨rfl,by simp⟩ | cons _ _=>exact j.elim
 | cons a l w=>
  cases ds with
  | nil=>exact j.elim
  | cons b m=>
   obtain⟨A,B⟩:=w j.2
   refine⟨by simp[A],λi c q=>?_⟩
   cases i with
   | zero=>simp at q;subst q;exact⟨a,rfl,j.1⟩
   | succ i=>simpa using B i c (by simpa using q)
theorem Fz.rep{y:Cx}(j:y.ok){h}(q:y.H=hget h){a b}(A:Fz h a b){v}(w:AP y a v):AP y.frozen b v:=by
 cases A with
 | one m=>exact m.rep j q w
 | agg m=>
  obtain⟨M,B⟩:=m.get
  cases w with
  | agg O l=>
   refine .agg (by omega) λi c u C E=>?_
   obtain⟨F,I,J⟩:=B i c C
   exact J.rep j q (l i F u I E)
end
section
variable{P:Program}{c:Bool}{o:Oper}{R:Aa}{h:AL}{n:Nat}
theorem Na{f}(m:Gt P f){fo}{xs:Array Operand}{j}(q:o.op=.call { callee := .value fo, args := xs, argTypes := j }){ρ}{us}
 (l:ρ fo=.func (.func f) #[] us) (w:World):(execOp ρ o).run P w=.ok (.enter f (xs.map ρ++us)) w := by
  obtain⟨fn, A, B, C⟩ := m
  unfold execOp
  rw[q]
  simp only[resolve, l, Deferred.ofValue, Sem.run_bind, Sem.run_pure, Result.andThen_ok, invoke, callFunc, run_program, A, C, B]
  simp
def HS(c:Bool)(R:Aa)(h:AL):List Operand->List AV->Prop
 | [],[]=>True
 | x::xs,b::j=>(∃a,Ev c R x a/\Fz h a b)/\HS c R h xs j
 | _,_=>False
theorem HS.get{xs:List Operand}{bs:List AV}(j:HS c R h xs bs):xs.length=bs.length/\∀(i:Nat) (b:AV),bs[i]?=some b->∃x a,xs[i]?=some x/\Ev c R x a/\Fz h a b:=by
 induction xs generalizing bs with
 | nil=>cases bs with | nil=>exact⟨rfl,by simp⟩ | cons _ _=>exact j.elim
 | cons x l w=>
  cases bs with
  | nil=>exact j.elim
  | cons b m=>
   obtain⟨A,B⟩:=w j.2
   obtain⟨a,C,E⟩:=j.1
   refine⟨by simp[A],λi c q=>?_⟩
   cases i with
   | zero=>simp at q;subst q;exact⟨x,a,rfl,C,E⟩
   | succ i=>simpa using B i c (by simpa using q)
def AV.flat:AV->Bool
 | .r (.int _ _) | .r (.bool _) | .r (.str _)=>true
 | .tup j=>j.all fun | .r (.int _ _) | .r (.bool _) | .r (.str _) | .ifc _=>true | _=>false
 | _=>false
theorem Yx{x y}{d}(hd:(AV.r d).flat=true){v}(j:AP x (.r d) v):AP y (.r d) v:=by
 cases j with
 | r h=>cases h<;>first | exact .r (.int _ _) | exact .r (.bool _) | exact .r (.str _) | (simp[AV.flat] at hd)
theorem tz{x y}{a:AV}(l:a.flat=true){v}(q:AP x a v):AP y a v:=by
 cases a with
 | r d=>exact Yx l q
 | tup F=>
  cases q with
  | tup A j=>
   refine .tup A λi c u m w=>?_
   have B:=xf.1 l c (xa m)
   cases c with
   | r d=>exact Yx (by cases d<;>simp_all [AV.flat]) (j i _ u m w)
   | ifc b=>
    cases j i _ u m w with
    | ifc C E a3=>exact .ifc C E a3
   | _=>simp at B
 | _=>simp[AV.flat] at l
theorem Db{f}{fo}{xs:Array Operand}{a1}{caps bs:List AV}{r:AV}(ho:o.op=.call { callee := .value fo, args := xs, argTypes := a1 })(a2:Ev c R fo (.fn f caps))(F:Dc caps=true)
 (hx:HS c R h xs.toList bs) (hr:c=true->AY P f (bs++caps) r) (a6:r.flat=true):Az P c o R h n r h n := by
  intro hc z w m hH hn he K Q hK
  obtain⟨I, _, T⟩ := hr hc
  obtain⟨q, hget⟩ := hx.get
  have hv := a2.rep he hc
  generalize a7:w.eval fo=v at hv
  cases hv with
  | @fn _ _ us hl U =>
    have V := Na I ho a7 z.w
    have J:Fy z.frozen (bs++caps) (xs.map w.eval++us).toList := by
      refine⟨by simp[hl];simpa using q, λi a u M h2 => ?_⟩
      have A:((xs.toList.map w.eval)++us.toList)[i]?=some u := by simpa using h2
      by_cases hi:i<bs.length
      · rw[xT hi] at M
        obtain⟨x, b, X, Z, k3⟩ := hget i a M
        rw[xT (by simp at q ⊢;omega), xJ, X] at A
        simp only[yF, xF] at A
        subst A
        exact k3.rep m hH (Z.rep he hc)
      · rw[xP (by omega)] at M
        rw[xP (by simp at q ⊢;omega)] at A
        have a8:(xs.toList.map w.eval).length=bs.length := by simpa using q
        rw[a8] at A
        exact JA (x := z) (y := z.frozen) rfl (λb h => Or.inl h) (U _ a u M (by simpa using A)) (L3 F M)
    unfold Oper.wp
    rw[V]
    refine(T z.frozen _ (T6 m) rfl J).mono λe w' ⟨u, y, he', aa, l, a0, ab⟩ => ?_
    subst he'
    subst aa
    have E:z.le { y with S := z.S, H := z.H, β := z.β, K := z.K, n := z.n } /\ ({ y with S := z.S, H := z.H, β := z.β, K := z.K, n := z.n } : Cx).ok := by
      have B:z.le { y with S := z.S, H := z.H, β := z.β, K := z.K, n := z.n } :=
        ⟨l.size, l.os, l.tape, l.output, λb C => l.blk b (C.imp (λh => Or.inl h) id), λ_ h => h, l.F, wy _, λid o h _ => ⟨o, h, rfl, rfl, rfl⟩, λid o h hf _ _ => ⟨o, h, hf, rfl, rfl, rfl, rfl⟩⟩
      refine⟨B, λb C => xD (m.S_lt b C) l.size, a0.F_lt, λb C => ?_, λid ob O => ?_, λid ob b k M h2 => ?_, m.inj, m.extOf (λid o h => ⟨o, h⟩) rfl rfl l.size (λid o b k h ha => (m.own' id o b k h ha).2.1) (λid o b k h ha hF => (m.own' id o b k h ha).2.2 (by rw[<- show y.F=z.F from l.F];exact hF)), m.tabs.le B⟩
      · rw[show({ y with S := z.S, H := z.H, β := z.β, K := z.K, n := z.n } : Cx).F=z.F from l.F];exact m.SF b C
      · obtain⟨X, Z⟩ := m.obj id ob O
        exact⟨X, Z.mono B (λb k C => l.blk b (.inl (.inr ⟨id, ob, k, O, .inl C⟩))) λj b k C => l.blk b (.inl (.inr ⟨id, ob, k, O, .inr ⟨j, C⟩⟩))⟩
      · obtain⟨X, Z, k3⟩ := m.own id ob b k M h2
        exact⟨xD X l.size, Z, by rw[show({ y with S := z.S, H := z.H, β := z.β, K := z.K, n := z.n } : Cx).F=z.F from l.F];exact k3⟩
    exact hK u { y with S := z.S, H := z.H, β := z.β, K := z.K, n := z.n } E.1 E.2 hH hn (tz a6 ab)
def Ps(c:Bool)(R:Aa):List Operand->List AV->Prop
 | [],[]=>True
 | x::xs,b::j=>((Ev c R x b/\b.closed=true)\/(Ev c R x (.cst (.slice none 0 0))/\b=.r (.sl [])))/\Ps c R xs j
 | _,_=>False
theorem Ps.get{xs:List Operand}{bs:List AV}(j:Ps c R xs bs):xs.length=bs.length/\∀(i:Nat) (b:AV),bs[i]?=some b->∃x,xs[i]?=some x/\((Ev c R x b/\b.closed=true)\/(Ev c R x (.cst (.slice none 0 0))/\b=.r (.sl []))):=by
 induction xs generalizing bs with
 | nil=>cases bs with | nil=>exact⟨rfl,by simp⟩ | cons _ _=>exact j.elim
 | cons x l w=>
  cases bs with
  | nil=>exact j.elim
  | cons b m=>
   obtain⟨A,B⟩:=w j.2
   refine⟨by simp[A],λi c q=>?_⟩
   cases i with
   | zero=>simp at q;subst q;exact⟨x,rfl,j.1⟩
   | succ i=>simpa using B i c (by simpa using q)
def Cx.aside(z:Cx):Cx:={ w:=z.w,S:=z.S,F:=λb=>z.F b\/∃id o k,z.H id=some o/\z.atk id b k,H:=λ_=>none,β:=λ_=>none,K:=λ_ _=>none,n:=z.n }
theorem we{z:Cx}(j:z.ok):z.aside.ok:=by
 refine⟨j.S_lt,λb l=>?_,λb l m=>?_,(λ_ _ h=>by cases h),(λ_ _ _ _ h=>by cases h),(λ_ _ _ _ _ _ _ h=>by cases h),(λ_ _ _ _ _ h=>by cases h),j.tabs.same rfl (λ_ h=>h)⟩
 .rcases l with l | ⟨id,o,k,q,w⟩
  .exact j.F_lt b l
  .exact(j.own' id o b k q w).1
 .rcases m with m | ⟨id,o,k,q,w⟩
  .exact j.SF b l m
  .exact(j.own' id o b k q w).2.1 l
theorem Dz{f}{fo}{xs:Array Operand}{a6}{caps bs:List AV}{r}(ho:o.op=.call { callee := .value fo, args := xs, argTypes := a6 })(a7:Ev c R fo (.fn f caps))(M:Dc caps=true)
 (hx:Ps c R xs.toList bs) (hr:c=true->AY P f (bs++caps) r):Az P c o R h n r h n := by
  intro hc z w m hH hn he K Q hK
  obtain⟨O, Z, a0⟩ := hr hc
  obtain⟨q, hget⟩ := hx.get
  have hv := a7.rep he hc
  generalize a8:w.eval fo=v at hv
  cases hv with
  | @fn _ _ us hl a1 =>
    have a2 := Na O ho a8 z.w
    have T:Fy z.aside (bs++caps) (xs.map w.eval++us).toList := by
      refine⟨by simp[hl];simpa using q, λi a u F h2 => ?_⟩
      have B:((xs.toList.map w.eval)++us.toList)[i]?=some u := by simpa using h2
      by_cases hi:i<bs.length
      · rw[xT hi] at F
        obtain⟨x, k1, I⟩ := hget i a F
        rw[xT (by simp at q ⊢;omega), xJ, k1] at B
        simp only[yF, xF] at B
        subst B
        rcases I with ⟨I, k3⟩ | ⟨I, rfl⟩
        · exact JA (x := z) (y := z.aside) rfl (λb h => h) (I.rep he hc) k3
        · have := I.rep he hc
          generalize w.eval x=v at this ⊢
          cases this;exact .r .snil
      · rw[xP (by omega)] at F
        rw[xP (by simp at q ⊢;omega)] at B
        have aa:(xs.toList.map w.eval).length=bs.length := by simpa using q
        rw[aa] at B
        exact JA (x := z) (y := z.aside) rfl (λb h => h) (a1 _ a u F (by simpa using B)) (L3 M F)
    unfold Oper.wp
    rw[a2]
    refine(a0 z.aside _ (we m) rfl T).mono λe w' ⟨u, y, he', ab, l, A, ac⟩ => ?_
    subst he'
    subst ab
    have U:y.F=z.aside.F := l.F
    have J:z.le { y with F := z.F, H := z.H, β := z.β, K := z.K, n := z.n } /\ ({ y with F := z.F, H := z.H, β := z.β, K := z.K, n := z.n } : Cx).ok := by
      have C:z.le { y with F := z.F, H := z.H, β := z.β, K := z.K, n := z.n } :=
        ⟨l.size, l.os, l.tape, l.output, λb E => l.blk b (E.imp id (λh => Or.inl h)), λb h => l.S b h, rfl, wy _, λid o h _ => ⟨o, h, rfl, rfl, rfl⟩, λid o h hf _ _ => ⟨o, h, hf, rfl, rfl, rfl, rfl⟩⟩
      refine⟨C, A.S_lt, λb E => xD (m.F_lt b E) l.size, λb E hf => ?_, λid X V => ?_, λid X b k F h2 => ?_, m.inj, m.extOf (λid o h => ⟨o, h⟩) rfl rfl l.size (λid o b k h ha hS => A.SF b hS (by rw[U];exact .inr ⟨id, o, k, h, ha⟩)) (λid o b k h ha => (m.own' id o b k h ha).2.2), m.tabs.le C⟩
      · exact A.SF b E (by rw[U];exact .inl hf)
      · obtain⟨k1, I⟩ := m.obj id X V
        exact⟨k1, I.mono C (λb k E => l.blk b (.inr (.inr ⟨id, X, k, V, .inl E⟩))) λj b k E => l.blk b (.inr (.inr ⟨id, X, k, V, .inr ⟨j, E⟩⟩))⟩
      · obtain⟨k1, I, k3⟩ := m.own id X b k F h2
        refine⟨xD k1 l.size, λhs => ?_, k3⟩
        exact A.SF b hs (by rw[U];exact .inr ⟨id, X, k, F, .inl h2⟩)
    exact hK u { y with F := z.F, H := z.H, β := z.β, K := z.K, n := z.n } J.1 J.2 hH hn (JA (x := y) (y := { y with F := z.F, H := z.H, β := z.β, K := z.K, n := z.n }) rfl (λ_ h => h) ac Z)
def Da:Nat->List AV->Aa
 | _,[]=>[]
 | i,a::l=>(i,a)::Da (i+1) l
theorem Q9 l:∀(i t:Nat),get (Da i l) t=.any\/∃j a,t=i+j/\l[j]?=some a/\get (Da i l) t=a:=by
 induction l with
 | nil=>intro i t;exact .inl rfl
 | cons a l q=>
  intro i t
  simp only[Da,CE]
  split
  .rename_i w;subst w;exact .inr ⟨0,a,rfl,rfl,rfl⟩
  .rcases q (i+1) t with m | ⟨j,b,m,A,B⟩
   .exact .inl m
   .exact .inr ⟨j+1,b,by omega,by simpa using A,B⟩
end
section
variable{P:Program}{c:Bool}{o:Oper}{R:Aa}{h:AL}{n:Nat}
end
section
variable{P:Program}{ops:Array Oper}{rest:List Oper}{s:St}{K:St->Prop}{o:Oper}
def CC(y:Cx)(j:World):Prop:=∃z:Cx,z.w=j/\y.le z/\z.ok/\z.H=y.H/\(z.β=y.β/\z.K=y.K)/\z.n=y.n/\z.S=y.S/\DZ y j
def AQ(P:Program)(ops:Array Oper)(rest:List Oper)(s:St)(K:St->Prop):Prop:=
 ∀(y:Cx) (a:Act),y.ok->y.H=hget s.h->y.n=s.n->a.tmps.size=s.N->Bv y s.e a->∀m:Act->Prop,
  (∀j l,K j->j.h=s.h->j.n=s.n->j.N=s.N->l.tmps.size=s.N->l.defers=a.defers->Bv y j.e l->m l)->wpQuiet P ops (CC y) m rest a
theorem AQ.nil(h:K s):AQ P ops [] s K:=λ_ a _ _ _ j l _ m=>wpQuiet_nil (m s a h rfl rfl rfl j rfl l)
theorem wC{y z:Cx}{l}(q:z.H=y.H)(m:z.β=y.β/\z.K=y.K)(w:z.S=y.S)(A:DZ y z.w)(B:DZ z l):DZ y l:=by
 intro b j
 refine(B b ?_).trans (A b j)
 unfold Cx.atk at j ⊢
 rw[q,m.1,m.2,w];exact j
theorem AQ.step{d}{v}(hg:o.guard=none)(hd:o.dst=some d)(E:Nat.blt d s.N=true)(F:AS P true o s.e s.h v)
 (I:AQ P ops rest { e := (d, v)::s.e, h := s.h, n := s.n, N := s.N } K):AQ P ops (o::rest) s K := by
  intro y a j B J hsz C M O
  obtain⟨u, l, T⟩ := F rfl y a j B C
  have m:d<a.tmps.size := by rw[hsz];exact B8 E
  refine wpQuiet_step λK' q => ?_
  rw[ww (by simp[Region.wanted, hg])]
  refine⟨u, λU w => ?_, q _ ?_⟩
  · obtain⟨z, hz, _, _, _, _, _, _, A⟩ := w
    unfold Oper.quietAt
    rw[l U A]
    exact⟨rfl, rfl⟩
  · rw[hd]
    refine I y (a.put (some d) u) j B J (by simpa[Act.put] using hsz) (C.put m T) M λV X Z k2 k3 k4 k5 k6 k7 => O V X Z k2 k3 k4 k5 k6 k7
theorem Y3{a:Act}{j q}{l b}(hg:o.guard=some (j,l))(w:(ops[j]?).bind (·.dst)=some q)(m:a.tmps.getD q undef=.bool b):Region.wanted o (yielded ops a.tmps)=(b==l):=by
 simp only[Region.wanted,hg,yielded]
 cases A:ops[j]? with
 | none=>rw[A] at w;cases w
 | some C=>
  rw[A] at w
  simp only[yJ] at w
  simp only[w,yJ]
  have:a.tmps[q]?=some (.bool b):=by
   have B:q<a.tmps.size:=by
    rcases zV q a.tmps.size with h | h
    .exact h
    .simp[Array.getD,Nat.not_lt.2 h] at m;cases m
   rw[xe B]
   simpa[Array.getD,B] using m
  simp[this]
def Is:AV->Option Value
 | .r (.int k n)=>some (.int k n)
 | .r (.bool b)=>some (.bool b)
 | .r (.str s)=>some (.string ⟨s.toArray⟩)
 | _=>none
def Jk:List AV->Option (List Value)
 | []=>some []
 | a::l=>match Is a,Jk l with
  | some v,some r=>some (v::r)
  | _,_=>none
def Qh:AV->Option Value
 | .tup j=>(Jk j).map λl=>.tuple l.toArray
 | a=>Is a
theorem Ym{x}{r}{v u}(h:Is r=some v)(j:AP x r u):u=v:=by
 unfold Is at h
 split at h
 .cases h;exact Ci j
 .cases h;exact G2 j
 .cases h;exact IM j
 .cases h
theorem dA{x}{r}{v}(h:Is r=some v):AP x r v:=by
 unfold Is at h
 split at h
 .cases h;exact .r (.int _ _)
 .cases h;exact .r (.bool _)
 .cases h;exact .r (.str ⟨_⟩)
 .cases h
theorem XY:∀ {vs:List AV} {l:List Value},Jk vs=some l->vs.length=l.length/\∀(i:Nat) (a:AV),vs[i]?=some a->∃v:Value,l[i]?=some v/\Is a=some v
 | [],l,h=>by cases h;exact⟨rfl,by simp⟩
 | a::vs,l,h=>by
  unfold Jk at h
  split at h
  .rename_i v r m q
   cases h
   obtain⟨w,A⟩:=XY q
   refine⟨by simp[w],λi b j=>?_⟩
   cases i with
   | zero=>cases j;exact⟨v,rfl,m⟩
   | succ i=>simpa using A i b (by simpa using j)
  .cases h
theorem ip{x}{r}{v u}(h:Qh r=some v)(B:AP x r u):u=v:=by
 cases r with
 | tup m=>
  change (Jk m).map (λl=>Value.tuple l.toArray)=some v at h
  cases q:Jk m with
  | none=>rw[q] at h;cases h
  | some l=>
   rw[q] at h
   simp only[yF,xF] at h
   subst h
   obtain⟨U,E⟩:=XY q
   cases B with
   | @tup _ F V j=>
    congr 1
    apply Array.ext
    .simp;omega
    .intro i I J
     obtain⟨w,C,M⟩:=E i (m[i]'(by omega)) (wz (by omega))
     have O:=j i _ F[i] (wz (by omega)) (xe I)
     have T:=Ym M O
     have A:i<l.length:=by simpa using J
     rw[wz A] at C
     cases C
     simpa using T
 | _=>first | exact Ym (show Is _=some v from h) B | cases h
theorem eO{x}{r}{v}(h:Qh r=some v):AP x r v:=by
 cases r with
 | tup q=>
  change (Jk q).map (λl=>Value.tuple l.toArray)=some v at h
  cases m:Jk q with
  | none=>rw[m] at h;cases h
  | some l=>
   rw[m] at h
   simp only[yF,xF] at h
   subst h
   obtain⟨A,B⟩:=XY m
   refine .tup (by simpa using A) λi c u C E=>?_
   obtain⟨w,F,I⟩:=B i c C
   have j:l[i]?=some u:=by simpa using E
   rw[F] at j;cases j
   exact dA I
 | _=>first | exact dA (show Is _=some v from h) | cases h
theorem AQ.call{c}{f}{fo}{xs:Array Operand}{a8}{caps bs:List AV}{r}{v}{a:Act}{y:Cx}{R}{h}(ho:o.op=.call { callee := .value fo, args := xs, argTypes := a8 })
 (aa:Ev c R fo (.fn f caps)) (F:Dc caps=true) (hx:HS c R h xs.toList bs) (hr:c=true->AY P f (bs++caps) r) (ab:Qh r=some v) (hc:c=true) (_hok:y.ok) (hH:y.H=hget h) (he:Bv y R a) :
    ∀w2, CC y w2->o.quietAt P a (CC y) w2 v := by
  rintro w2 ⟨z, rfl, U, l, I, V, ac, X, Z⟩
  obtain⟨J, _, a0⟩ := hr hc
  obtain⟨w, hget⟩ := hx.get
  have a1 := he.mono U
  have ad:z.H=Al.hget h := I.trans hH
  have hv := aa.rep a1 hc
  generalize ae:a.eval fo=vv at hv
  cases hv with
  | @fn _ _ us hl a2 =>
    have a6 := Na J ho ae z.w
    have M:Fy z.frozen (bs++caps) (xs.map a.eval++us).toList := by
      refine⟨by simp[hl];simpa using w, λi b u E h2 => ?_⟩
      have A:((xs.toList.map a.eval)++us.toList)[i]?=some u := by simpa using h2
      by_cases hi:i<bs.length
      · rw[xT hi] at E
        obtain⟨x, b', k1, k2, k3⟩ := hget i b E
        rw[xT (by simp at w ⊢;omega), xJ, k1] at A
        simp only[yF, xF] at A
        subst A
        exact k3.rep l ad (k2.rep a1 hc)
      · rw[xP (by omega)] at E
        rw[xP (by simp at w ⊢;omega)] at A
        have af:(xs.toList.map a.eval).length=bs.length := by simpa using w
        rw[af] at A
        exact JA (x := z) (y := z.frozen) rfl (λb h => Or.inl h) (a2 _ b u E (by simpa using A)) (L3 F E)
    unfold Oper.quietAt
    rw[a6]
    refine⟨rfl, (a0 z.frozen _ (T6 l) rfl M).mono λe w' ⟨u, q, he', ag, m, a7, ah⟩ => ?_⟩
    subst ag
    refine⟨by rw[he', ip ab ah], ?_⟩
    have B:z.le { q with S := z.S, H := z.H, β := z.β, K := z.K, n := z.n } :=
      ⟨m.size, m.os, m.tape, m.output, λb C => m.blk b (C.imp (λh => Or.inl h) id), λ_ h => h, m.F, wy _, λid o h _ => ⟨o, h, rfl, rfl, rfl⟩, λid o h hf _ _ => ⟨o, h, hf, rfl, rfl, rfl, rfl⟩⟩
    have O:({ q with S := z.S, H := z.H, β := z.β, K := z.K, n := z.n } : Cx).F=z.F := m.F
    refine⟨{ q with S := z.S, H := z.H, β := z.β, K := z.K, n := z.n }, rfl, U.trans B, ⟨λb C => xD (l.S_lt b C) m.size, a7.F_lt, λb C => ?_, λid ob T => ?_, λid ob b k E h2 => ?_, l.inj, l.extOf (λid o h => ⟨o, h⟩) rfl rfl m.size (λid o b k h ha => (l.own' id o b k h ha).2.1) (λid o b k h ha hF => (l.own' id o b k h ha).2.2 (by rw[<- O];exact hF)), l.tabs.le B⟩, I, V, ac, X, ?_⟩
    · rw[O];exact l.SF b C
    · obtain⟨k1, k2⟩ := l.obj id ob T
      exact⟨k1, k2.mono B (λb k C => m.blk b (.inl (.inr ⟨id, ob, k, T, .inl C⟩))) λj b k C => m.blk b (.inl (.inr ⟨id, ob, k, T, .inr ⟨j, C⟩⟩))⟩
    · obtain⟨k1, k2, k3⟩ := l.own id ob b k E h2
      exact⟨xD k1 m.size, k2, by rw[O];exact k3⟩
    · refine wC I V X Z λb C => m.blk b (.inl (C.imp id ?_))
      exact λ⟨id, o, k, E, h2⟩ => ⟨id, o, k, E, h2⟩
theorem AQ.stepC{d}{f}{fo}{xs:Array Operand}{q}{caps bs}{r}{v}(hg:o.guard=none)(hd:o.dst=some d)(F:Nat.blt d s.N=true)
 (I:o.op=.call { callee := .value fo, args := xs, argTypes := q }) (w:Ev true s.e fo (.fn f caps)) (j:Dc caps=true) (J:HS true s.e s.h xs.toList bs) (M:true=true->AY P f (bs++caps) r) (l:Qh r=some v)
 (O:AQ P ops rest { e := (d, r)::s.e, h := s.h, n := s.n, N := s.N } K):AQ P ops (o::rest) s K := by
  intro y a m C T hsz E U V
  have A:d<a.tmps.size := by rw[hsz];exact B8 F
  refine wpQuiet_step λK' B => ?_
  rw[ww (by simp[Region.wanted, hg])]
  refine⟨v, AQ.call I w j J M l rfl m C E, B _ ?_⟩
  rw[hd]
  exact O y (a.put (some d) v) m C T (by simpa[Act.put] using hsz) (E.put A (eO l)) U λX Z k1 k2 k3 k4 k5 k6 k7 => V X Z k1 k2 k3 k4 k5 k6 k7
theorem g8{id}{l:List Oper}{Q}(hm:P.follows .mixedOrders=true)(hB:Region.lexB .any l.toArray=true)(h:AQ P l.toArray l s (Q .normal)):AW P (.region id l.toArray true) Q s:=by
 intro z0 M c0 a w ⟨_,C,hsz,y,O,T,m,hH,hn,he⟩
 subst O
 have U:∀A:World,A.heap=y.w.heap->A.os=y.w.os->A.tape=y.w.tape->A.output=y.w.output->CC y A:=by
  intro A B h2 h3 h4
  have q:y.le { y with w:=A }:=⟨by rw[B];exact wy _,h2,h3,h4,λb _=>by rw[B],λ_ h=>h,rfl,wy _,λid o h _=>⟨o,h,rfl,rfl,rfl⟩,λid o h hf _ _=>⟨o,h,hf,rfl,rfl,rfl,rfl⟩⟩
  refine⟨{ y with w:=A },rfl,q,⟨λb V=>by rw[B];exact m.S_lt b V,λb V=>by rw[B];exact m.F_lt b V,m.SF,λid o ho=>?_,λid o b k E F=>by rw[B];exact m.own id o b k E F,m.inj,m.extOf (y:={ y with w:=A }) (λid o h=>⟨o,h⟩) rfl rfl (by rw[B];exact wy _) (λid o b k h X=>(m.own' id o b k h X).2.1) (λid o b k h X=>(m.own' id o b k h X).2.2),m.tabs.le q⟩,rfl,⟨rfl,rfl⟩,rfl,rfl,λb _=>by rw[B]⟩
  obtain⟨E,F⟩:=m.obj id o ho
  exact⟨E,F.mono q (λb k _=>by rw[B]) λj b k _=>by rw[B]⟩
 refine iQ KQ (C:=CC y) hm hB M (U _ rfl rfl rfl rfl) ?_
 refine h y a m hH hn hsz he _ λs' a' E F k3 k4 k5 k6 k7 A ⟨z,hz,I,J,Z,_,a0,_,_⟩=>?_
 subst hz
 exact⟨by simp,s',E,_,k6.trans C,by rw[k5,k4],z,rfl,T.trans I,J,by rw[Z,hH,F],by rw[a0,hn,k3],k7.mono I⟩
end
section
variable{P:Program}{c:Bool}{o:Oper}{R:Aa}{h:AL}{n:Nat}
theorem nY{x}(j : -9223372036854775808<=x)(l:x<=9223372036854775807):IntKind.i64.wrap x=x:=by
 rw[IntKind.wrap_i64];omega
def Cn(P:Program)(t:TypeId)(j:List (Nat × Nat))(z:List Value):Prop:=
 ∃l:Array Field,P.underlying t=some (.struct l)/\(∀w,(l.mapM (m:=Sem) λf=>do pure (f.offset,<- sizeOf f.type)).run P w=.ok j.toArray w)/\∃i,P.info? t=some i/\i.zero=some (.agg z.toArray)
def O7:List AV->List (Nat × AV)->List AV
 | j,[]=>j
 | j,(off,a)::r=>O7 (GF j off (BQ a)) r
def Ss(c:Bool)(R:Aa)(j:List (Nat × Nat))(len:Nat):List (Nat × Operand)->List (Nat × AV)->Prop
 | [],[]=>True
 | (i,x)::r,(off,a)::q=>j[i]?=some (off,(BQ a).length)/\Nat.ble (off+(BQ a).length) len=true/\(BQ a).all AV.one=true/\Ev c R x a/\Ss c R j len r q
 | _,_=>False
theorem Zs{x}{a:Act}{m}(hc:c=true)(M:Bv x R a):∀(ps:List (Nat × Operand)) (q:List (Nat × AV)) (us:Array Value) (cs:List AV),us.size=cs.length ->
  (∀(j:Nat) (b:AV) (u:Value),cs[j]?=some b->us[j]?=some u->AP x b u)->Ss c R m cs.length ps q ->
  ∃w,Instr.fill (m[·]?) us (ps.map λ(i,y)=>(i,a.eval y))=some w/\w.size=(O7 cs q).length/\∀(j:Nat) (b:AV) (u:Value),(O7 cs q)[j]?=some b->w[j]?=some u->AP x b u
 | [],[],us,cs,F,A,_=>⟨us,rfl,F,A⟩
 | [],_::_,_,_,_,_,hp=>hp.elim
 | _::_,[],_,_,_,_,hp=>hp.elim
 | (i,y)::ps,(off,b)::q,us,cs,F,A,hp=>by
  obtain⟨U,V,X,Z,h5⟩:=hp
  have I:off+(BQ b).length<=cs.length:=xu V
  obtain⟨O,k2,_⟩:=Kj (Z.rep M hc) (λd hd=>xf.1 X d hd)
  have C:(GF cs off (BQ b)).length=cs.length:=by simp[GF];omega
  obtain⟨f1,f2⟩:=YW off (a.eval y) us (by omega)
  obtain⟨w,g1,g2,g3⟩:=Zs hc M ps q _ (GF cs off (BQ b)) (by rw[f1,F,C]) (λj d u E B=>by
   have J:=Jq cs (BQ b) off j I
   unfold GF at E
   rw[J] at E
   rw[f2] at B
   rw[O] at B
   split at E
   .rename_i l
    rw[ww l] at B
    obtain⟨u',T,_,m2⟩:=k2 _ _ E
    rw[B] at T;cases T;exact m2
   .rename_i l
    rw[wv l] at B
    exact A j d u E B) (by rw[C];exact h5)
  refine⟨w,?_,g2,g3⟩
  simp only[xj,Instr.fill,U]
  rw[wv (by simp[O];omega)]
  exact g1
theorem Ch{t}{parts:Array (Nat × Operand)}{l:List (Nat × Nat)}{z:List Value}{q}{cs}(E:o.op=.build t parts)(F:Cn P t l z)
 (hp:Ss c R l z.length parts.toList q) (w:O7 (z.map LA) q=cs):AS P c o R h (.agg cs) := by
  intro I y a _ _ J
  subst w
  obtain⟨Z, M, O, i, T, U⟩ := F
  obtain⟨A, V, f2, X⟩ := Zs I J parts.toList q z.toArray (z.map LA) (by simp) (λj b u m B => by
    have C:z[j]?=some u := by simpa using B
    rw[xJ, C] at m
    simp only[yF, xF] at m
    subst m;exact RX y u) (by rw[xk];exact hp)
  refine⟨.agg A, λw2 _ => ?_, .agg f2.symm λj b u m B => X j b u m B⟩
  unfold execOp
  rw[E]
  simp only[Instr.build, zeroValue, typeInfo, Sem.run_bind, run_program, Result.andThen_ok, T, Sem.run_pure, U, run_underlying M, O, Value.cells, WAG]
  have:(λx:Nat => l.toArray[x]?)=(l[·]?) := by funext x;simp
  rw[this, V]
  rfl
end
section
variable{P:Program}{t e:TypeId}{z:Value}{sz b:Nat}
theorem JP(h:(P.info? t).map (λi=>(i.zero,i.size,i.bytes))=some (some z,sz,b)):∃i,P.info? t=some i/\i.zero=some z/\i.size=sz/\i.bytes=b:=by
 cases j:P.info? t with
 | none=>rw[j] at h;cases h
 | some i=>
  rw[j] at h
  simp only[yF,xF,xM] at h
  exact⟨i,rfl,h.1,h.2.1,h.2.2⟩
theorem Ba.of(j:P.underlying t=some (.slice e))(l:(P.info? e).map (λi=>(i.zero,i.size,i.bytes))=some (some z,sz,b))(m:z.cells.size=sz)(q:z.cells.toList.all Value.oneCell'=true)(w:0<sz):Ba P t e sz b:=by
 obtain⟨i,A,B,C,E⟩:=JP l
 exact⟨j,i,z,A,C,E,B,m,λu F=>xf.1 q u F,w⟩
theorem BH.of{d}(j:P.underlying t=some d)(l:H3 d=true)(m:(P.info? t).map (λi=>(i.zero,i.size,i.bytes))=some (some z,1,b)):BH P t:=by
 obtain⟨i,q,_,w,_⟩:=JP m
 exact⟨d,i,j,l,q,w⟩
theorem BW.of{d}(j:P.underlying t=some d)(l:H3 d=false)(m:(P.info? t).map (λi=>(i.zero,i.size,i.bytes))=some (some z,sz,b)):BW P t sz:=by
 obtain⟨i,q,_,w,_⟩:=JP m
 exact⟨d,i,j,l,q,w⟩
theorem Co(j:(P.info? t).map (λi=>(i.zero,i.size,i.bytes))=some (some z,sz,b)):∃i,P.info? t=some i/\i.size=sz:=by
 obtain⟨i,l,_,m,_⟩:=JP j
 exact⟨i,l,m⟩
theorem Cj.of(j:(P.info? t).map (λi=>(i.zero,i.size,i.bytes))=some (some z,sz,b)):Cj P t z:=by
 obtain⟨i,l,m,_,_⟩:=JP j
 exact⟨i,l,m⟩
theorem JI.of{j}(l:(P.info? t).map (λi=>(i.zero,i.size,i.bytes))=some (some z,sz,b))(h:GR (Gc z)=some j):JI P t j:=by
 obtain⟨i,m,q,_,_⟩:=JP l
 exact⟨i,z,m,q,h⟩
theorem An.of{l}{j:Field}{f off}(m:P.underlying t=some (.struct l))(q:l[f]?=some j)(w:j.offset=off)(A:(P.info? j.type).map (λi=>(i.zero,i.size,i.bytes))=some (some z,sz,b))(B:sz≠0):An P t f off:=by
 obtain⟨i,C,_,E,_⟩:=JP A
 exact⟨l,j,i,m,q,w,C,by rw[E];exact B⟩
theorem Cn.of{l:Array Field}{j:List (Nat × Nat)}{m:List Value}(q:P.underlying t=some (.struct l))(A:∀w,(l.mapM (m:=Sem) λf=>do pure (f.offset,<- sizeOf f.type)).run P w=.ok j.toArray w)
  (B:(P.info? t).map (λi=>(i.zero,i.size,i.bytes))=some (some (.agg m.toArray),sz,b)):Cn P t j m:=by
 obtain⟨i,C,E,_,_⟩:=JP B
 exact⟨l,q,A,i,C,E⟩
end
theorem lQ{P}{c}{o:Oper}{R}{h}{α:Type}{t}{e}{sz}{x}{l:List α}{f}(j:o.op=.call { callee := .builtin .len, args := #[x], argTypes := #[t] })(m:DU P t e sz)
 (q:Ev c R x (.r (.sl (l.map f)))):AS P c o R h (.r (.int .i64 l.length)) := by
  have := am (h := h) j m q
  rwa [xk] at this
theorem vN{P}{c}{o:Oper}{R}{h}{α:Type}{t}{e e'}{sz j}{x}{id g}{l:List α}{f}(m:o.op=.call { callee := .builtin .len, args := #[x], argTypes := #[t] })
 (q:DU P t e sz) (w:Ev c R x (.own id g)) (A:hget h id=some (.arr g e' j (l.map f))):AS P c o R h (.r (.int .i64 l.length)) := by
  have := gc m q w A
  rwa [xk] at this
theorem bR{x}{b}{v}(h:AP x (.r (.bool b)) v):v=.bool b:=by
 cases h with
 | r h=>cases h;rfl
theorem Xw{P}{c}{o:Oper}{R}{h}{op}{t q}{x y}{m n}{v}{u}(A:o.op=.binOp op t x y q)(B:Ev c R x (.r (.bool m)))(C:Ev c R y (.r (.bool n)))
 (E:∀w, (binOp op t (.bool m) (.bool n)).run P w=.ok u w) (F:∀w S, A4 w S v u):AS P c o R h (.r v) := by
  intro j z a _ _ l
  refine⟨u, λJ I => ?_, .r (F _ _)⟩
  unfold execOp
  rw[A]
  simp only[bR (B.rep l j), bR (C.rep l j), eqGuard_at_bool]
  simp[E]
theorem cB{P:Program}{c}{o:Oper}{R}{h}{t j}{x y}{m n}(l:o.op=.binOp .eql t x y j)(q:P.underlying t=some .bool)(A:Ev c R x (.r (.bool m)))(B:Ev c R y (.r (.bool n))) :
  AS P c o R h (.r (.bool (m==n))):=Xw l A B (λw=>by simp[binOp,run_equal_bool _ t m n q]) (λ_ _=>.bool _)
theorem W2{P:Program}{c}{o:Oper}{R}{h}{t j}{x y}{m n}(l:o.op=.binOp .neq t x y j)(q:P.underlying t=some .bool)(A:Ev c R x (.r (.bool m)))(B:Ev c R y (.r (.bool n))) :
  AS P c o R h (.r (.bool (!(m==n)))):=Xw l A B (λw=>by simp[binOp,run_equal_bool _ t m n q]) (λ_ _=>.bool _)
open Go.ChangeShapes Go.WideShapes Go.Deep Go.WideElems
def Cx.start(W:World):Cx:={ w:=W,S:=λb=>b<W.heap.size,F:=λ_=>False,H:=λ_=>none,β:=λ_=>none,K:=λ_ _=>none,n:=0 }
theorem wP(W:World)(j:EH (Cx.start W)):(Cx.start W).ok:=
 ⟨λ_ h=>h,λ_ h=>h.elim,λ_ _ h=>h,(λ_ _ h=>by cases h),(λ_ _ _ _ h=>by cases h),(λ_ _ _ _ _ _ _ h=>by cases h),(λ_ _ _ _ _ h=>by cases h),j⟩
theorem UN{W:World}{y:Cx}(h:(Cx.start W).le y){b}(j:b<W.heap.size):y.w.heap[b]?=W.heap[b]?:=h.blk b (.inl j)
section
variable{H:Type}{enc:TypeId × Value->H}{P:Program}{W:World}
def Pj(W:World)(cs:List Value)(l:List RV):Prop:=
 cs.length=l.length/\∀(j:Nat) (d:RV) (u:Value),l[j]?=some d->cs[j]?=some u->A4 W (· < W.heap.size) d u
theorem Pj.one{d}{u}(h:A4 W (· < W.heap.size) d u):Pj W [u] [d]:=by
 refine⟨rfl,λj q w l m=>?_⟩
 cases j with
 | zero=>simp at l m;subst l;subst m;exact h
 | succ j=>simp at l
theorem UH{α:Type}{Q:Nat->α->Prop}(n:Nat)(h:∀i,i<n->∃b,Q i b):∃l:List α,l.length=n/\∀i b,l[i]?=some b->Q i b:=by
 induction n with
 | zero=>exact⟨[],rfl,λi b h=>by simp at h⟩
 | succ k w=>
  obtain⟨l,q,A⟩:=w (λi E=>h i (by omega))
  obtain⟨b,B⟩:=h k (by omega)
  refine⟨l++[b],by simp[q],λi C j=>?_⟩
  rcases zV i l.length with m | m
  .rw[xT m] at j;exact A i C j
  .rw[xP m] at j
   have:i=l.length:=by
    have:=(wx.1 j).1
    simp at this;omega
   subst this
   simp at j;subst j
   rw[q];exact B
theorem fC(B:laidOutB P=true){C}{l} : ∀ {w:List TypeId} {vs:List Value} {ds:List (DataW H)} {ps:List MemPlace},(∀t∈w,P.readableRec t=true/\t<P.types.size) ->
  DataW.TrodAll enc P W 0 (λ_=>true) true w vs ds ps->(∀p∈ps,W.sameAt C p)->(∀p∈ps,l p.block=true)->DataW.TrodAll enc P C 0 l true w vs ds ps
 | [],[],[],_,_,h,_,_=>h
 | t::_,_::_,_::_,_,A,⟨p,q,F,I,e⟩,E,m=>
  ⟨p,q,Trod_stays B (A t (yD.2 (.inl rfl))).1 (A t (yD.2 (.inl rfl))).2 F (λx j=>E x (by rw[e];exact zT _ j)) (λx j=>m x (by rw[e];exact zT _ j)),
   fC B (λt J=>A t (yD.2 (.inr J))) I (λx j=>E x (by rw[e];exact zf _ j)) (λx j=>m x (by rw[e];exact zf _ j)),e⟩
theorem iH{y:Cx}(h:(Cx.start W).le y){p:MemPlace}(hp:p.block<W.heap.size):W.sameAt y.w p:=by
 cases p with
 | cell b off=>exact World.cell?_of_block (UN h hp)
 | map b=>exact UN h hp
theorem uF{y:Cx}(h:(Cx.start W).le y) j:W.keptBut y.w j:=by
 refine⟨h.os,h.output,λi l=>?_⟩
 have:=(World.keptBut_refl W j).2.2 i l
 rw[UN h l]
 exact this
theorem nz{f:Func}{s:ChangeSpec}{args:Array Value}{v:Value}{ds E}{j}{y:Cx}(T:laidOutB P=true)(F:∀t ∈ f.params.toList, P.readableRec t=true/\t<P.types.size)(w:s.vars=[])
 (M:DataW.Whole enc P f.params.toList s.vars false W args.toList ds E j) (A:(Cx.start W).le y) (l:(s.fn H (ds++E)).args=ds) (m:(s.fn H (ds++E)).vars=[])
 (B:∀(b:Nat) (U:Nat->Bool) (hd:Bool), DataW.TrodAll enc P y.w b U hd f.resultTypes.toList (v.resultList f.resultTypes.size) (s.fn H (ds++E)).results []):s.post enc P f false true false false W args v y.w := by
  have I := M
  obtain⟨p, q, hA, O, rfl, _, _⟩ := M
  rw[w] at O
  obtain⟨rfl, rfl⟩ := trodVars_none O
  have C:∀x ∈ p, x.block<W.heap.size := DataW.TrodAll.lt hA
  refine⟨ds, [], p++[], [], p, [], I, B _ _ _, ?_, ?_, uF A _, λh => by cases h⟩
  · rw[l]
    exact fC T F hA (λx J => iH A (C x J)) (λx J => by simpa using C x J)
  · rw[w, m];rfl
end
end Go.Proofs.YtcgleifameckmaaGreatDoor.Al

namespace Go.Proofs.YtcgleifameckmaaGreatDoor.Al
def Bz(L:List Nat)(i:Nat):Nat:=L.getD (i-1000) 0
mutual
def ren(L:List Nat):AV->AV
 | .own id g=>.own (Bz L id) g
 | .pre id g k=>.pre (Bz L id) g k
 | .ptr id g i k=>.ptr (Bz L id) g i k
 | .mref id g=>.mref (Bz L id) g
 | .yld id g=>.yld (Bz L id) g
 | .full xs=>.full xs
 | .pk id g ve j k=>.pk (Bz L id) g ve j k
 | .fo id g ve key=>.fo (Bz L id) g ve key
 | .agg cs=>.agg (EK L cs)
 | .tup cs=>.tup (EK L cs)
 | .fn f cs=>.fn f (EK L cs)
 | .r d=>.r d
 | .rop row k=>.rop row k
 | .cst v=>.cst v
 | .whn b v=>.whn b v
 | .ifc b=>.ifc b
 | .any=>.any
def EK(L:List Nat):List AV->List AV
 | []=>[]
 | a::l=>ren L a::EK L l
end
mutual
def AV.canon(k:Nat):AV->Bool
 | .own id _=>Nat.ble 1000 id&&Nat.blt id (1000+k)
 | .pre id _ _=>Nat.ble 1000 id&&Nat.blt id (1000+k)
 | .ptr id _ _ _=>Nat.ble 1000 id&&Nat.blt id (1000+k)
 | .agg cs=>FM k cs
 | .tup cs=>FM k cs
 | .fn _ cs=>FM k cs
 | .whn _ _=>false
 | .ifc _=>true
 | .mref id _=>Nat.ble 1000 id&&Nat.blt id (1000+k)
 | .yld id _=>Nat.ble 1000 id&&Nat.blt id (1000+k)
 | .pk id _ _ _ _=>Nat.ble 1000 id&&Nat.blt id (1000+k)
 | .fo id _ _ _=>Nat.ble 1000 id&&Nat.blt id (1000+k)
 | .full _=>false
 | .r _=>true
 | .rop _ _=>true
 | .cst _=>true
 | .any=>true
def FM(k:Nat):List AV->Bool
 | []=>true
 | a::l=>a.canon k&&FM k l
end
def AU.ren(L:List Nat):AU->AU
 | .arr g e sz xs=>.arr g e sz xs
 | .box g e w=>.box g e (EK L w)
 | .hot g e xs k id A=>.hot g e xs k id A
 | .it g s pos=>.it g s pos
 | .mp g ks B clock=>.mp g ks B clock
 | .mi g j q m seen last=>.mi g j q m seen last
 | .lp g e N C a b E p=>.lp g e N C a b E p
 | .md g l=>.md g l
 | .mb g v e l=>.mb g v e l
 | .mr g v e sz hole l=>.mr g v e sz hole l
 | .mj g j q len seen=>.mj g j q len seen
 | .cal g W F=>.cal g W F
 | .rr g e sz col e2 sz2 hole xs=>.rr g e sz col e2 sz2 hole xs
def AU.canon(k:Nat):AU->Bool
 | .arr _ _ _ _=>true
 | .box _ _ j=>FM k j
 | .hot _ _ _ _ _ _=>false
 | .it _ _ _=>false
 | .mp _ _ _ _=>false
 | .mi _ _ _ _ _ _=>false
 | .lp _ _ _ _ _ _ _ _=>false
 | .md _ _=>true
 | .mb _ _ _ _=>true
 | .mr _ _ _ _ _ _=>true
 | .mj _ _ _ _ _=>false
 | .cal _ _ _=>true
 | .rr _ _ _ _ _ _ hole _=>hole.isNone
theorem GQ L(l:List AV):(EK L l).length=l.length:=by
 induction l with
 | nil=>rfl
 | cons a l j=>simp[EK,j]
theorem Gh(L:List Nat)(l:List AV)(i:Nat):(EK L l)[i]?=(l[i]?).map (ren L):=by
 induction l generalizing i with
 | nil=>simp[EK]
 | cons a l j=>cases i with
  | zero=>simp[EK]
  | succ i=>simp[EK,j]
theorem Gv{k:Nat}{cs:List AV}(h:FM k cs=true){i:Nat}{a:AV}(j:cs[i]?=some a):a.canon k=true:=by
 induction cs generalizing i with
 | nil=>simp at j
 | cons b l m=>
  simp only[FM,xE] at h
  cases i with
  | zero=>simp at j;subst j;exact h.1
  | succ i=>exact m h.2 (by simpa using j)
theorem IC L(o:AU):(o.ren L).gen=o.gen:=by cases o<;>rfl
theorem Qw L(o:AU):(o.ren L).shape=o.shape:=by cases o<;>simp[AU.ren,AU.shape,GQ]
def Mu(x:Cx)(i:Nat)(y:Cx)(j:Nat):Prop:=∀o,x.H i=some o->∃o2,y.H j=some o2/\o2.gen=o.gen/\o2.shape=o.shape/\y.β j=x.β i/\(o.isFam=true->o2.isFam=true/\o2.ver=o.ver/\o2.kshape=o.kshape/\y.K j=x.K i)
theorem Wj{x y:Cx}{L}{k}(hw:y.w=x.w)(hS:∀b,x.S b->y.S b)(O:x.n<=y.n)(V:∀id,1000<=id->id<1000+k->Mu y (Bz L id) x id){a:AV}{v}(X:AP x a v)(w:a.canon k=true) :
  AP y (ren L a) v:=by
 have hb:∀b,x.S b->y.w.heap[b]?=x.w.heap[b]?:=λ_ _=>by rw[hw]
 induction X with
 | r h=>exact .r (h.mono hb hS)
 | cst v=>exact .cst v
 | any v=>exact .any v
 | rop u B T M=>exact .rop u (λh=>hS _ (B h)) (λj d hj=>by rw[hw];exact T j d hj) (λj d hj=>(M j d hj).mono hb hS)
 | agg Z _ ih=>
  simp only[AV.canon] at w
  refine .agg (by rw[GQ];exact Z) λi c u B T=>?_
  rw[Gh,xK] at B
  obtain⟨c0,M,rfl⟩:=B
  exact ih i c0 u M T (Gv w M)
 | tup Z _ ih=>
  simp only[AV.canon] at w
  refine .tup (by rw[GQ];exact Z) λi c u B T=>?_
  rw[Gh,xK] at B
  obtain⟨c0,M,rfl⟩:=B
  exact ih i c0 u M T (Gv w M)
 | fn Z _ ih=>
  simp only[AV.canon] at w
  refine .fn (by rw[GQ];exact Z) λi c u B T=>?_
  rw[Gh,xK] at B
  obtain⟨c0,M,rfl⟩:=B
  exact ih i c0 u M T (Gv w M)
 | own hg B C=>
  simp only[AV.canon,xE,yj,yk] at w
  refine .own (xD hg O) B λo A l=>?_
  obtain⟨o2,E,F,U,I,_⟩:=V _ w.1 w.2 o A
  rw[<- I,<- U]
  exact C o2 E (F.trans l)
 | pre hg B C=>
  simp only[AV.canon,xE,yj,yk] at w
  refine .pre (xD hg O) B λo A l=>?_
  obtain⟨o2,E,F,U,I,_⟩:=V _ w.1 w.2 o A
  rw[<- I,<- U]
  exact C o2 E (F.trans l)
 | ptr hg B C=>
  simp only[AV.canon,xE,yj,yk] at w
  refine .ptr (xD hg O) B λo A l=>?_
  obtain⟨o2,E,F,U,I,_⟩:=V _ w.1 w.2 o A
  rw[<- I,<- U]
  exact C o2 E (F.trans l)
 | whn _ _ _=>simp[AV.canon] at w
 | ifc B h T=>exact .ifc B h T
 | mref hg B C=>
  simp only[AV.canon,xE,yj,yk] at w
  refine .mref (xD hg O) B λo A l=>?_
  obtain⟨o2,E,F,U,I,_⟩:=V _ w.1 w.2 o A
  rw[<- I]
  exact C o2 E (F.trans l)
 | yld hg B C=>
  simp only[AV.canon,xE,yj,yk] at w
  refine .yld (xD hg O) B λo A l=>?_
  obtain⟨o2,E,F,U,I,_⟩:=V _ w.1 w.2 o A
  rw[<- I]
  exact C o2 E (F.trans l)
 | pk hg X B C=>
  simp only[AV.canon,xE,yj,yk] at w
  refine .pk (xD hg O) (xD X O) B λo b c q m A hf l J hm hp=>?_
  obtain⟨o2,E,F,U,I,k5⟩:=V _ w.1 w.2 o A
  obtain⟨e1,e2,e3,e4⟩:=k5 hf
  exact C o2 b c q m E e1 (F.trans l) (e2.trans J) (by rw[e3];exact hm) (by rw[e4];exact hp)
 | fo hg X B C=>
  simp only[AV.canon,xE,yj,yk] at w
  refine .fo (xD hg O) (xD X O) B λo A hf l J=>?_
  obtain⟨o2,E,F,U,I,k5⟩:=V _ w.1 w.2 o A
  obtain⟨e1,e2,e3,e4⟩:=k5 hf
  have:=C o2 E e1 (F.trans l) (e2.trans J)
  rw[e3,e4] at this
  exact this
 | full _ _=>simp[AV.canon] at w
theorem RL{x y:Cx}{L}{k}(hw:y.w=x.w)(hS:∀b,x.S b->y.S b)(O:x.n<=y.n)(X:∀id,1000<=id->id<1000+k->Mu y id x (Bz L id)){b}{v}(Z:AP x b v) :
  ∀a:AV,ren L a=b->a.canon k=true->AP y a v:=by
 have hb:∀b,x.S b->y.w.heap[b]?=x.w.heap[b]?:=λ_ _=>by rw[hw]
 induction Z with
 | r h=>intro a l w;cases a<;>simp only[ren,reduceCtorEq] at l<;>cases l;exact .r (h.mono hb hS)
 | cst v=>intro a l w;cases a<;>simp only[ren,reduceCtorEq] at l<;>cases l;exact .cst v
 | any v=>intro a l w;cases a<;>simp only[ren,reduceCtorEq] at l;exact .any v
 | rop u C T h3=>
  intro a l w;cases a<;>simp only[ren,reduceCtorEq] at l<;>cases l
  exact .rop u (λh=>hS _ (C h)) (λj d hj=>by rw[hw];exact T j d hj) (λj d hj=>(h3 j d hj).mono hb hS)
 | agg V _ ih=>
  intro a l w;cases a<;>simp only[ren,reduceCtorEq] at l<;>cases l
  rename_i cs
  simp only[AV.canon] at w
  rw[GQ] at V
  exact .agg V λi c u C T=>ih i _ u (by rw[Gh,C];rfl) T c rfl (Gv w C)
 | tup V _ ih=>
  intro a l w;cases a<;>simp only[ren,reduceCtorEq] at l<;>cases l
  rename_i cs
  simp only[AV.canon] at w
  rw[GQ] at V
  exact .tup V λi c u C T=>ih i _ u (by rw[Gh,C];rfl) T c rfl (Gv w C)
 | fn V _ ih=>
  intro a l w;cases a<;>simp only[ren,reduceCtorEq] at l<;>cases l
  rename_i cs
  simp only[AV.canon] at w
  rw[GQ] at V
  exact .fn V λi c u C T=>ih i _ u (by rw[Gh,C];rfl) T c rfl (Gv w C)
 | own hg C E=>
  intro a l w;cases a<;>simp only[ren,reduceCtorEq] at l<;>cases l
  simp only[AV.canon,xE,yj,yk] at w
  refine .own (xD hg O) C λo B A=>?_
  obtain⟨o2,F,I,U,J,_⟩:=X _ w.1 w.2 o B
  rw[<- J,<- U]
  exact E o2 F (I.trans A)
 | pre hg C E=>
  intro a l w;cases a<;>simp only[ren,reduceCtorEq] at l<;>cases l
  simp only[AV.canon,xE,yj,yk] at w
  refine .pre (xD hg O) C λo B A=>?_
  obtain⟨o2,F,I,U,J,_⟩:=X _ w.1 w.2 o B
  rw[<- J,<- U]
  exact E o2 F (I.trans A)
 | ptr hg C E=>
  intro a l w;cases a<;>simp only[ren,reduceCtorEq] at l<;>cases l
  simp only[AV.canon,xE,yj,yk] at w
  refine .ptr (xD hg O) C λo B A=>?_
  obtain⟨o2,F,I,U,J,_⟩:=X _ w.1 w.2 o B
  rw[<- J,<- U]
  exact E o2 F (I.trans A)
 | whn _ _ _=>intro a l w;cases a<;>simp only[ren,reduceCtorEq] at l<;>cases l;simp[AV.canon] at w
 | ifc C h T=>intro a l w;cases a<;>simp only[ren,reduceCtorEq] at l<;>cases l;exact .ifc C h T
 | mref hg C E=>
  intro a l w;cases a<;>simp only[ren,reduceCtorEq] at l<;>cases l
  simp only[AV.canon,xE,yj,yk] at w
  refine .mref (xD hg O) C λo B A=>?_
  obtain⟨o2,F,I,U,J,_⟩:=X _ w.1 w.2 o B
  rw[<- J]
  exact E o2 F (I.trans A)
 | yld hg C E=>
  intro a l w;cases a<;>simp only[ren,reduceCtorEq] at l<;>cases l
  simp only[AV.canon,xE,yj,yk] at w
  refine .yld (xD hg O) C λo B A=>?_
  obtain⟨o2,F,I,U,J,_⟩:=X _ w.1 w.2 o B
  rw[<- J]
  exact E o2 F (I.trans A)
 | pk hg Z C E=>
  intro a l w;cases a<;>simp only[ren,reduceCtorEq] at l<;>cases l
  simp only[AV.canon,xE,yj,yk] at w
  refine .pk (xD hg O) (xD Z O) C λo b c q m B hf A M hm hp=>?_
  obtain⟨o2,F,I,U,J,k5⟩:=X _ w.1 w.2 o B
  obtain⟨e1,e2,e3,e4⟩:=k5 hf
  exact E o2 b c q m F e1 (I.trans A) (e2.trans M) (by rw[e3];exact hm) (by rw[e4];exact hp)
 | fo hg Z C E=>
  intro a l w;cases a<;>simp only[ren,reduceCtorEq] at l<;>cases l
  simp only[AV.canon,xE,yj,yk] at w
  refine .fo (xD hg O) (xD Z O) C λo B hf A M=>?_
  obtain⟨o2,F,I,U,J,k5⟩:=X _ w.1 w.2 o B
  obtain⟨e1,e2,e3,e4⟩:=k5 hf
  have:=E o2 F e1 (I.trans A) (e2.trans M)
  rw[e3,e4] at this
  exact this
 | full _ _=>intro a l w;cases a<;>simp only[ren,reduceCtorEq] at l<;>cases l;simp[AV.canon] at w
def Fe(h:AL)(L:List Nat):AL->Prop
 | []=>True
 | (id,some o)::r=>(Nat.ble 1000 id&&Nat.blt id (1000+L.length))=true/\hget h (Bz L id)=some (o.ren L)/\o.canon L.length=true/\Fe h L r
 | (_,none)::_=>False
theorem Fe.get{h}{L:List Nat}{hc}(m:Fe h L hc){id}{o:AU}(j:hget hc id=some o):1000<=id/\id<1000+L.length/\hget h (Bz L id)=some (o.ren L)/\o.canon L.length=true:=by
 induction hc with
 | nil=>cases j
 | cons p r q=>
  obtain⟨d,v⟩:=p
  rw[BG] at j
  cases v with
  | none=>exact m.elim
  | some C=>
   obtain⟨l,w,A,B⟩:=m
   split at j
   .rename_i hd;subst hd;cases j
    simp only[xE,yj,yk] at l
    exact⟨l.1,l.2,w,A⟩
   .exact q B j
def I3(k:Nat):AL->Bool
 | []=>true
 | (id,some o)::r=>Nat.ble 1000 id&&Nat.blt id (1000+k)&&o.canon k&&I3 k r
 | (_,none)::r=>I3 k r
theorem tK{k}{h}(l:I3 k h=true){id}{o:AU}(j:hget h id=some o):1000<=id/\id<1000+k/\o.canon k=true:=by
 induction h with
 | nil=>cases j
 | cons p r m=>
  obtain⟨d,v⟩:=p
  rw[BG] at j
  cases v with
  | none=>
   split at j
   .cases j
   .exact m l j
  | some q=>
   simp only[I3,xE,yj,yk] at l
   split at j
   .rename_i hd;subst hd;cases j;exact⟨l.1.1.1,l.1.1.2,l.1.2⟩
   .exact m l.2 j
def BI(P:Program)(f:FuncId)(k:Nat)(args:List AV)(h:AL)(Post:AV->AL->Prop):Prop:=
 Gt P f/\∀(x:Cx) (l:Array Value),x.ok->x.H=hget h->Fy x args l.toList ->
  Calls P f l x.w λe w'=>∃u y r j,e=.returned u/\y.w=w'/\x.le y/\y.ok/\y.H=hget j/\AP y r u/\r.canon k=true/\I3 k j=true/\Post r j
def E4(L:List Nat)(hc:AL):Nat->List Nat->AL
 | _,[]=>[]
 | j,id::r=>(id,(hget hc j).map (AU.ren L))::E4 L hc (j+1) r
theorem dF L hc h(M:List Nat):∀(j i:Nat),hget (E4 L hc j M++h) i=if i∈M then(hget hc (j+M.idxOf i)).map (AU.ren L) else hget h i:=by
 induction M with
 | nil=>intro j i;simp[E4]
 | cons m M w=>
  intro j i
  simp only[E4,yV,BG,yD]
  by_cases l:m=i
  .subst l;simp
  .rw[wv l,w]
   have q:¬ i=m:=λe=>l e.symm
   simp only[q,false_or]
   split
   .rw[List.idxOf_cons,show(m==i)=false from by simpa using l,cond_false,show j+1+M.idxOf i=j+(M.idxOf i+1) by omega]
   .rfl
def Du(L:List Nat)(i:Nat):Nat:=1000+L.idxOf i
theorem NS{L}{i}(h:i∈L):Bz L (Du L i)=i:=by
 have j:=List.idxOf_lt_length_of_mem h
 simp[Bz,Du,List.getD,wz j]
theorem Se{L:List Nat}{i}(l:1000<=i)(m:i<1000+L.length):Bz L i∈L:=by
 have j:i-1000<L.length:=by omega
 simp only[Bz,List.getD,wz j,yP]
 exact xw j
theorem LS{L:List Nat}(j:L.Nodup){i}(m:1000<=i)(q:i<1000+L.length):Du L (Bz L i)=i:=by
 have l:i-1000<L.length:=by omega
 simp only[Bz,List.getD,wz l,yP,Du]
 rw[j.idxOf_getElem]
 omega
def Cx.view(z:Cx)(L:List Nat)(hc:AL):Cx:=
 { w:=z.w,S:=z.S,F:=λb=>z.F b\/∃id o k,id ∉ L/\z.H id=some o/\z.atk id b k,H:=hget hc,β:=λi=>z.β (Bz L i),K:=λi=>z.K (Bz L i),n:=z.n }
theorem pr{x y:Cx}{L}{k}(hw:y.w=x.w)(J:∀b,x.S b->y.S b)(hn:x.n<=y.n)(hH:∀id,1000<=id->id<1000+k->Mu y id x (Bz L id)){β}{κ}{o:AU}(O:CL x β κ (o.ren L))(hc:o.canon k=true):CL y β κ o:=by
 have X:∀b,x.S b->y.w.heap[b]?=x.w.heap[b]?:=λ_ _=>by rw[hw]
 cases o with
 | arr g e sz xs=>
  obtain⟨T,q,U,Z,w,A,B⟩:=O
  exact⟨T,q,U,Z,w,by rw[hw];exact A,λi row c d C E=>by obtain⟨u,F,I⟩:=B i row c d C E;exact⟨u,F,I.mono X J⟩⟩
 | box g e cs=>
  obtain⟨b,V,q,w,A,B⟩:=O
  refine⟨b,V,q,by rw[hw];exact w,by rw[A,GQ],λj c M=>?_⟩
  obtain⟨u,C,E,F⟩:=B j (ren L c) (by rw[Gh,M];rfl)
  exact⟨u,C,E,RL hw J hn hH F c rfl (Gv hc M)⟩
 | hot g e xs k id g'=>cases hc
 | it g s pos=>cases hc
 | mp g ks vs clock=>cases hc
 | mi g a0 mg a1 seen last=>cases hc
 | lp g e N ps a b st p=>cases hc
 | md g l=>
  obtain⟨b,es,q,w,A,B⟩:=O
  exact⟨b,es,q,by rw[hw];exact w,A,λj k d M=>by obtain⟨m,C,E,F,I⟩:=B j k d M;exact⟨m,C,E,F,I.mono X J⟩⟩
 | mb g v e l=>
  obtain⟨T,b,es,q,w,A,B⟩:=O
  exact⟨xD T hn,b,es,q,by rw[hw];exact w,A,λj k cs M=>by
   obtain⟨m,bb,V,C,E,F,I,k5,k6,k7,k8⟩:=B j k cs M
   exact⟨m,bb,V,C,E,F,I,k5,by rw[hw];exact k6,k7,λi c hi=>by obtain⟨u,e1,e2,e3⟩:=k8 i c hi;exact⟨u,e1,e2,e3.mono X J⟩⟩⟩
 | mr g v e sz hole l=>
  obtain⟨T,hv,b,es,q,w,A,B⟩:=O
  exact⟨T,xD hv hn,b,es,q,by rw[hw];exact w,A,λj k xs M=>by
   obtain⟨hr,bb,cap,Z,e1,e3,e4,e5⟩:=B j k xs M
   exact⟨hr,bb,cap,Z,e1,by rw[hw];exact e3,λi row c d q1 q2=>by obtain⟨u,q3,q4⟩:=e4 i row c d q1 q2;exact⟨u,q3,q4.mono X J⟩,e5⟩⟩
 | mj g a0 mg len seen=>cases hc
 | rr g e sz col e2 sz2 hole xs=>
  obtain rfl:hole=none:=by simpa[AU.canon] using hc
  obtain⟨T,U,Z,q,w,A,B⟩:=O
  refine⟨T,U,Z,q,by rw[hw];exact w,λi row c d hc C E=>?_,λi row hi=>?_⟩
  .obtain⟨u,F,I⟩:=A i row c d hc C E
   exact⟨u,F,I.mono X J⟩
  .obtain⟨u,C,⟨_,_,E,_⟩ | ⟨F,ys,I,k5⟩⟩:=B i row hi
   .cases E
   .exact⟨u,C,.inr ⟨F,ys,I,k5.mono X J λ_ _ _=>by rw[hw]⟩⟩
 | cal g W ys=>
  obtain⟨κs,q,w,A,B,h5⟩:=O
  exact⟨κs,q,w,by rw[hw];exact A,B,λc hc=>J c (h5 c hc)⟩
theorem vR{x y:Cx}{L}{k}(hw:y.w=x.w)(M:∀b,x.S b->y.S b)(hn:x.n<=y.n)(hH:∀id,1000<=id->id<1000+k->Mu y (Bz L id) x id){β}{κ}{o:AU}(O:CL x β κ o)(hc:o.canon k=true):CL y β κ (o.ren L):=by
 have X:∀b,x.S b->y.w.heap[b]?=x.w.heap[b]?:=λ_ _=>by rw[hw]
 cases o with
 | arr g e sz xs=>
  obtain⟨T,q,U,Z,w,A,B⟩:=O
  exact⟨T,q,U,Z,w,by rw[hw];exact A,λi row c d C E=>by obtain⟨u,F,J⟩:=B i row c d C E;exact⟨u,F,J.mono X M⟩⟩
 | box g e cs=>
  obtain⟨b,V,q,w,A,B⟩:=O
  refine⟨b,V,q,by rw[hw];exact w,by rw[A,GQ],λj c I=>?_⟩
  rw[Gh,xK] at I
  obtain⟨c0,I,rfl⟩:=I
  obtain⟨u,C,E,F⟩:=B j c0 I
  exact⟨u,C,E,Wj hw M hn hH F (Gv hc I)⟩
 | hot g e xs k id g'=>cases hc
 | it g s pos=>cases hc
 | mp g ks vs clock=>cases hc
 | mi g a0 mg a1 seen last=>cases hc
 | lp g e N ps a b st p=>cases hc
 | md g l=>
  obtain⟨b,es,q,w,A,B⟩:=O
  exact⟨b,es,q,by rw[hw];exact w,A,λj k d I=>by obtain⟨m,C,E,F,J⟩:=B j k d I;exact⟨m,C,E,F,J.mono X M⟩⟩
 | mb g v e l=>
  obtain⟨T,b,es,q,w,A,B⟩:=O
  exact⟨xD T hn,b,es,q,by rw[hw];exact w,A,λj k cs I=>by
   obtain⟨m,bb,V,C,E,F,J,k5,k6,k7,k8⟩:=B j k cs I
   exact⟨m,bb,V,C,E,F,J,k5,by rw[hw];exact k6,k7,λi c hi=>by obtain⟨u,e1,e2,e3⟩:=k8 i c hi;exact⟨u,e1,e2,e3.mono X M⟩⟩⟩
 | mr g v e sz hole l=>
  obtain⟨T,hv,b,es,q,w,A,B⟩:=O
  exact⟨T,xD hv hn,b,es,q,by rw[hw];exact w,A,λj k xs I=>by
   obtain⟨hr,bb,cap,Z,e1,e3,e4,e5⟩:=B j k xs I
   exact⟨hr,bb,cap,Z,e1,by rw[hw];exact e3,λi row c d q1 q2=>by obtain⟨u,q3,q4⟩:=e4 i row c d q1 q2;exact⟨u,q3,q4.mono X M⟩,e5⟩⟩
 | mj g a0 mg len seen=>cases hc
 | rr g e sz col e2 sz2 hole xs=>
  obtain rfl:hole=none:=by simpa[AU.canon] using hc
  obtain⟨T,U,Z,q,w,A,B⟩:=O
  refine⟨T,U,Z,q,by rw[hw];exact w,λi row c d hc C E=>?_,λi row hi=>?_⟩
  .obtain⟨u,F,J⟩:=A i row c d hc C E
   exact⟨u,F,J.mono X M⟩
  .obtain⟨u,C,⟨_,_,E,_⟩ | ⟨F,ys,J,k5⟩⟩:=B i row hi
   .cases E
   .exact⟨u,C,.inr ⟨F,ys,J,k5.mono X M λ_ _ _=>by rw[hw]⟩⟩
 | cal g W ys=>
  obtain⟨κs,q,w,A,B,h5⟩:=O
  exact⟨κs,q,w,by rw[hw];exact A,B,λc hc=>M c (h5 c hc)⟩
theorem Tc{z:Cx}{h}{L:List Nat}{hc}(j:z.H=hget h)(l:Fe h L hc):∀id,1000<=id->id<1000+L.length->Mu (z.view L hc) id z (Bz L id):=by
 intro id _ _ o m
 obtain⟨_,_,q,_⟩:=l.get m
 exact⟨o.ren L,by rw[j];exact q,IC L o,Qw L o,rfl,λw=>by cases o<;>first | (cases w;done) | exact⟨rfl,rfl,rfl,rfl⟩⟩
theorem Vf{z:Cx}{h}{L:List Nat}{hc}(l:z.ok)(E:z.H=hget h)(J:Fe h L hc)(F:L.Nodup):(z.view L hc).ok:=by
 refine⟨l.S_lt,λb m=>?_,λb m M=>?_,λid o O=>?_,λid o b k O m=>?_,λid X o o' b k k' O q m w=>?_,λid o j b c O m=>?_,l.tabs.same rfl (λ_ h=>h)⟩
 .rcases m with m | ⟨id,o,k,_,A,B⟩
  .exact l.F_lt b m
  .exact(l.own' id o b k A B).1
 .rcases M with M | ⟨id,o,k,_,A,B⟩
  .exact l.SF b m M
  .exact(l.own' id o b k A B).2.1 m
 .obtain⟨A,B,I,h4⟩:=J.get O
  obtain⟨Z,k2⟩:=l.obj _ _ (by rw[E];exact I)
  exact⟨by rwa [IC] at Z,pr (x:=z) (y:=z.view L hc) (k:=L.length) rfl (λ_ h=>h) (wy _) (Tc E J) k2 h4⟩
 .obtain⟨A,B,I,h4⟩:=J.get O
  obtain⟨Z,k2,k3⟩:=l.own _ _ b k (by rw[E];exact I) m
  refine⟨Z,k2,?_⟩
  rintro(M | ⟨i2,o2,k',T,e1,e2⟩)
  .exact k3 M
  .exact T (l.inj' (by rw[E];exact I) e1 (.inl m) e2 ▸ Se A B)
 .obtain⟨A,B,I,_⟩:=J.get O
  obtain⟨U,V,C,_⟩:=J.get q
  have:=l.inj _ _ _ _ b k k' (by rw[E];exact I) (by rw[E];exact C) m w
  rw[<- LS F A B,this,LS F U V]
 .obtain⟨A,B,I,h4⟩:=J.get O
  obtain⟨Z,k2,k3,k4,k5⟩:=l.ext (Bz L id) _ j b c (by rw[E];exact I) m
  refine⟨Z,k2,?_,λX o' k q w=>?_,λX o' j' c' q w=>?_⟩
  .rintro(M | ⟨i2,o2,k',T,e1,e2⟩)
   .exact k3 M
   .exact T (l.inj' (by rw[E];exact I) e1 (.inr ⟨j,m⟩) e2 ▸ Se A B)
  .obtain⟨_,_,C,_⟩:=J.get q
   exact k4 _ _ k (by rw[E];exact C) w
  .obtain⟨U,V,C,_⟩:=J.get q
   obtain⟨e1,e2⟩:=k5 _ _ j' c' (by rw[E];exact C) w
   exact⟨by rw[<- LS F U V,e1,LS F A B],e2⟩
def Cx.back(z y:Cx)(L:List Nat)(hc h:AL):Cx:=
 { w:=y.w,S:=y.S,F:=z.F,H:=hget (E4 L hc 1000 L++h),β:=λi=>if i∈L then y.β (Du L i) else z.β i,K:=λi=>if i∈L then y.K (Du L i) else z.K i,n:=y.n }
theorem XB{z y:Cx}{h hc}{L:List Nat}(j:L.Nodup)(w:y.H=hget hc):∀id,1000<=id->id<1000+L.length->Mu (z.back y L hc h) (Bz L id) y id:=by
 intro id m q o B
 have A:=Se m q
 have l:hget (E4 L hc 1000 L++h) (Bz L id)=some o:=B
 rw[dF,ww A,show 1000+L.idxOf (Bz L id)=Du L (Bz L id) from rfl,LS j m q,xK] at l
 obtain⟨o2,C,rfl⟩:=l
 refine⟨o2,by rw[w];exact C,(IC L o2).symm,(Qw L o2).symm,?_,λE=>?_⟩
 .show y.β id=if Bz L id∈L then y.β (Du L (Bz L id)) else _
  rw[ww A,LS j m q]
 .have F:y.K id=(z.back y L hc h).K (Bz L id):=by
   show y.K id=if Bz L id∈L then y.K (Du L (Bz L id)) else _
   rw[ww A,LS j m q]
  rw[F]
  cases o2<;>first | (cases E;done) | exact⟨rfl,rfl,rfl,rfl⟩
theorem Xp{z y:Cx}{h hc m}{L:List Nat}(T:z.ok)(M:z.H=hget h)(hs:Fe h L hc)(ai:L.Nodup)(C:(z.view L hc).le y)(B:y.ok)(F:y.H=hget m)(ah:I3 L.length m=true) :
  z.le (z.back y L m h)/\(z.back y L m h).ok:=by
 have af:y.F=(z.view L hc).F:=C.F
 have A:∀i o,hget (E4 L m 1000 L++h) i=some o->(i∈L/\∃o2,hget m (Du L i)=some o2/\o=o2.ren L)\/(i ∉ L/\hget h i=some o):=by
  intro i o ho
  rw[dF] at ho
  split at ho
  .rename_i l
   rw[xK] at ho
   obtain⟨o2,q,k2⟩:=ho
   exact .inl ⟨l,o2,q,k2.symm⟩
  .rename_i l;exact .inr ⟨l,ho⟩
 have a0:∀id I b k,id ∉ L->z.H id=some I->z.atk id b k->y.F b:=λid I b k U E h3=>by rw[af];exact .inr ⟨id,I,k,U,E,h3⟩
 have ac:∀i,i∈L->(z.back y L m h).β i=y.β (Du L i):=λi l=>ww l
 have ad:∀i,i ∉ L->(z.back y L m h).β i=z.β i:=λi l=>wv l
 have a1:∀i,i∈L->(z.back y L m h).K i=y.K (Du L i):=λi l=>ww l
 have a2:∀i,i ∉ L->(z.back y L m h).K i=z.K i:=λi l=>wv l
 have a6:∀i,i∈L->∀b k,(z.back y L m h).atk i b k->y.atk (Du L i) b k:=λi l b k ha=>by unfold Cx.atk at ha ⊢;rwa [ac i l,a1 i l] at ha
 have a7:∀i,i ∉ L->∀b k,(z.back y L m h).atk i b k->z.atk i b k:=λi l b k ha=>by unfold Cx.atk at ha ⊢;rwa [ad i l,a2 i l] at ha
 have a8:z.le (z.back y L m h):=by
  refine⟨C.size,C.os,C.tape,C.output,λb hb=>C.blk b (hb.imp id (λh=>Or.inl h)),λb h=>C.S b h,rfl,C.n,λid O ag hg=>?_,λid O ag hf hg hv=>?_⟩
  .rcases A id O ag with ⟨l,o2,q,rfl⟩ | ⟨l,q⟩
   .rw[IC,show(o2.ren L).isCal=o2.isCal from T5 (Qw L o2)] at hg
    obtain⟨o,Z,e2,e3,e4⟩:=C.H (Du L id) o2 (by rw[F];exact q) hg
    obtain⟨_,_,e5,_⟩:=hs.get Z
    rw[NS l] at e5
    refine⟨o.ren L,by rw[M];exact e5,by rw[IC,IC];exact e2,by rw[Qw,Qw];exact e3,?_⟩
    rw[ac id l,e4]
    show z.β (Bz L (Du L id))=z.β id
    rw[NS l]
   .exact⟨O,by rw[M];exact q,rfl,rfl,ad id l⟩
  .rcases A id O ag with ⟨l,o2,q,rfl⟩ | ⟨l,q⟩
   .rw[IC] at hg
    have hr:∀o:AU,(o.ren L).isFam=o.isFam/\(o.ren L).ver=o.ver/\(o.ren L).kshape=o.kshape:=λo=>by cases o<;>exact⟨rfl,rfl,rfl⟩
    rw[(hr o2).1] at hf
    rw[(hr o2).2.1] at hv
    obtain⟨o,Z,e0,e2,e3,e4,e6⟩:=C.K (Du L id) o2 (by rw[F];exact q) hf hg hv
    obtain⟨_,_,e5,_⟩:=hs.get Z
    rw[NS l] at e5
    refine⟨o.ren L,by rw[M];exact e5,by rw[(hr o).1];exact e0,by rw[IC,IC];exact e2,by rw[(hr o).2.1,(hr o2).2.1];exact e3,by rw[(hr o).2.2,(hr o2).2.2];exact e4,?_⟩
    rw[a1 id l,e6]
    show z.K (Bz L (Du L id))=z.K id
    rw[NS l]
   .exact⟨O,by rw[M];exact q,hf,rfl,rfl,rfl,a2 id l⟩
 have aa:∀i i' o O b k k',hget (E4 L m 1000 L++h) i=some o->hget (E4 L m 1000 L++h) i'=some O->(z.back y L m h).atk i b k->(z.back y L m h).atk i' b k'->i=i':=by
  intro id J o O b k k' U V E w
  rcases A id o U with ⟨l,o2,q,rfl⟩ | ⟨l,q⟩<;>rcases A J O V with ⟨X,al,ab,rfl⟩ | ⟨X,ab⟩
  .have:=B.inj' (by rw[F];exact q) (by rw[F];exact ab) (a6 id l b k E) (a6 J X b k' w)
   rw[<- NS l,this,NS X]
  .exact absurd (a0 J O b k' X (by rw[M];exact ab) (a7 J X b k' w)) (B.own' _ _ b k (by rw[F];exact q) (a6 id l b k E)).2.2
  .exact absurd (a0 id o b k l (by rw[M];exact q) (a7 id l b k E)) (B.own' _ _ b k' (by rw[F];exact ab) (a6 J X b k' w)).2.2
  .exact T.inj' (by rw[M];exact q) (by rw[M];exact ab) (a7 id l b k E) (a7 J X b k' w)
 have ae:∀id I b k,hget (E4 L m 1000 L++h) id=some I->(z.back y L m h).atk id b k->b<y.w.heap.size/\¬ y.S b/\¬ z.F b:=by
  intro id I b k U E
  rcases A id I U with ⟨l,o2,q,rfl⟩ | ⟨l,q⟩
  .obtain⟨Z,e2,e3⟩:=B.own' (Du L id) o2 b k (by rw[F];exact q) (a6 id l b k E)
   exact⟨Z,e2,λhf=>e3 (by rw[af];exact .inl hf)⟩
  .have E:=a7 id l b k E
   obtain⟨Z,e2,e3⟩:=T.own' id I b k (by rw[M];exact q) E
   exact⟨xD Z C.size,λaj=>B.SF b aj (a0 id I b k l (by rw[M];exact q) E),e3⟩
 refine⟨a8,B.S_lt,λb hb=>xD (T.F_lt b hb) C.size,λb hb hf=>?_,λid I ak=>?_,λid I b k U E=>ae id I b k U (.inl E),λid J o O b k k' U V E w=>aa id J o O b k k' U V (.inl E) (.inl w),λid I j b c U E=>?_,T.tabs.le a8⟩
 .exact B.SF b hb (by rw[af];exact .inl hf)
 .rcases A id I ak with ⟨l,o2,q,rfl⟩ | ⟨l,q⟩
  .obtain⟨Z,e2⟩:=B.obj (Du L id) o2 (by rw[F];exact q)
   rw[ac id l,a1 id l,IC]
   exact⟨Z,vR (x:=y) (y:=z.back y L m h) (k:=L.length) rfl (λ_ h=>h) (wy _) (XB ai F) e2 (tK ah q).2.2⟩
  .obtain⟨Z,e2⟩:=T.obj id I (by rw[M];exact q)
   rw[ad id l,a2 id l]
   exact⟨xD Z C.n,e2.mono a8 (λb k hb=>C.blk b (.inr (.inr ⟨id,I,k,l,by rw[M];exact q,.inl hb⟩))) λj b k hb=>C.blk b (.inr (.inr ⟨id,I,k,l,by rw[M];exact q,.inr ⟨j,hb⟩⟩))⟩
 .obtain⟨Z,e2,e3⟩:=ae id I b c U (.inr ⟨j,E⟩)
  refine⟨Z,e2,e3,λJ O k V w=>?_,λJ O j' c' V w=>?_⟩
  .have:=aa id J I O b c k U V (.inr ⟨j,E⟩) (.inl w)
   subst this
   rcases A id I U with ⟨l,o2,q,rfl⟩ | ⟨l,q⟩
   .rw[a1 id l] at E;rw[ac id l] at w
    exact(B.ext (Du L id) o2 j b c (by rw[F];exact q) E).2.2.2.1 _ o2 k (by rw[F];exact q) w
   .rw[a2 id l] at E;rw[ad id l] at w
    exact(T.ext id I j b c (by rw[M];exact q) E).2.2.2.1 _ I k (by rw[M];exact q) w
  .have:=aa id J I O b c c' U V (.inr ⟨j,E⟩) (.inr ⟨j',w⟩)
   subst this
   refine⟨rfl,?_⟩
   rcases A id I U with ⟨l,o2,q,rfl⟩ | ⟨l,q⟩
   .rw[a1 id l] at E w
    exact((B.ext (Du L id) o2 j b c (by rw[F];exact q) E).2.2.2.2 _ o2 j' c' (by rw[F];exact q) w).2
   .rw[a2 id l] at E w
    exact((T.ext id I j b c (by rw[M];exact q) E).2.2.2.2 _ I j' c' (by rw[M];exact q) w).2
section
variable{P:Program}{ops:Array Oper}{rest:List Oper}{s:St}{K:St->Prop}{o:Oper}
def Ko(R:Aa)(L:List Nat):List Operand->List AV->Prop
 | [],[]=>True
 | x::xs,b::j=>((Ev true R x (ren L b)/\b.canon L.length=true)\/(Ev true R x (.cst (.slice none 0 0))/\b=.r (.sl [])))/\Ko R L xs j
 | _,_=>False
theorem Ko.get{R}{L:List Nat}{xs:List Operand}{bs:List AV}(j:Ko R L xs bs) :
  xs.length=bs.length/\∀(i:Nat) (b:AV),bs[i]?=some b->∃x,xs[i]?=some x/\((Ev true R x (ren L b)/\b.canon L.length=true)\/(Ev true R x (.cst (.slice none 0 0))/\b=.r (.sl []))):=by
 induction xs generalizing bs with
 | nil=>cases bs with | nil=>exact⟨rfl,by simp⟩ | cons _ _=>exact j.elim
 | cons x l w=>
  cases bs with
  | nil=>exact j.elim
  | cons b m=>
   obtain⟨A,B⟩:=w j.2
   refine⟨by simp[A],λi c q=>?_⟩
   cases i with
   | zero=>simp at q;subst q;exact⟨x,rfl,j.1⟩
   | succ i=>simpa using B i c (by simpa using q)
theorem Yn{f}{fo}{xs:Array Operand}{Z}{caps bs:List AV}{L:List Nat}{hc}{Post}{R}{h}{a:Act}{z:Cx}
 (ho:o.op=.call { callee := .value fo, args := xs, argTypes := Z }) (a0:Ev true R fo (.fn f (EK L caps))) (a1:FM L.length caps=true) (hx:Ko R L xs.toList bs) (q:Fe h L hc) (w:L.Nodup)
 (m:BI P f L.length (bs++caps) hc Post) (M:z.ok) (hH:z.H=hget h) (he:Bv z R a) (K:Act->World->Prop) (Q:Exit->Act->World->Prop)
 (hK:∀(u:Value) (y:Cx) (r:AV) (J:AL), z.le y->y.ok->y.H=hget (E4 L J 1000 L++h)->AP y (ren L r) u->Post r J->K (a.put o.dst u) y.w):o.wp P a z.w K Q := by
  obtain⟨A, m⟩ := m
  obtain⟨j, B⟩ := hx.get
  have hv := a0.rep he rfl
  generalize a2:a.eval fo=v at hv
  cases hv with
  | @fn _ _ us hl O =>
    have T := Na A ho a2 z.w
    rw[GQ] at hl
    have U:∀ {b:AV} {u:Value}, AP z (ren L b) u->b.canon L.length=true->AP (z.view L hc) b u := λ{b u} C h2 => RL (x := z) (y := z.view L hc) (L := L) (k := L.length) rfl (λ_ h => h) (wy _) (Tc hH q) C b rfl h2
    have E:Fy (z.view L hc) (bs++caps) (xs.map a.eval++us).toList := by
      refine⟨by simp[hl];simpa using j, λi b u C h2 => ?_⟩
      have l:((xs.toList.map a.eval)++us.toList)[i]?=some u := by simpa using h2
      by_cases hi:i<bs.length
      · rw[xT hi] at C
        obtain⟨x, k1, F⟩ := B i b C
        rw[xT (by simp at j ⊢;omega), xJ, k1] at l
        simp only[yF, xF] at l
        subst l
        rcases F with ⟨F, k3⟩ | ⟨F, rfl⟩
        · exact U (F.rep he rfl) k3
        · have := F.rep he rfl
          generalize a.eval x=v at this ⊢
          cases this;exact .r .snil
      · rw[xP (by omega)] at C
        rw[xP (by simp at j ⊢;omega)] at l
        have a6:(xs.toList.map a.eval).length=bs.length := by simpa using j
        rw[a6] at l
        exact U (O _ (ren L b) u (by rw[Gh, C];rfl) (by simpa using l)) (Gv a1 C)
    unfold Oper.wp
    rw[T]
    refine(m (z.view L hc) _ (Vf M hH q w) rfl E).mono λe w' ⟨u, y, r, J, he', a7, a8, V, X, aa, ab, ac, I⟩ => ?_
    subst he'
    subst a7
    obtain⟨k1, F⟩ := Xp M hH q w a8 V X ac
    exact hK u (z.back y L J h) r J k1 F rfl (Wj (x := y) (y := z.back y L J h) (L := L) (k := L.length) rfl (λ_ h => h) (wy _) (XB w X) aa ab) I
theorem wX{d}{f}{fo}{xs:Array Operand}{C}{caps bs}(L:List Nat){hc}{Post}(hg:o.guard=none)(hd:o.dst=some d)(hN:Nat.blt d s.N=true)
 (ho:o.op=.call { callee := .value fo, args := xs, argTypes := C }) (E:Ev true s.e fo (.fn f (EK L caps))) (F:FM L.length caps=true) (hx:Ko s.e L xs.toList bs) (I:Fe s.h L hc) (J:L.Nodup)
 (l:BI P f L.length (bs++caps) hc Post)
 (hr:∀r B n', Post r B->AN P ops rest { e := (d, ren L r)::s.e, h := E4 L B 1000 L++s.h, n := n', N := s.N } K):AN P ops (o::rest) s K := by
  intro c0 a w ⟨_, m, hsz, y, M, O, T, hH, hn, he⟩ Q hQ
  subst M
  refine wpList_plain hg λK' U => ?_
  refine Yn ho E F hx I J l T hH he K' Q λu z r B q A V X j => ?_
  refine U _ _ ?_
  have Z:d<a.tmps.size := by rw[hsz];exact B8 hN
  rw[hd]
  exact hr r B z.n j c0 (a.put (some d) u) z.w ⟨_, m, by simpa[Act.put] using hsz, z, rfl, O.trans q, A, V, rfl, (he.mono q).put Z X⟩ Q hQ
def IR(P:Program):ResultVar->St->AV->Prop
 | .tmp t,s,r=>get s.e t=r
 | .cell a t,s,r=>(BH P t/\∃id g e,get s.e a=.ptr id g 0 0/\hget s.h id=some (.box g e [r]))\/∃j,r=.agg j/\BW P t j.length/\∃id g e,get s.e a=.ptr id g 0 0/\hget s.h id=some (.box g e j)
def MH(P:Program):List ResultVar->St->List AV->Prop
 | [],_,[]=>True
 | x::l,s,r::j=>IR P x s r/\MH P l s j
 | _,_,_=>False
def KU(P:Program)(j:List ResultVar)(s:St)(r:AV):Prop:=match j with
 | [x]=>IR P x s r
 | _=>∃l,r=.tup l/\MH P j s l
def RH(P:Program)(l:List ResultVar)(k:Nat)(Post:AV->AL->Prop):Exit->St->Prop
 | .normal,s | .ret,s=>∃r j,KU P l s r/\LX j s.h/\r.canon k=true/\I3 k j=true/\Post r j
 | _,_=>False
def F5(tmps:Array Value):ResultVar->Sem Value
 | .tmp t=>pure (tmps.getD t undef)
 | .cell a t=>do loadVar t (<- asAddr (tmps.getD a undef))
theorem Sx{fn:Func}{tmps}{w}(us:List Value)(m:∀(i:Nat) (x:ResultVar),fn.results[i]?=some x->∃u,us[i]?=some u/\(F5 tmps x).run P w=.ok u w)(j:us.length=fn.results.size) :
  (results fn tmps).run P w=.ok (if h:us.toArray.size=1 then us.toArray[0] else .tuple us.toArray) w:=by
 have key:∀(l:List ResultVar) (us:List Value),us.length=l.length->(∀(i:Nat) (x:ResultVar),l[i]?=some x->∃u,us[i]?=some u/\(F5 tmps x).run P w=.ok u w) ->
   (l.mapM (m:=Sem) (F5 tmps)).run P w=.ok us w:=by
  intro l
  induction l with
  | nil=>intro us j _;simp at j;subst j;rfl
  | cons x l B=>
   intro us j m
   cases us with
   | nil=>simp at j
   | cons u us=>
    obtain⟨M,q,C⟩:=m 0 x rfl
    simp at q
    subst q
    have E:=B us (by simpa using j) (λi y F=>by simpa using m (i+1) y (by simpa using F))
    simp only[List.mapM_cons,Sem.run_bind,Sem.run_pure,Result.andThen_ok,E,C]
 have I:=key fn.results.toList us (by simpa using j) (λi x J=>m i x (by simpa using J))
 have q:(results fn tmps)=(do
   let A <- fn.results.mapM (m:=Sem) (F5 tmps)
   pure (if h:A.size=1 then A[0] else .tuple A)):=by
  unfold results
  congr 1
 rw[q,<- Array.toArray_toList (xs:=fn.results),List.mapM_toArray]
 simp only[Sem.run_bind,Sem.run_map,I]
 rfl
theorem IR.rep{y:Cx}(hok:y.ok){s:St}(hH:y.H=hget s.h){a:Act}(he:Bv y s.e a){x:ResultVar}{r:AV}(hr:IR P x s r):∃u,AP y r u/\(F5 a.tmps x).run P y.w=.ok u y.w:=by
 cases x with
 | tmp t=>exact⟨_,by have:=he t;rwa [show get s.e t=r from hr] at this,rfl⟩
 | cell c t=>
  rcases hr with ⟨ht,id,g,e,h1,h2⟩ | ⟨cs,rfl,ht,id,g,e,h1,h2⟩
  rotate_left
  .have hHid:y.H id=some (.box g e cs):=by rw[hH];exact h2
   have h0:=he c
   rw[h1] at h0
   obtain⟨b,cur,k1,k2,k3,k4,k5⟩:=IQ hok hHid h0
   have hcell:∀j,j<cs.length->y.w.cell? ⟨b,0+j,none⟩=some ((λj=>cur.getD j undef) j):=by
    intro j hj
    have hj':j<cur.size:=by omega
    rw[xd,cell_of_row _ b j cur e _ k3]
    simp[hj']
   refine⟨.agg ((List.range cs.length).map λj=>cur.getD j undef).toArray,JD rfl _ λj a hj=>?_,?_⟩
   .obtain⟨u,h6,_,h7⟩:=k5 _ _ hj
    obtain⟨h8,h9⟩:=xt.1 h6
    simpa[h8,h9] using h7
   .have hrun:=J0 (P:=P) ht (w:=y.w) (b:=b) (k:=0) (λj=>cur.getD j undef) hcell
    simp only[F5,k2]
    simpa[asAddr,Instr.loadAt,Instr.sureAddr] using hrun
  have hHid:y.H id=some (.box g e [r]):=by rw[hH];exact h2
  have h0:=he c
  rw[h1] at h0
  obtain⟨b,cur,k1,k2,k3,k4,k5⟩:=IQ hok hHid h0
  obtain⟨u,h6,_,h7⟩:=k5 0 r rfl
  refine⟨u,h7,?_⟩
  obtain⟨d,i,e1,e2,_,_⟩:=ht
  have hcell:=(cell_of_row _ b 0 cur e _ k3).trans h6
  simp only[F5,k2]
  simp[asAddr,loadVar,IV e1,e2,hcell]
theorem MH.get{j:List ResultVar}{s}{l:List AV}(h:MH P j s l):j.length=l.length/\∀(i:Nat) (x:ResultVar),j[i]?=some x->∃r,l[i]?=some r/\IR P x s r:=by
 induction j generalizing l with
 | nil=>cases l with | nil=>exact⟨rfl,by simp⟩ | cons _ _=>exact h.elim
 | cons x j q=>
  cases l with
  | nil=>exact h.elim
  | cons r l=>
   obtain⟨w,A⟩:=q h.2
   refine⟨by simp[w],λi y m=>?_⟩
   cases i with
   | zero=>simp at m;subst m;exact⟨r,rfl,h.1⟩
   | succ i=>simpa using A i y (by simpa using m)
theorem dL{fn:Func}{y:Cx}{s:St}{a:Act}{r}(I:y.ok)(hH:y.H=hget s.h)(he:Bv y s.e a)(q:KU P fn.results.toList s r):∃u,(results fn a.tmps).run P y.w=.ok u y.w/\AP y r u:=by
 by_cases A:fn.results.toList.length=1
 .obtain⟨x0,J⟩:=List.length_eq_one_iff.1 A
  rw[J] at q
  obtain⟨u,hr,B⟩:=IR.rep (P:=P) I hH he (show IR P x0 s r from q)
  have m:=Sx (P:=P) (fn:=fn) (tmps:=a.tmps) (w:=y.w) [u] (λi x V=>by
   have j:fn.results.toList[i]?=some x:=by simpa using V
   rw[J] at j
   cases i with
   | zero=>simp at j;subst j;exact⟨u,rfl,B⟩
   | succ i=>simp at j) (by rw[<- xq,A];rfl)
  exact⟨_,m,hr⟩
 .have a0:∃l,r=.tup l/\MH P fn.results.toList s l:=by
   revert q A
   generalize fn.results.toList=rs
   intro q A
   match rs,A,q with
   | [],_,q=>exact q
   | [_],A,_=>exact absurd rfl A
   | _::_::_,_,q=>exact q
  obtain⟨l,rfl,M⟩:=a0
  obtain⟨hl,hg⟩:=M.get
  have C:∀i,i<l.length->∃u,∀x r,fn.results.toList[i]?=some x->l[i]?=some r->AP y r u/\(F5 a.tmps x).run P y.w=.ok u y.w:=by
   intro i V
   have O:i<fn.results.toList.length:=by omega
   obtain⟨r,X,h3⟩:=hg i _ (wz O)
   obtain⟨u,h4,h5⟩:=IR.rep I hH he h3
   refine⟨u,λx r' T Z=>?_⟩
   rw[wz O] at T;cases T
   rw[X] at Z;cases Z
   exact⟨h4,h5⟩
  obtain⟨F,E,U⟩:=UH l.length C
  have hsz:F.length=fn.results.size:=by rw[E,<- hl,xq]
  have m:=Sx (P:=P) (fn:=fn) (tmps:=a.tmps) (w:=y.w) F (λi x V=>by
   have j:fn.results.toList[i]?=some x:=by simpa using V
   obtain⟨r,X,_⟩:=hg i x j
   have w:i<F.length:=by rw[E];exact(wx.1 X).1
   exact⟨F[i],wz w,(U i _ (wz w) x r j X).2⟩) hsz
  have a1:¬ F.toArray.size=1:=by
   rw[zc,hsz]
   exact λe=>A (by rw[xq];exact e)
  rw[WAM a1] at m
  refine⟨_,m,.tup (by rw[zc,E]) λi c u T Z=>?_⟩
  have k3:F[i]?=some u:=by simpa using Z
  have w:i<fn.results.toList.length:=by rw[hl];exact(wx.1 T).1
  exact(U i u k3 _ c (wz w) T).1
theorem BI.mk {f} {fn : Func} {code} {args : List AV} {k N} {hc} {Post} (hf : P.funcs[f]? = some fn) (hb : fn.body = some code) (E : (fn.name == "runtime.NumGoroutine") = false) (hN : fn.ntmps = N)
 (a1:args.length<=N) (hw:∀n0, AW P code (RH P fn.results.toList k Post) ⟨Da 0 args, hc, n0, N⟩):BI P f k args hc Post := by
  refine⟨⟨fn, hf, by rw[hb];rfl, E⟩, λx C I hH w => ?_⟩
  have a0:C.size=args.length := by simpa using w.1
  have J:D9 x ⟨Da 0 args, hc, x.n, N⟩ { tmps := C++Array.replicate (fn.ntmps - C.size) undef, defers := [] } x.w := by
    refine⟨_, rfl, by simp;omega, x, rfl, .refl x, I, hH, rfl, λt => ?_⟩
    rcases Q9 args 0 t with X | ⟨j, a, X, Z, h3⟩
    · rw[X];exact .any _
    · rw[h3]
      have hj:j<C.size := by rw[a0];exact(wx.1 Z).1
      have ht:t=j := by omega
      subst ht
      have:(C++Array.replicate (fn.ntmps - C.size) undef).getD t undef=C[t] := by
        simp[Array.getD, hj]
        omega
      rw[this]
      exact w.2 t a C[t] Z (by simp[hj])
  have M:∀ {e:Exit} {a:Act} {y:Cx} {s:St}, (∃r q, KU P fn.results.toList s r/\LX q s.h/\r.canon k=true/\I3 k q=true/\Post r q)->x.le y->y.ok->y.H=hget s.h->y.n=s.n->Bv y s.e a ->
      ∃u, (results fn a.tmps).run P y.w=.ok u y.w/\∃u' O r q, Ending.returned u=.returned u'/\O.w=y.w/\x.le O/\O.ok/\O.H=hget q/\AP O r u'/\r.canon k=true/\I3 k q=true/\Post r q := by
    intro e a y s ⟨r, q, X, Z, h3, h4, h5⟩ B m A _ he
    obtain⟨u, T, hu⟩ := dL (P := P) m A he X
    have U:∀id o, hget q id=some o->y.H id=some o := by
      intro id o ho
      rw[A]
      rcases Z.get id with e1 | e1
      · rw[e1] at ho;cases ho
      · rw[<- e1];exact ho
    obtain⟨k1, k2⟩ := Qt m (hget q) U y.n (wy _)
    exact⟨u, T, u, { y with H := hget q, n := y.n }, r, q, rfl, rfl, B.trans k1, k2, rfl, hu.mono k1, h3, h4, h5⟩
  refine TW hf hb I J (hw x.n) λe s a y F B m A V he => ?_
  cases e with
  | normal => exact⟨.inl rfl, M (e := .normal) F B m A V he⟩
  | ret => exact⟨.inr rfl, M (e := .ret) F B m A V he⟩
  | exit id => exact F.elim
  | goto l => exact F.elim
  | panic ch => exact F.elim
  | outgrown => exact F.elim
end
section
variable{P:Program}{ops:Array Oper}{rest:List Oper}{s:St}{K:St->Prop}{o:Oper}
def AT(P:Program)(ops:Array Oper)(rest:List Oper)(s:St)(K:St->Prop):Prop:=
 ∀(y:Cx) (a:Act),y.ok->y.H=hget s.h->y.n=s.n->a.tmps.size=s.N->Bv y s.e a->∀m:Act->Prop,
  (∀j l,K j->j.h=s.h->j.n=s.n->j.N=s.N->l.tmps.size=s.N->l.defers=a.defers->Bv y j.e l->m l)->wpStill P ops y.w m rest a
theorem AT.nil(h:K s):AT P ops [] s K:=λ_ a _ _ _ j l _ m=>wpStill_nil (m s a h rfl rfl rfl j rfl l)
theorem AT.step{d}{v}(hg:o.guard=none)(hd:o.dst=some d)(B:Nat.blt d s.N=true)(C:AS P true o s.e s.h v)
 (E:AT P ops rest { e := (d, v)::s.e, h := s.h, n := s.n, N := s.N } K):AT P ops (o::rest) s K := by
  intro y a j w F hsz A I J
  obtain⟨u, l, M⟩ := C rfl y a j w A
  have m:d<a.tmps.size := by rw[hsz];exact B8 B
  refine wpStill_step λK' q => ?_
  rw[ww (by simp[Region.wanted, hg])]
  unfold Oper.still
  rw[l y.w λ_ _ => rfl, Oper.stillUpon_value]
  refine q _ ?_
  rw[hd]
  exact E y (a.put (some d) u) j w F (by simpa[Act.put] using hsz) (A.put m M) I λO T U V X Z k5 k6 k7 => J O T U V X Z k5 k6 k7
theorem Qr{y:Cx}(j:y.ok):y.le { y with w:={ y.w with drawn:=y.w.drawn+1 } } /\ ({ y with w:={ y.w with drawn:=y.w.drawn+1 } } : Cx).ok:=by
 have l:y.le { y with w:={ y.w with drawn:=y.w.drawn+1 } }:=⟨wy _,rfl,rfl,rfl,λ_ _=>rfl,λ_ h=>h,rfl,wy _,λ_ o h _=>⟨o,h,rfl,rfl,rfl⟩,λid o h m _ _=>⟨o,h,m,rfl,rfl,rfl,rfl⟩⟩
 refine⟨l,j.S_lt,j.F_lt,j.SF,λid o q=>?_,j.own,j.inj,j.ext,j.tabs.le l⟩
 obtain⟨w,A⟩:=j.obj id o q
 exact⟨w,A.mono l (λ_ _ _=>rfl) λ_ _ _ _=>rfl⟩
theorem iB{id}{l F I:List Oper}{Q} n(V:P.follows .mixedOrders=true)(hB:Region.lexTailB .any l.toArray n=true)(X:l.take n=F)(Z:l.drop n=I)
 (h:AT P l.toArray F s (λJ => AN P l.toArray I J (Q .normal))):AW P (.region id l.toArray true) Q s := by
  intro z0 m c0 a w ⟨_, j, hsz, y, q, A, B, M, O, he⟩
  subst q
  subst X;subst Z
  obtain⟨T, U⟩ := Qr B
  refine nO KQ n V hB m ?_
  refine h _ a U M O hsz (he.mono T) _ λJ a' k1 k2 k3 k4 k5 k6 k7 => ?_
  exact k1 c0 a' _ ⟨_, k6.trans j, by rw[k5, k4], _, rfl, A.trans T, U, by rw[k2];exact M, by rw[k3];exact O, k7⟩ _ λC a0 a1 k E => ⟨by simp, C, k, E⟩
end
theorem T3{s:St} l j id e sz{g}{eb}{cs:List AV}(h0:0<sz)(hb:hget s.h l=some (.box g eb cs))(hj:cs[j]?=some (.cst (.slice none 0 0)))(M:id≠l) :
  AZ s ⟨s.e,(l,some (.box g eb (cs.set j (.own id s.n))))::(id,some (.arr s.n e sz []))::s.h,s.n+1,s.N⟩:=by
 intro c0 a w ⟨_,O,hsz,y,a2,T,a6,hH,I,U⟩
 have q:=ES a6 id (.arr s.n e sz []) y.w none (y.n+1) (wy _) rfl rfl rfl (λ_ _ _=>rfl) (λb k hb=>by cases hb) (by omega) (by simp[AU.gen,I]) (λhg=>absurd hg (by simp[AU.gen,I]))
  (λT=>⟨h0,by simp,.slice none 0 0,[],⟨rfl,rfl⟩,World.ownsRow_nil _ _ _ _,by simp⟩)
 generalize E:({ y with H:=λi=>if id=i then some (.arr s.n e sz []) else y.H i,β:=λi=>if id=i then none else y.β i,K:=λi=>if id=i then λ_=>none else y.K i,n:=y.n+1 } : Cx)=A at q
 have B:A.H=hget ((id,some (.arr s.n e sz []))::s.h):=by rw[<- E];simp only[hH];exact Ck _ _ _
 have m:A.H l=some (.box g eb cs):=by rw[B,BG,wv M];exact hb
 have BR:A.H id=some (.arr s.n e sz []):=by rw[B,BG,ww rfl]
 have V:A.β id=none:=by rw[<- E];simp
 have F:A.n=s.n+1:=by rw[<- E];simp[I]
 have X:A.w=y.w:=by rw[<- E]
 obtain⟨a7,J⟩:=q.2.obj l _ m
 have C:=ES q.2 l (.box g eb (cs.set j (.own id s.n))) A.w (A.β l) A.n (wy _) rfl rfl rfl (λ_ _ _=>rfl)
  (λb k Z=>⟨(q.2.own l _ b k m Z).1,.inr ⟨_,k,m,Z⟩⟩) (wy _) a7 (λ_=>⟨_,m,rfl,by simp[AU.shape],rfl⟩)
  (λa0=>by
   obtain⟨b,a8,k1,k2,k3,k4⟩:=J
   refine⟨b,a8,k1,k2,by rw[k3];simp,λi c hi=>?_⟩
   by_cases a1:j=i
   .subst a1
    obtain⟨u,e1,e2,e3⟩:=k4 j _ hj
    have aa:j<cs.length:=(wx.1 hj).1
    rw[yw aa] at hi
    cases hi
    cases e3
    refine⟨_,e1,e2,.own (by rw[F];omega) e2 λo ho _=>?_⟩
    simp only[wv (zu M)] at ho ⊢
    rw[BR] at ho;cases ho
    rw[V]
    exact⟨rfl,rfl⟩
   .rw[yr a1] at hi
    obtain⟨u,e1,e2,e3⟩:=k4 i c hi
    exact⟨u,e1,e2,e3.mono a0⟩)
 refine⟨_,O,hsz,_,by show A.w=w;rw[X];exact a2,(T.trans q.1).trans C.1,C.2,?_,by show A.n=s.n+1;exact F,λt=>((U t).mono q.1).mono C.1⟩
 simp only[B]
 exact Ck _ _ _
def HT(c:Bool)(R:Aa):List Operand->List AV->Prop
 | [],[]=>True
 | x::xs,b::j=>Ev c R x b/\HT c R xs j
 | _,_=>False
theorem HT.rep{c}{R}{x}{a:Act}(hc:c=true)(w:Bv x R a){xs:List Operand}{bs:List AV}(h:HT c R xs bs):bs.length=xs.length/\∀(i:Nat) (b:AV) (u:Value),bs[i]?=some b->(xs.map a.eval)[i]?=some u->AP x b u:=by
 induction xs generalizing bs with
 | nil=>cases bs with | nil=>exact⟨rfl,by simp⟩ | cons _ _=>exact h.elim
 | cons y l A=>
  cases bs with
  | nil=>exact h.elim
  | cons b m=>
   obtain⟨B,C⟩:=A h.2
   refine⟨by simp[B],λi E u j q=>?_⟩
   cases i with
   | zero=>simp at j q;subst j;subst q;exact h.1.rep w hc
   | succ i=>exact C i E u (by simpa using j) (by simpa using q)
theorem Kz{P}{c}{o:Oper}{R}{h}{f}{xs:Array Operand}{bs}(j:o.op=.makeFunc (.func f) #[] xs)(l:HT c R xs.toList bs):AS P c o R h (.fn f bs):=by
 intro m y a _ _ q
 obtain⟨w,A⟩:=l.rep m q
 refine⟨.func (.func f) #[] (xs.map a.eval),λE _=>?_,.fn (by simpa using w) λi b u B C=>A i b u B (by simpa using C)⟩
 unfold execOp
 rw[j]
 simp[show ∀W,(Instr.makeFunc (Fn.func f) #[] (xs.map a.eval)).run P W=.ok (.func (.func f) #[] (xs.map a.eval)) W from λ_=>rfl]
section
variable{P:Program}{ops:Array Oper}{rest:List Oper}{s:St}{K:St->Prop}{o:Oper}
inductive Cg(R:Aa)(ops:Array Oper)(o:Oper):Bool->Prop
 | one {j dj:Nat} {want b:Bool} (hg:o.guard=some (j,want)) (hj:(ops[j]?).bind (·.dst)=some dj) (hb:BE R (.tmp dj)=.r (.bool b)):Cg R ops o (b==want)
 | two {j dj:Nat} {want b c1:Bool} (hg:o.guard=some (j,want)) (hj:(ops[j]?).bind (·.dst)=some dj) (hb:BE R (.tmp dj)=.whn c1 (.r (.bool b))):Cg R ops o (c1&&(b==want))
theorem lS{a:Act}{j m}{l}(hg:o.guard=some (j,l))(w:(ops[j]?).bind (·.dst)=some m)(q:a.tmps.getD m undef=undef):Region.wanted o (yielded ops a.tmps)=false:=by
 simp only[Region.wanted,hg,yielded]
 rw[w]
 simp only[yJ]
 by_cases hd:m<a.tmps.size
 .have:a.tmps[m]?=some undef:=by
   rw[xe hd]
   simpa[Array.getD,hd] using q
  rw[this];rfl
 .rw[yx (Nat.not_lt.1 hd)];rfl
theorem Cg.wanted{c}{y}{a:Act}(F:Cg s.e ops o c)(B:Bv y s.e a):Region.wanted o (yielded ops a.tmps)=c:=by
 cases F with
 | @one j l q b hg w A=>
  have m:=B l
  rw[show get s.e l=.r (.bool b) from A] at m
  exact Y3 hg w (G2 m)
 | @two j l q b C hg w A=>
  have m:=B l
  rw[show get s.e l=.whn C (.r (.bool b)) from A] at m
  generalize E:a.tmps.getD l undef=v at m
  cases m with
  | whn I J=>
   cases C with
   | true=>rw[Y3 hg w (E.trans (G2 (I rfl)))];rfl
   | false=>rw[lS hg w (E.trans (J rfl))];rfl
theorem AN.stepW{d}{c}{v}(hG:Cg s.e ops o c)(hd:o.dst=some d)(hN:Nat.blt d s.N=true)(hs:Az P c o s.e s.h s.n v s.h s.n)
 (T:AN P ops rest { e := (d, .whn c v)::s.e, h := s.h, n := s.n, N := s.N } K):AN P ops (o::rest) s K := by
  intro U a w ⟨_, j, hsz, y, I, l, m, V, X, E⟩ Q Z
  subst I
  have q:d<a.tmps.size := by rw[hsz];exact B8 hN
  refine wpList_step λK' A => ?_
  rw[hG.wanted E]
  split
  · rename_i F
    refine hs F y a m V X E K' Q λu z B C J M O => ?_
    refine A _ _ ?_
    rw[hd]
    exact T U (a.put (some d) u) z.w ⟨_, j, by simpa[Act.put] using hsz, z, rfl, l.trans B, C, J, M, (E.mono B).put q (.whn (λ_ => O) (λh => by rw[F] at h;cases h))⟩ Q Z
  · rename_i F
    refine A _ _ ?_
    rw[hd]
    exact T U (a.put (some d) undef) y.w ⟨_, j, by simpa[Act.put] using hsz, y, rfl, l, m, V, X, E.put q (.whn (λh => absurd h F) (λ_ => rfl))⟩ Q Z
theorem AQ.stepW{d}{c}{v}(hG:Cg s.e ops o c)(hd:o.dst=some d)(hN:Nat.blt d s.N=true)(hs:AS P c o s.e s.h v)
 (Z:AQ P ops rest { e := (d, .whn c v)::s.e, h := s.h, n := s.n, N := s.N } K):AQ P ops (o::rest) s K := by
  intro y a j B hn hsz w Qa hQ
  have l:d<a.tmps.size := by rw[hsz];exact B8 hN
  refine wpQuiet_step λK' m => ?_
  rw[hG.wanted w]
  split
  · rename_i A
    obtain⟨u, q, hv⟩ := hs A y a j B w
    refine⟨u, λw2 C => ?_, m _ ?_⟩
    · obtain⟨z, hz, _, _, _, _, _, _, E⟩ := C
      unfold Oper.quietAt
      rw[q w2 E]
      exact⟨rfl, rfl⟩
    · rw[hd]
      exact Z y (a.put (some d) u) j B hn (by simpa[Act.put] using hsz) (w.put l (.whn (λ_ => hv) (λh => by rw[A] at h;cases h))) Qa λF I J M O T U V X => hQ F I J M O T U V X
  · rename_i A
    refine m _ ?_
    rw[hd]
    exact Z y (a.put (some d) undef) j B hn (by simpa[Act.put] using hsz) (w.put l (.whn (λh => absurd h A) (λ_ => rfl))) Qa λF I J M O T U V X => hQ F I J M O T U V X
theorem KR{d}{c}{f}{fo}{xs:Array Operand}{C}{caps bs}{r}{v}(hG:Cg s.e ops o c)(hd:o.dst=some d)(hN:Nat.blt d s.N=true)
 (ho:o.op=.call { callee := .value fo, args := xs, argTypes := C }) (E:Ev c s.e fo (.fn f caps)) (j:Dc caps=true) (hx:HS c s.e s.h xs.toList bs) (hr:c=true->AY P f (bs++caps) r)
 (m:Qh r=some v) (hk:AQ P ops rest { e := (d, .whn c r)::s.e, h := s.h, n := s.n, N := s.N } K):AQ P ops (o::rest) s K := by
  intro y a l F hn hsz A Qa hQ
  have q:d<a.tmps.size := by rw[hsz];exact B8 hN
  refine wpQuiet_step λK' w => ?_
  rw[hG.wanted A]
  split
  · rename_i B
    refine⟨v, AQ.call ho E j hx hr m B l F A, w _ ?_⟩
    rw[hd]
    exact hk y (a.put (some d) v) l F hn (by simpa[Act.put] using hsz) (A.put q (.whn (λ_ => eO m) (λh => by rw[B] at h;cases h))) Qa λI J M O T U V X Z => hQ I J M O T U V X Z
  · rename_i B
    refine w _ ?_
    rw[hd]
    exact hk y (a.put (some d) undef) l F hn (by simpa[Act.put] using hsz) (A.put q (.whn (λh => absurd h B) (λ_ => rfl))) Qa λI J M O T U V X Z => hQ I J M O T U V X Z
theorem AT.stepW{d}{c}{v}(hG:Cg s.e ops o c)(hd:o.dst=some d)(hN:Nat.blt d s.N=true)(hs:AS P c o s.e s.h v)
 (V:AT P ops rest { e := (d, .whn c v)::s.e, h := s.h, n := s.n, N := s.N } K):AT P ops (o::rest) s K := by
  intro y a j B X hsz w Z hQ
  have l:d<a.tmps.size := by rw[hsz];exact B8 hN
  refine wpStill_step λK' m => ?_
  rw[hG.wanted w]
  split
  · rename_i A
    obtain⟨u, q, hv⟩ := hs A y a j B w
    unfold Oper.still
    rw[q y.w λ_ _ => rfl, Oper.stillUpon_value]
    refine m _ ?_
    rw[hd]
    exact V y (a.put (some d) u) j B X (by simpa[Act.put] using hsz) (w.put l (.whn (λ_ => hv) (λh => by rw[A] at h;cases h))) Z λC E F I J M O T U => hQ C E F I J M O T U
  · rename_i A
    refine m _ ?_
    rw[hd]
    exact V y (a.put (some d) undef) j B X (by simpa[Act.put] using hsz) (w.put l (.whn (λh => absurd h A) (λ_ => rfl))) Z λC E F I J M O T U => hQ C E F I J M O T U
theorem Ns{d}{c}{v}{h'}{n'}(O:Cg s.e ops o c)(hc:c=true)(hd:o.dst=some d)
 (T:Nat.blt d s.N=true) (U:Az P true o s.e s.h s.n v h' n') (V:AN P ops rest { e := (d, v)::s.e, h := h', n := n', N := s.N } K):AN P ops (o::rest) s K := by
  intro X a w ⟨_, j, hsz, y, q, A, B, Z, hn, C⟩ Q hQ
  subst q
  have E:d<a.tmps.size := by rw[hsz];exact B8 T
  refine wpList_step λK' F => ?_
  rw[O.wanted C, ww hc]
  refine U rfl y a B Z hn C K' Q λu z l m I J M => ?_
  refine F _ _ ?_
  rw[hd]
  exact V X (a.put (some d) u) z.w ⟨_, j, by simpa[Act.put] using hsz, z, rfl, A.trans l, m, I, J, (C.mono l).put E M⟩ Q hQ
end
inductive A3(β τ:Type) where
 | nrm (b:β)
 | ext (t:τ)
def AO{α:Type}(l:List α)(z:Int):Option α:=if 0<=z then l[z.toNat]? else none
def gd{α:Type}[Inhabited α](c:Bool)(m:Option α):Option α:=if c then m else some default
def AX(k:IntKind)(z:Int):Option Int:=if k.wrap z=z then some z else none
def Py(k:IntKind)(a b:Int):Option Int:=if b=0 then none else AX k (a.tdiv b)
def QT(a b:Int):Option Int:=if b=0 then none else some (a.tmod b)
def app{α:Type}(j:Nat)(xs ys:List α):Option (List α):=if(xs.length+ys.length) * j<=140737488355328/\xs.length+ys.length<=9223372036854775807 then some (xs++ys) else none
def mk{α:Type}(j:Nat)(n:Int)(z:α):Option (List α):=if 0<=n/\n * j<=281474976710656/\n<=9223372036854775807 then some (List.replicate n.toNat z) else none
def Dl{α:Type}(l:List α)(j m:Int):Option (List α):=if 0<=j/\j<=m/\m<=l.length then some ((l.drop j.toNat).take (m.toNat-j.toNat)) else none
def Gf(a b:List UInt8):Option (List UInt8):=if a.length+b.length<=9223372036854775807 then some (a++b) else none
def Er{σ ρ:Type}(f:σ->Option (σ ⊕ ρ)):Nat->σ->Option ρ
 | 0,_=>none
 | n+1,s=>match f s with
  | some (.inl j)=>Er f n j
  | some (.inr r)=>some r
  | none=>none
open Classical in
noncomputable def iter{σ ρ:Type}(f:σ->Option (σ ⊕ ρ))(s:σ):Option ρ:=if h:∃n r,Er f n s=some r then Er f h.choose s else none
def AB{j α:Type}(m:Option (j))(f:j->Option α):Option α:=match m with | some l=>f l | none=>none
def A7{j α:Type}(m:Option (A3 (j) α))(f:j->Option α):Option α:=match m with | some (.nrm l)=>f l | some (.ext t)=>some t | none=>none
def B3{j l α:Type}(m:Option (j × l))(f:j->l->Option α):Option α:=match m with | some (q,w)=>f q w | none=>none
def F9{j l α:Type}(m:Option (A3 (j × l) α))(f:j->l->Option α):Option α:=match m with | some (.nrm (q,w))=>f q w | some (.ext t)=>some t | none=>none
def EQ{j l q α:Type}(m:Option (j × l × q))(f:j->l->q->Option α):Option α:=match m with | some (w,A,B)=>f w A B | none=>none
def YT{j l q α:Type}(m:Option (A3 (j × l × q) α))(f:j->l->q->Option α):Option α:=match m with | some (.nrm (w,A,B))=>f w A B | some (.ext t)=>some t | none=>none
def jk{j l q a3 α:Type}(m:Option (j × l × q × a3))(f:j->l->q->a3->Option α):Option α:=match m with | some (w,A,B,C)=>f w A B C | none=>none
theorem jh{l α:Type}{m:Option (l)}{f:l->Option α}{r:α}(h:AB m f=some r):∃p,m=some p/\∀j,p=j->f j=some r:=by
 cases m with
 | none=>cases h
 | some p=>exact⟨p,rfl,λj e=>by subst e;exact h⟩
theorem nr{l α:Type}{m:Option (A3 (l) α)}{f:l->Option α}{r:α}(h:A7 m f=some r):∃o,m=some o/\(∀j,o=.nrm j->f j=some r)/\∀t,o=.ext t->some t=some r:=by
 cases m with
 | none=>cases h
 | some o=>cases o with
  | nrm p=>exact⟨_,rfl,(λj e=>by cases e;exact h),(λ_ e=>by cases e)⟩
  | ext t=>exact⟨_,rfl,(λj e=>by cases e),(λ_ e=>by cases e;exact h)⟩
theorem jz{j l α:Type}{m:Option (j × l)}{f:j->l->Option α}{r:α}(h:B3 m f=some r):∃q w,m=some (q,w)/\f q w=some r:=by
 cases m with
 | none=>cases h
 | some p=>exact⟨_,_,rfl,h⟩
theorem kz{q w α:Type}{m:Option (q × w)}{f:q->w->Option α}{r:α}(h:B3 m f=some r):∃p,m=some p/\∀j l,p=(j,l)->f j l=some r:=by
 cases m with
 | none=>cases h
 | some p=>exact⟨p,rfl,λj l e=>by subst e;exact h⟩
theorem kc{q w α:Type}{m:Option (A3 (q × w) α)}{f:q->w->Option α}{r:α}(h:F9 m f=some r):∃o,m=some o/\(∀j l,o=.nrm (j,l)->f j l=some r)/\∀t,o=.ext t->some t=some r:=by
 cases m with
 | none=>cases h
 | some o=>cases o with
  | nrm p=>exact⟨_,rfl,(λj l e=>by cases e;exact h),(λ_ e=>by cases e)⟩
  | ext t=>exact⟨_,rfl,(λj l e=>by cases e),(λ_ e=>by cases e;exact h)⟩
theorem jA{w A B α:Type}{m:Option (w × A × B)}{f:w->A->B->Option α}{r:α}(h:EQ m f=some r):∃p,m=some p/\∀j l q,p=(j,l,q)->f j l q=some r:=by
 cases m with
 | none=>cases h
 | some p=>exact⟨p,rfl,λj l q e=>by subst e;exact h⟩
theorem D2{α:Type}{b:Bool}{x y z:α}(hc:b=true)(h:(if b=true then x else y)=z):x=z:=by rw[ww hc] at h;exact h
theorem Dw{α:Type}{b:Bool}{x y z:α}(hc:b=false)(h:(if b=true then x else y)=z):y=z:=by rw[wv (by rw[hc];decide)] at h;exact h
theorem Af{α:Type}[Inhabited α]{c:Bool}{m:Option α}{x:α}(h:gd c m=some x):c=true->m=some x:=by intro j;subst j;exact h
theorem Pu{k:IntKind}{z x}(h:AX k z=some x):k.wrap z=z/\x=z:=by
 unfold AX at h;split at h
 .exact⟨‹_›,(xh h).symm⟩
 .cases h
theorem CX{z}(j : -9223372036854775808<=z)(l:z<=9223372036854775807):AX .i64 z=some z:=ww (nY j l)
section
variable{σ ρ:Type}{f:σ->Option (σ ⊕ ρ)}
theorem cV{n}{s}{r}(h:Er f n s=some r) k:Er f (n+k) s=some r:=by
 induction n generalizing s with
 | zero=>cases h
 | succ n j=>
  rw[show n+1+k=(n+k)+1 by omega]
  unfold Er at h ⊢
  split at h
  .exact j h
  .exact h
  .cases h
theorem km{n m}{s}{r q}(h:Er f n s=some r)(k:Er f m s=some q):r=q:=by
 have l:=cV h m
 have j:=cV k n
 rw[Nat.add_comm] at j
 rw[l] at j
 exact xh j
theorem M5{s}{r} : iter f s=some r↔∃n,Er f n s=some r:=by
 unfold iter
 constructor
 .intro h;split at h
  .exact⟨_,h⟩
  .cases h
 .rintro⟨n,h⟩
  have j:∃n r,Er f n s=some r:=⟨n,r,h⟩
  rw[zU j]
  obtain⟨q,l⟩:=j.choose_spec
  rw[l,km l h]
theorem Bj{s}{r}(h:f s=some (.inr r)):iter f s=some r:=M5.2 ⟨1,by unfold Er;rw[h]⟩
theorem CF{s s'}(h:f s=some (.inl s')):iter f s=iter f s':=by
 apply Option.ext
 intro r
 rw[M5,M5]
 constructor
 .rintro⟨n,j⟩
  cases n with
  | zero=>cases j
  | succ n=>unfold Er at j;rw[h] at j;exact⟨n,j⟩
 .rintro⟨n,j⟩;exact⟨n+1,by unfold Er;rw[h];exact j⟩
theorem AW.iter{P}{Q}{s}{x}{F}{o}(R:σ->St->Prop)(hit:Al.iter f F=some o)(U:∃T, AZ s T/\R F T)
 (round:∀a A v, R a A->f a=some v->(∀q, v=.inr q->o=q)->AW P x (Es (λC => ∃E, v=.inl E/\∃j, AZ C j/\R E j) Q) A):AW P (.loop x) Q s := by
  obtain⟨n, V⟩ := M5.1 hit
  obtain⟨X, I, J⟩ := U
  refine AW.loop (λm A => ∃a, R a A/\Er f m a=some o) n ⟨X, I, F, J, V⟩ ?_
  rintro m A ⟨a, Z, w⟩
  cases m with
  | zero => cases w
  | succ m =>
    cases M:f a with
    | none => unfold Er at w;rw[M] at w;cases w
    | some v =>
      unfold Er at w
      rw[M] at w
      refine(round a A v Z M ?_).mono λe C B => ?_
      · rintro q rfl;exact(xh w).symm
      · cases e with
        | normal =>
          obtain⟨E, rfl, j, hw, O⟩ := B
          exact⟨m, ye m, j, hw, E, O, w⟩
        | exit i => exact B
        | goto l => exact B
        | ret => exact B
        | panic ch => exact B
        | outgrown => exact B
end
@[reducible] def Ai(k:IntKind)(n:Int):List RV:=[.int k n]
theorem EZ{α:Type}{l:List α}{z:Int}{a}(h:AO l z=some a):0<=z/\l[z.toNat]?=some a/\z<l.length:=by
 unfold AO at h
 split at h
 .have:=(wx.1 h).1
  exact⟨‹_›,h,by omega⟩
 .cases h
theorem Tn{α:Type}{l w:List α}{j m:Int}(h:Dl l j m=some w):0<=j/\j<=m/\m<=l.length/\w=(l.drop j.toNat).take (m.toNat-j.toNat):=by
 unfold Dl at h
 split at h
 .rename_i q;exact⟨q.1,q.2.1,q.2.2,(xh h).symm⟩
 .cases h
section
variable{P:Program}{c:Bool}{o:Oper}{R:Aa}{h:AL}{n:Nat}{α:Type}{f:α->List RV}
theorem BN{t e}{sz}{x y}{l:List α}{k}{z}{a}(w:o.op=.indexAddr t x y)(A:DU P t e sz)(B:Ev c R x (.r (.sl (l.map f))))(C:Ev c R y (.r (.int k z)))
 (j:∀a, (f a).length=sz) (q:c=true->AO l z=some a):AS P c o R h (.rop (f a) 0) :=
  eU w A B C (λm => (EZ (q m)).1) (λm => by rw[xJ, (EZ (q m)).2.1];rfl) (j a)
theorem EE{t e e'}{sz}{x y}{id g}{l:List α}{k}{z:Int}{a}(q:o.op=.indexAddr t x y)(w:DU P t e sz)(A:Ev c R x (.own id g))
 (B:hget h id=some (.arr g e' sz (l.map f))) (C:Ev c R y (.r (.int k z))) (m:c=true->AO l z=some a):AS P c o R h (.ptr id g z.toNat 0) :=
  fS q w A B C (λj => (EZ (m j)).1) (λj => by rw[xk];exact(EZ (m j)).2.2)
theorem KO{t}{x}{id g k}{e}{sz}{l:List α}{z:Int}{a}{d}(j:o.op=.load t x)(m:BH P t)(q:Ev c R x (.ptr id g z.toNat k))
 (w:c=true->hget h id=some (.arr g e sz (l.map f))) (A:c=true->AO l z=some a) (hd:(f a)[k]?=some d):AS P c o R h (.r d) :=
  gU j m q w (row := f a) (λB => by rw[xJ, (EZ (A B)).2.1];rfl) (λ_ => hd)
theorem VP{t}{x}{id g}{e}{sz}{l:List α}{z:Int}{a}{cs}(j:o.op=.load t x)(m:BW P t sz)(q:Ev c R x (.ptr id g z.toNat 0))
 (w:c=true->hget h id=some (.arr g e sz (l.map f))) (A:c=true->AO l z=some a) (hd:(f a).map AV.r=cs):AS P c o R h (.agg cs) := by
  subst hd
  exact fM j m q w (row := f a) (λB => by rw[xJ, (EZ (A B)).2.1];rfl)
theorem Bm{t}{x}{row}{k}{d}(j:o.op=.load t x)(l:BH P t)(m:Ev c R x (.rop row k))(hd:row[k]?=some d):AS P c o R h (.r d):=YE j l m λ_=>hd
theorem EB{t}{x}{row:List RV}{sz}{cs}(l:o.op=.load t x)(m:BW P t sz)(q:Ev c R x (.rop row 0))(hd:row.length=sz)(j:row.map AV.r=cs):AS P c o R h (.agg cs):=by
 subst j;exact bO l m q hd
theorem Ab{t}{x}{id g k}{e}{cs}{a}(j:o.op=.load t x)(l:BH P t)(m:Ev c R x (.ptr id g 0 k))(q:hget h id=some (.box g e cs))(w:cs[k]?=some a):AS P c o R h a:=
 ZU j l m (λ_=>q) (λ_=>w)
theorem EW{t}{x}{id g}{e}{sz}{cs:List AV}(j:o.op=.load t x)(l:BW P t sz)(m:Ev c R x (.ptr id g 0 0))(q:hget h id=some (.box g e cs))(w:cs.length=sz):AS P c o R h (.agg cs):=
 mW j l m (λ_=>q) w
theorem Ce{t}{x y}{s}{k}{z}{l:UInt8}(q:o.op=.index t x y)(w:P.underlying t=some .string)(A:Ev c R x (.r (.str s)))
 (B:Ev c R y (.r (.int k z))) (m:c=true->AO s z=some l):AS P c o R h (.r (.int .u8 l.toNat)) :=
  Xj q w A B (λj => (EZ (m j)).1) (λj => (EZ (m j)).2.1)
theorem Jn{t l}{x y}{k}{a b r}(m:o.op=.binOp .add t x y l)(q:Ev c R x (.r (.int k a)))(w:Ev c R y (.r (.int k b)))(A:c=true->AX k (a+b)=some r):AS P c o R h (.r (.int k r)):=by
 intro j;obtain⟨B,rfl⟩:=Pu (A j);exact iO m q w B j
theorem CJ{t l}{x y}{k}{a b r}(m:o.op=.binOp .sub t x y l)(q:Ev c R x (.r (.int k a)))(w:Ev c R y (.r (.int k b)))(A:c=true->AX k (a-b)=some r):AS P c o R h (.r (.int k r)):=by
 intro j;obtain⟨B,rfl⟩:=Pu (A j);exact ll m q w B j
theorem ly{t l}{x y}{k}{a b r}(m:o.op=.binOp .mul t x y l)(q:Ev c R x (.r (.int k a)))(w:Ev c R y (.r (.int k b)))(A:c=true->AX k (a * b)=some r):AS P c o R h (.r (.int k r)):=by
 intro j;obtain⟨B,rfl⟩:=Pu (A j);exact dM m q w B j
theorem uI{t}{x}{k}{a r}(l:o.op=.unOp .neg t x)(m:Ev c R x (.r (.int k a)))(q:c=true->AX k (-a)=some r):AS P c o R h (.r (.int k r)):=by
 intro j;obtain⟨w,rfl⟩:=Pu (q j);exact YS l m w j
theorem rV{t m}{x y}{k}{a b r}(q:o.op=.binOp .quo t x y m)(w:Ev c R x (.r (.int k a)))(A:Ev c R y (.r (.int k b)))(B:c=true->Py k a b=some r):AS P c o R h (.r (.int k r)):=by
 intro l
 have j:=B l
 unfold Py at j
 split at j
 .cases j
 .obtain⟨C,rfl⟩:=Pu j;exact aV q w A ‹_› C l
theorem ZQ{t m}{x y}{k}{a b r}(q:o.op=.binOp .rem t x y m)(w:Ev c R x (.r (.int k a)))(A:Ev c R y (.r (.int k b)))(B:c=true->QT a b=some r):AS P c o R h (.r (.int k r)):=by
 intro l
 have j:=B l
 unfold QT at j
 split at j
 .cases j
 .cases j;exact gk q w A ‹_› l
theorem R0{t m}{x y}{a b r}(q:o.op=.binOp .add t x y m)(w:Ev c R x (.r (.str a)))(A:Ev c R y (.r (.str b)))(B:c=true->Gf a b=some r):AS P c o R h (.r (.str r)):=by
 intro l
 have j:=B l
 unfold Gf at j
 split at j
 .cases j;exact gR q w A ‹_› l
 .cases j
def Hx(c:Bool)(R:Aa)(j:Int):Option Operand->Int->Prop
 | none,z=>z=j
 | some x,z=>∃k,Ev c R x (.r (.int k z))
theorem ZC{t e}{sz}{x}{B C}{l F:List α}{w A:Int}(J:o.op=.slice t x B C none)(M:DU P t e sz)(O:Ev c R x (.r (.sl (l.map f))))
 (j:Hx c R 0 B w) (m:Hx c R l.length C A) (q:∀a, (f a).length=sz) (T:c=true->Dl l w A=some F):AS P c o R h (.r (.sl (F.map f))) := by
  intro I
  obtain⟨U, X, Z, rfl⟩ := Tn (T I)
  rw[List.map_take, List.map_drop]
  refine eP J M O (l := w.toNat) (m := A.toNat) ?_ ?_ (λ_ => by omega) (λ_ => by rw[xk];omega) (λrow V => by obtain⟨a, _, rfl⟩ := yT.1 V;exact q a) I
  · cases B with
    | none => simp only[Hx] at j;subst j;rfl
    | some v => obtain⟨k, E⟩ := j;exact⟨k, w, E, λ_ => U, rfl⟩
  · cases C with
    | none => simp only[Hx] at m;subst m;simp[OM]
    | some v => obtain⟨k, E⟩ := m;exact⟨k, A, E, λ_ => by omega, rfl⟩
theorem Qo{j}{xs ys l:List α}(h:app j xs ys=some l):(xs.length+ys.length) * j<=140737488355328/\xs.length+ys.length<=9223372036854775807/\l=xs++ys:=by
 unfold app at h
 split at h
 .exact⟨‹_/\_›.1,‹_/\_›.2,(xh h).symm⟩
 .cases h
def Pq(R:Aa)(h:AL)(x:Operand)(e:TypeId)(sz:Nat)(f:α->List RV)(ys:List α):Prop:=
 (Ev true R x (.r (.sl (ys.map f)))/\∀a,(f a).length=sz)\/(∃id g,Ev true R x (.own id g)/\hget h id=some (.arr g e sz (ys.map f)))\/(Ev true R x (.cst (.slice none 0 0))/\ys=[])
theorem Pq.src{x}{e}{sz}{ys:List α}(m:Pq R h x e sz f ys):KN true R h x sz (ys.map f):=by
 rcases m with ⟨j,l⟩ | ⟨id,g,j,l⟩ | ⟨j,rfl⟩
 .exact .inl ⟨j,λ_ row q=>by obtain⟨a,_,rfl⟩:=yT.1 q;exact l a⟩
 .exact .inr (.inl ⟨id,g,e,j,l⟩)
 .exact .inr (.inr ⟨j,rfl⟩)
theorem DN{t e}{sz j}{s x}{id g}{xs ys l:List α}(m:o.op=.call { callee := .builtin .append, args := #[s, x], argTypes := #[t, t] })(q:Ba P t e sz j)
 (w:Ev true R s (.own id g)) (A:hget h id=some (.arr g e sz (xs.map f))) (B:Pq R h x e sz f ys) (C:app j xs ys=some l):Az P true o R h n (.own id n) ((id, some (.arr n e sz (l.map f)))::h) (n+1) := by
  obtain⟨E, F, rfl⟩ := Qo C
  rw[yq]
  exact aW m q w A B.src (by simpa using E) (by simpa using F)
theorem MD{t e}{sz j}{s x}(id:Nat){ys l:List α}(q:o.op=.call { callee := .builtin .append, args := #[s, x], argTypes := #[t, t] })(w:Ba P t e sz j)
 (A:Ev true R s (.cst (.slice none 0 0))) (B:Pq R h x e sz f ys) (C:app j [] ys=some l):Az P true o R h n (.own id n) ((id, some (.arr n e sz (l.map f)))::h) (n+1) := by
  obtain⟨E, F, m⟩ := Qo C
  rw[yR] at m
  subst m
  exact cX id q w A B.src (by simpa using E) (by simpa using F)
theorem bK{t e}{sz j}{l k}(id:Nat){m}{z0}{r:List α}(A:o.op=.makeSlice t l k)(B:Ba P t e sz j)(C:JI P e (f z0))
 (E:Ev true R l (.r (.int .i64 m))) (F:Ev true R k (.r (.int .i64 m))) (q:mk j m z0=some r):Az P true o R h n (.own id n) ((id, some (.arr n e sz (r.map f)))::h) (n+1) := by
  unfold mk at q
  split at q
  · rename_i w
    cases q
    rw[List.map_replicate]
    exact eR id A B C E F w.1 w.2.1 w.2.2
  · cases q
theorem CA{t e}{sz w len}{parts:Array (Nat × Operand)}(id:Nat){l:List α}(A:o.op=.buildSlice t len parts)(B:Ba P t e sz w)
 (hp:JT true R 0 parts.toList (l.map f)) (m:l.length=len) (q:∀a, (f a).length=sz) (j:Nat.ble (len * sz) 16777216=true) :
    Az P true o R h n (.own id n) ((id, some (.arr n e sz (l.map f)))::h) (n+1) :=
  gO id A B hp (by rw[xk];exact m) (λrow C => by obtain⟨a, _, rfl⟩ := yT.1 C;exact q a) j
theorem Ow{t}{x y}{id g k}{e}{sz}{l:List α}{z:Int}{a v}{b}{d}(j:o.op=.store t x y)(m:∃i, P.info? t=some i/\i.size=1)
 (q:Ev true R x (.ptr id g z.toNat k)) (w:hget h id=some (.arr g e sz (l.map f))) (A:AO l z=some a) (B:Ev true R y b) (hd:IF b=some d) (C:(BQ b).length=1) (E:Nat.blt k (f a).length=true) (F:(f a).set k d=f v) :
    Az P true o R h n .any ((id, some (.arr g e sz ((l.set z.toNat v).map f)))::h) n := by
  have := iE (n := n) j m q w (row := f a) (by rw[xJ, (EZ A).2.1];rfl) (B8 E) B hd C
  rwa [F, <- WAS] at this
theorem DA{t}{e}{sz}{x}{l:List α}(j:o.op=.call { callee:=.builtin .len,args:=#[x],argTypes:=#[t] })(m:DU P t e sz)(q:Ev c R x (.r (.sl (l.map f)))):AS P c o R h (.r (.int .i64 l.length)):=lQ j m q
theorem H1{t}{e e'}{sz j}{x}{id g}{l:List α}(m:o.op=.call { callee := .builtin .len, args := #[x], argTypes := #[t] })(q:DU P t e sz)(w:Ev c R x (.own id g))
 (A:hget h id=some (.arr g e' j (l.map f))):AS P c o R h (.r (.int .i64 l.length)) := vN m q w A
theorem BD{t}{x}{a}(id:Nat){cs:List AV}(l:o.op=.box t x)(m:Ev c R x a)(j:BQ a=cs)(q:cs.all AV.one=true):Az P c o R h n (.ptr id n 0 0) ((id,some (.box n t cs))::h) (n+1):=by
 subst j;exact ZR id l m q
theorem BT{t}{l}(id:Nat){cs:List AV}(m:o.op=.alloc t)(q:Cj P t l)(j:BQ (Gc l)=cs)(w:cs.all AV.one=true) :
  Az P c o R h n (.ptr id n 0 0) ((id,some (.box n t cs))::h) (n+1):=by
 subst j;exact aM id m q w
theorem BF{t}{x y}{id g k}{e}{cs ds:List AV}{a}{sz}(m:o.op=.store t x y)(q:∃i, P.info? t=some i/\i.size=sz)(w:Ev c R x (.ptr id g 0 k))
 (A:hget h id=some (.box g e cs)) (B:Ev c R y a) (hsz:(BQ a).length=sz) (C:(BQ a).all AV.one=true) (j:Nat.ble (k+sz) cs.length=true) (l:GF cs k (BQ a)=ds) :
    Az P c o R h n .any ((id, some (.box g e ds))::h) n := by
  subst l;exact gK m q w A B hsz C j
end
def Ok(a b:AV):Prop:=a=b\/b=.any\/(a=.cst (.slice none 0 0)/\b=.r (.sl []))
def Qj:List AV->List AV->Prop
 | [],[]=>True
 | a::l,b::m=>Ok a b/\Qj l m
 | _,_=>False
def TJ(a b:AV):Prop:=Ok a b\/∃j l,a=.agg j/\b=.agg l/\Qj j l
def OD:Aa->Aa->Prop
 | [],_=>True
 | (t,v)::r,e=>TJ (get e t) v/\OD r e
def dT(a b:Option AU):Prop:=a=b\/b=none\/∃g e j l,a=some (.box g e j)/\b=some (.box g e l)/\Qj j l
def PP:AL->AL->Prop
 | [],_=>True
 | (id,o)::r,h=>dT (hget h id) o/\PP r h
theorem Ok.rep{x}{a b}(h:Ok a b){v}(j:AP x a v):AP x b v:=by
 rcases h with rfl | rfl | ⟨rfl,rfl⟩
 .exact j
 .exact .any _
 .cases j;exact .r .snil
theorem Qj.get{cs ds:List AV}(h:Qj cs ds):cs.length=ds.length/\∀(i:Nat) (b:AV),ds[i]?=some b->∃a,cs[i]?=some a/\Ok a b:=by
 induction cs generalizing ds with
 | nil=>cases ds with | nil=>exact⟨rfl,by simp⟩ | cons _ _=>exact h.elim
 | cons c l q=>
  cases ds with
  | nil=>exact h.elim
  | cons d m=>
   obtain⟨w,A⟩:=h
   obtain⟨B,C⟩:=q A
   refine⟨by simp[B],λi b j=>?_⟩
   cases i with
   | zero=>cases j;exact⟨c,rfl,w⟩
   | succ i=>simp only[yu] at j ⊢;exact C i b j
theorem TJ.rep{x}{a b}(h:TJ a b){v}(l:AP x a v):AP x b v:=by
 rcases h with h | ⟨C,E,rfl,rfl,h⟩
 .exact h.rep l
 .obtain⟨F,m⟩:=h.get
  cases l with
  | agg I j=>
   refine .agg (by omega) λi b u q w=>?_
   obtain⟨a,A,B⟩:=m i b q
   exact B.rep (j i a u A w)
theorem OD.get{e' e}(h:OD e' e)(t:Nat):Al.get e' t=.any\/TJ (Al.get e t) (Al.get e' t):=by
 induction e' with
 | nil=>exact .inl rfl
 | cons p r j=>
  obtain⟨d,v⟩:=p
  rw[CE]
  split
  .rename_i hd;subst hd;exact .inr h.1
  .exact j h.2
theorem PP.get{h' h}(k:PP h' h)(t:Nat):hget h' t=none\/dT (hget h t) (hget h' t):=by
 induction h' with
 | nil=>exact .inl rfl
 | cons p r j=>
  obtain⟨d,v⟩:=p
  rw[BG]
  split
  .rename_i hd;subst hd;exact .inr k.1
  .exact j k.2
theorem Xh{y:Cx}(l:y.ok) S' A n'(U:y.n<=n')(hS:∀b, y.S b->S' b)(B:∀b, S' b->b<y.w.heap.size)(I:∀b, S' b->¬ y.F b)
 (m:∀id j, A id=some j->∃o, y.H id=some o/\o.gen=j.gen/\o.shape=j.shape/\(∀b k, y.atk id b k->¬ S' b)/\(j.isFam=true->j=o)/\(y.le { y with S := S', H := A, n := n' } -> CL { y with S := S', H := A, n := n' } (y.β id) (y.K id) o->CL { y with S := S', H := A, n := n' } (y.β id) (y.K id) j)) :
    y.le { y with S := S', H := A, n := n' } /\ ({ y with S := S', H := A, n := n' } : Cx).ok := by
  have q:y.le { y with S := S', H := A, n := n' } := ⟨wy _, rfl, rfl, rfl, λ_ _ => rfl, hS, rfl, U, λid j h _ => by
    obtain⟨o, w, C, V, _⟩ := m id j h;exact⟨o, w, C, V, rfl⟩, λid j h X _ _ => by
    obtain⟨o, w, _, _, _, J, _⟩ := m id j h;cases J X;exact⟨j, w, X, rfl, rfl, rfl, rfl⟩⟩
  refine⟨q, B, l.F_lt, I, λid j h => ?_, λid j b k h Z => ?_, λid E o j b k k' h F => ?_, l.extOf (λid o h => let ⟨j, F, _⟩ := m id o h;⟨j, F⟩) rfl rfl (wy _) (λid o b k h M => let ⟨_, _, _, _, O, _⟩ := m id o h;O b k M) (λid o b k h M => let ⟨j, F, _⟩ := m id o h;(l.own' id j b k F M).2.2), l.tabs.le q⟩
  · obtain⟨o, w, C, V, _, _, J⟩ := m id j h
    obtain⟨T, k2⟩ := l.obj id o w
    exact⟨by rw[<- C];exact xD T U, J q (k2.mono q (λ_ _ _ => rfl) λ_ _ _ _ => rfl)⟩
  · obtain⟨o, w, _, _, O, _⟩ := m id j h
    obtain⟨T, k2, k3⟩ := l.own id o b k w Z
    exact⟨T, O b k (.inl Z), k3⟩
  · obtain⟨o1, w, _⟩ := m id o h
    obtain⟨o2, C, _⟩ := m E j F
    exact l.inj id E o1 o2 b k k' w C
theorem lG{x}{β}{κ}{g}{e}{cs ds:List AV}(J:cs.length=ds.length)(hc:∀(i:Nat) (b:AV), ds[i]?=some b->∃a, cs[i]?=some a/\∀v, AP x a v->AP x b v)
 (h:CL x β κ (.box g e cs)):CL x β κ (.box g e ds) := by
  obtain⟨b, l, m, q, M, w⟩ := h
  refine⟨b, l, m, q, by omega, λj d A => ?_⟩
  obtain⟨a, B, C⟩ := hc j d A
  obtain⟨u, E, F, I⟩ := w j a B
  exact⟨u, E, F, C u I⟩
theorem AZ.cv{e' e}{h' h}{n' n N}(T:OD e' e)(U:PP h' h)(V:n<=n'):AZ ⟨e,h,n,N⟩ ⟨e',h',n',N⟩:=by
 intro c0 a w ⟨_,A,hsz,y,F,I,l,E,J,B⟩
 have m:=Xh l y.S (hget h') n' (by rw[J];exact V) (λ_ h=>h) l.S_lt l.SF (λid M q=>by
  rcases U.get id with j | j
  .rw[j] at q;cases q
  .rw[q] at j
   rcases j with j | j | ⟨g,e0,X,ds,j,Z,h3⟩
   .exact⟨M,by rw[E];exact j,rfl,rfl,λb k C=>(l.own' id M b k (by rw[E];exact j) C).2.1,λ_=>rfl,λ_ h=>h⟩
   .cases j
   .cases Z
    obtain⟨O,k2⟩:=h3.get
    refine⟨.box g e0 X,by rw[E];exact j,rfl,by simp[AU.shape,O],λb k C=>(l.own' id _ b k (by rw[E];exact j) C).2.1,(λhf=>by cases hf),λ_ hr=>lG O (λi b C=>?_) hr⟩
    obtain⟨a,k3,k4⟩:=k2 i b C
    exact⟨a,k3,λv hv=>k4.rep hv⟩)
 refine⟨_,A,hsz,{ y with S:=y.S,H:=hget h',n:=n' },F,I.trans m.1,m.2,rfl,rfl,λt=>?_⟩
 rcases T.get t with j | j
 .rw[j];exact .any _
 .exact j.rep ((B t).mono m.1)
def Ph(id g:Nat)(xs:List (List RV))(a b:AV):Prop:=a=b\/b=.any\/(a=.own id g/\b=.r (.sl xs))
def No(id g:Nat)(xs:List (List RV)):List AV->List AV->Prop
 | [],[]=>True
 | a::l,b::m=>Ph id g xs a b/\No id g xs l m
 | _,_=>False
def Wq(id g:Nat)(xs:List (List RV))(a b:AV):Prop:=Ph id g xs a b\/∃j l,a=.agg j/\b=.agg l/\No id g xs j l
def OL(id g:Nat)(xs:List (List RV)):Aa->Aa->Prop
 | [],_=>True
 | (t,v)::r,e=>Wq id g xs (get e t) v/\OL id g xs r e
def U9(id g:Nat)(xs:List (List RV))(a b:Option AU):Prop:=a=b\/b=none\/(∃g0 e j l,a=some (.box g0 e j)/\b=some (.box g0 e l)/\No id g xs j l) \/
  ∃g0 e m k q,a=some (.hot g0 e m k id g)/\b=some (.arr g0 e 1 q)/\q=m.set k [.sl xs]
def PY(id g:Nat)(xs:List (List RV)):AL->AL->Prop
 | [],_=>True
 | (i,o)::r,h=>Nat.beq i id=false/\U9 id g xs (hget h i) o/\PY id g xs r h
theorem No.get{id g}{xs}{cs ds:List AV}(h:No id g xs cs ds):cs.length=ds.length/\∀(i:Nat) (b:AV),ds[i]?=some b->∃a,cs[i]?=some a/\Ph id g xs a b:=by
 induction cs generalizing ds with
 | nil=>cases ds with | nil=>exact⟨rfl,by simp⟩ | cons _ _=>exact h.elim
 | cons c l q=>
  cases ds with
  | nil=>exact h.elim
  | cons d m=>
   obtain⟨w,A⟩:=h
   obtain⟨B,C⟩:=q A
   refine⟨by simp[B],λi b j=>?_⟩
   cases i with
   | zero=>cases j;exact⟨c,rfl,w⟩
   | succ i=>simp only[yu] at j ⊢;exact C i b j
theorem OL.get{id g}{xs}{e' e}(h:OL id g xs e' e)(t:Nat):Al.get e' t=.any\/Wq id g xs (Al.get e t) (Al.get e' t):=by
 induction e' with
 | nil=>exact .inl rfl
 | cons p r j=>
  obtain⟨d,v⟩:=p
  rw[CE]
  split
  .rename_i hd;subst hd;exact .inr h.1
  .exact j h.2
theorem PY.get{id g}{xs}{h' h}(k:PY id g xs h' h)(t:Nat):hget h' t=none\/(t≠id/\U9 id g xs (hget h t) (hget h' t)):=by
 induction h' with
 | nil=>exact .inl rfl
 | cons p r j=>
  obtain⟨d,v⟩:=p
  rw[BG]
  split
  .rename_i hd;subst hd;exact .inr ⟨ym k.1,k.2.1⟩
  .exact j k.2.2
theorem AZ.frz{e' e:Aa}{h' h}{n N}(id:Nat){g}{et}{sz}{xs}(a2:hget h id=some (.arr g et sz xs))(he:OL id g xs e' e)(hh:PY id g xs h' h):AZ ⟨e,h,n,N⟩ ⟨e',h',n,N⟩:=by
 intro c0 a w ⟨_,Z,hsz,y,a6,a7,l,hH,a8,E⟩
 have A:y.H id=some (.arr g et sz xs):=by rw[hH];exact a2
 let S':Nat->Prop:=λb=>y.S b\/∃k,y.β id=some (b,k)
 have M:∀ {z:Cx},z.w=y.w->z.S=S'->∀ {a b:AV},Ph id g xs a b->∀v,AP y a v->(AP z a v)->AP z b v:=by
  intro z aa ab a b hf v hv ac
  rcases hf with rfl | rfl | ⟨rfl,rfl⟩
  .exact ac
  .exact .any _
  .refine .r ?_
   have:=Po l A hv (S':=S') (λ_ h=>.inl h) (λb k q=>.inr ⟨k,q⟩)
   rw[aa,ab];exact this
 have C:=Xh l S' (hget h') y.n (wy _) (λ_ h=>.inl h) (λb q=>by
   rcases q with q | ⟨k,q⟩
   .exact l.S_lt b q
   .exact(l.own id _ b k A q).1) (λb q=>by
   rcases q with q | ⟨k,q⟩
   .exact l.SF b q
   .exact(l.own id _ b k A q).2.2) (λi o' O=>by
  rcases hh.get i with m | ⟨ad,m⟩
  .rw[m] at O;cases O
  .rw[O] at m
   have T:∀o,y.H i=some o->∀b k,y.atk i b k->¬ S' b:=by
    intro o ho b k q
    rintro(F | ⟨k',F⟩)
    .exact(l.own' i o b k ho q).2.1 F
    .exact ad (l.inj' ho A q (.inl F))
   rcases m with m | m | ⟨g0,e0,cs,ds,m,F,h3⟩ | ⟨g0,e0,ys,k,zs,m,F,rfl⟩
   .exact⟨o',by rw[hH];exact m,rfl,rfl,T o' (by rw[hH];exact m),λ_=>rfl,λ_ h=>h⟩
   .cases m
   .cases F
    obtain⟨k1,k2⟩:=h3.get
    have B:y.H i=some (.box g0 e0 cs):=by rw[hH];exact m
    refine⟨.box g0 e0 cs,B,rfl,by simp[AU.shape,k1],T _ B,(λhf=>by cases hf),λI _=>?_⟩
    obtain⟨_,b,ae,m1,m2,m3,m4⟩:=l.obj i _ B
    refine⟨b,ae,m1,m2,by omega,λj d hj=>?_⟩
    obtain⟨a,X,k4⟩:=k2 j d hj
    obtain⟨u,k5,k6,k7⟩:=m4 j a X
    exact⟨u,k5,k6,M (z:={ y with S:=S',H:=hget h',n:=y.n }) rfl rfl k4 u k7 (k7.mono I)⟩
   .cases F
    have B:y.H i=some (.hot g0 e0 ys k id g):=by rw[hH];exact m
    refine⟨.hot g0 e0 ys k id g,B,rfl,by simp[AU.shape],T _ B,(λhf=>by cases hf),λI _=>?_⟩
    obtain⟨_,m1,m2,af,us,m3,m4,m5,u0,m6,m7⟩:=l.obj i _ B
    have ag:∀b,y.S b->y.w.heap[b]?=y.w.heap[b]?:=λ_ _=>rfl
    refine⟨Nat.one_pos,λrow hr=>?_,af,us,by rw[yh];exact m3,by rw[yh];exact m4,λi' row c d q1 q2=>?_⟩
    .rcases yp hr with hr | rfl
     .exact m2 row hr
     .rfl
    .rw[yC] at q1
     split at q1
     .rename_i U;subst U
      cases q1
      have V:c=0:=by
       have:=(wx.1 q2).1
       simp at this;omega
      subst V
      cases q2
      refine⟨u0,by simpa using m6,Po l A m7 (λ_ h=>.inl h) (λb k q=>.inr ⟨k,q⟩)⟩
     .rename_i U
      have V:c=0:=by
       have:=(wx.1 q2).1
       have:=m2 row (xa q1)
       omega
      subst V
      obtain⟨u,X,k4⟩:=m5 i' row d (λe=>U e.symm) q1 q2
      exact⟨u,by simpa using X,k4.mono (λ_ _=>rfl) (λ_ h=>.inl h)⟩)
 refine⟨_,Z,hsz,{ y with S:=S',H:=hget h',n:=y.n },a6,a7.trans C.1,C.2,rfl,a8,λt=>?_⟩
 rcases he.get t with m | m
 .rw[m];exact .any _
 .rcases m with m | ⟨cs,ds,m,F,h3⟩
  .exact M (z:={ y with S:=S',H:=hget h',n:=y.n }) rfl rfl m _ (E t) ((E t).mono C.1)
  .rw[F]
   obtain⟨k1,k2⟩:=h3.get
   have hv:=E t
   rw[m] at hv
   generalize hu:a.tmps.getD t undef=v at hv
   cases hv with
   | @agg _ us hl J=>
    refine .agg (by omega) λi b u q a1=>?_
    obtain⟨a0,X,k4⟩:=k2 i b q
    exact M (z:={ y with S:=S',H:=hget h',n:=y.n }) rfl rfl k4 u (J i a0 u X a1) ((J i a0 u X a1).mono C.1)
theorem Cc{ρ:Type}{P}{T r}{j}{k}{x}{s}(F:ρ->AV->AL->Prop)(e:some T=some r)(h:RH P j k (F T) x s):RH P j k (F r) x s:=by cases e;exact h
theorem v7{P}{Q}{s}{x y}(h:∀K:St->Prop,(∀s,AW P y Q s->K s)->(∀s j,AZ s j->K j->K s)->AW P x (Es K Q) s):AW P (.seq x y) Q s:=
 .seq (h _ (λ_ h=>h) λ_ _ l h=>.weak l h)
def CB(Q:Exit->St->Prop)(e:Exit)(s:St):Prop:=∃j,AZ s j/\Q e j
theorem CB.mk{Q}{e}{s s'}(hw:AZ s s')(h:Q e s'):CB Q e s:=⟨s',hw,h⟩
theorem AW.retW{P}{c}{Q}{s}(h:AW P c (CB Q) s):AW P c Q s:=
 λz m q a w A=>wpIn_mono (h z m q a w A) λ_ _ _ ⟨B,_,⟨j,C,E⟩,l⟩=>⟨B,j,E,C _ _ _ l⟩
theorem E0 {P : Program} {f} {fn : Func} {code} {args : List AV} {k N} {hc} {Post} (q : P.funcs[f]? = some fn) (w : fn.body = some code) (j : (fn.name == "runtime.NumGoroutine") = false) (A : fn.ntmps = N)
 (l:args.length<=N) (hw:∀m, AW P code (CB (RH P fn.results.toList k Post)) ⟨Da 0 args, hc, m, N⟩):BI P f k args hc Post := BI.mk q w j A l λm => (hw m).retW
def AI(l:List Nat):Nat->Nat:=λk=>l.getD k 0
theorem AE{j α:Type}{m:Option (j)}{f:j->Option α}{r:α}{G:Prop}(h:AB m f=some r)(k:∀l,m=some l->f l=some r->G):G:=by
 cases m with
 | none=>cases h
 | some p=>exact k _ rfl h
theorem Bb{j α:Type}{m:Option (j)}{f:j->Option α}{r:α}{G:Prop}(h:AB m f=some r)(k:∀p,m=some p->(∀l,p=l->f l=some r)->G):G:=by
 obtain⟨p,q,w⟩:=jh h;exact k p q w
theorem BU{j α:Type}{m:Option (A3 (j) α)}{f:j->Option α}{r:α}{G:Prop}(h:A7 m f=some r)(k:∀o,m=some o->(∀l,o=.nrm l->f l=some r)->(∀t,o=.ext t->some t=some r)->G):G:=by
 obtain⟨p,q,w,A⟩:=nr h;exact k p q w A
def TO{j ρ:Type}(v:(j) ⊕ ρ)(R:j->(Nat->Nat)->St)(m:St):Prop:=∃l i,v=.inl l/\AZ m (R l i)
theorem TO.mk{j ρ:Type}{v:(j) ⊕ ρ}{R:j->(Nat->Nat)->St}{l:St}{m:_}(e:some (Sum.inl m)=some v)(i:Nat->Nat)(hw:AZ l (R m i)):TO v R l:=⟨_,i,(xh e).symm,hw⟩
theorem wh{m ρ:Type}{f:(m)->Option ((m) ⊕ ρ)}{P:Program}{Q:Exit->St->Prop}{s:St}{x:Code}{j:m}{o:ρ}(R:m->(Nat->Nat)->St)(A:Nat->Nat)(hit:Al.iter f j=some o)(hw:AZ s (R j A))
  (round:∀j i v,f j=some v->(∀q,v=.inr q->o=q)->AW P x (Es (TO v R) Q) (R j i)):AW P (.loop x) Q s:=by
 refine AW.iter (λ(a:m) B=>∃i,B=R a i) hit ⟨_,hw,A,rfl⟩ ?_
 rintro j B v ⟨i,rfl⟩ C E
 refine(round j i v C E).mono λe F l=>?_
 cases e with
 | normal=>
  obtain⟨J,I,e,w⟩:=l
  exact⟨_,e,_,w,I,rfl⟩
 | exit _=>exact l
 | goto _=>exact l
 | ret=>exact l
 | panic _=>exact l
 | outgrown=>exact l
theorem FD{j l α:Type}{m:Option (j × l)}{f:j->l->Option α}{r:α}{G:Prop}(h:B3 m f=some r)(k:∀q w,m=some (q,w)->f q w=some r->G):G:=by
 cases m with
 | none=>cases h
 | some p=>exact k _ _ rfl h
theorem Gj{j l α:Type}{m:Option (j × l)}{f:j->l->Option α}{r:α}{G:Prop}(h:B3 m f=some r)(k:∀p,m=some p->(∀q w,p=(q,w)->f q w=some r)->G):G:=by
 obtain⟨p,A,B⟩:=kz h;exact k p A B
theorem UW{j l α:Type}{m:Option (A3 (j × l) α)}{f:j->l->Option α}{r:α}{G:Prop}(h:F9 m f=some r)(k:∀o,m=some o->(∀q w,o=.nrm (q,w)->f q w=some r)->(∀t,o=.ext t->some t=some r)->G):G:=by
 obtain⟨p,A,B,C⟩:=kc h;exact k p A B C
def Su{j l ρ:Type}(v:(j × l) ⊕ ρ)(R:j->l->(Nat->Nat)->St)(w:St):Prop:=∃m q i,v=.inl (m,q)/\AZ w (R m q i)
theorem Su.mk{j l ρ:Type}{v:(j × l) ⊕ ρ}{R:j->l->(Nat->Nat)->St}{m:St}{q:j}{w:l}(e:some (Sum.inl (q,w))=some v)(i:Nat->Nat)(hw:AZ m (R q w i)):Su v R m:=⟨_,_,i,(xh e).symm,hw⟩
theorem C0{w A ρ:Type}{f:(w × A)->Option ((w × A) ⊕ ρ)}{P:Program}{Q:Exit->St->Prop}{s:St}{x:Code}{j:w}{l:A}{o:ρ}(R:w->A->(Nat->Nat)->St)(C:Nat->Nat)(hit:Al.iter f (j,l)=some o)(hw:AZ s (R j l C))
  (round:∀j l i v,f (j,l)=some v->(∀q,v=.inr q->o=q)->AW P x (Es (Su v R) Q) (R j l i)):AW P (.loop x) Q s:=by
 refine AW.iter (λ(a:w × A) E=>∃i,E=R a.1 a.2 i) hit ⟨_,hw,C,rfl⟩ ?_
 rintro⟨j,l⟩ E v ⟨i,rfl⟩ F I
 refine(round j l i v F I).mono λe J m=>?_
 cases e with
 | normal=>
  obtain⟨O,T,M,e,B⟩:=m
  exact⟨_,e,_,B,M,rfl⟩
 | exit _=>exact m
 | goto _=>exact m
 | ret=>exact m
 | panic _=>exact m
 | outgrown=>exact m
theorem Nq{j l q α:Type}{m:Option (j × l × q)}{f:j->l->q->Option α}{r:α}{G:Prop}(h:EQ m f=some r)(k:∀w A B,m=some (w,A,B)->f w A B=some r->G):G:=by
 cases m with
 | none=>cases h
 | some p=>exact k _ _ _ rfl h
theorem qt{j l q α:Type}{m:Option (j × l × q)}{f:j->l->q->Option α}{r:α}{G:Prop}(h:EQ m f=some r)(k:∀p,m=some p->(∀w A B,p=(w,A,B)->f w A B=some r)->G):G:=by
 obtain⟨p,C,E⟩:=jA h;exact k p C E
def FL{j l m ρ:Type}(v:(j × l × m) ⊕ ρ)(R:j->l->m->(Nat->Nat)->St)(B:St):Prop:=∃q w A i,v=.inl (q,w,A)/\AZ B (R q w A i)
theorem FL.mk{j l m ρ:Type}{v:(j × l × m) ⊕ ρ}{R:j->l->m->(Nat->Nat)->St}{q:St}{w:j}{A:l}{B:m}(e:some (Sum.inl (w,A,B))=some v)(i:Nat->Nat)(hw:AZ q (R w A B i)):FL v R q:=⟨_,_,_,i,(xh e).symm,hw⟩
theorem IE{A B C ρ:Type}{f:(A × B × C)->Option ((A × B × C) ⊕ ρ)}{P:Program}{Q:Exit->St->Prop}{s:St}{x:Code}{j:A}{l:B}{m:C}{o:ρ}(R:A->B->C->(Nat->Nat)->St)(F:Nat->Nat)(hit:Al.iter f (j,l,m)=some o)(hw:AZ s (R j l m F))
  (round:∀j l m i v,f (j,l,m)=some v->(∀q,v=.inr q->o=q)->AW P x (Es (FL v R) Q) (R j l m i)):AW P (.loop x) Q s:=by
 refine AW.iter (λ(a:A × B × C) I=>∃i,I=R a.1 a.2.1 a.2.2 i) hit ⟨_,hw,F,rfl⟩ ?_
 rintro⟨j,l,m⟩ I v ⟨i,rfl⟩ J M
 refine(round j l m i v J M).mono λe O w=>?_
 cases e with
 | normal=>
  obtain⟨U,V,X,T,e,E⟩:=w
  exact⟨_,e,_,E,T,rfl⟩
 | exit _=>exact w
 | goto _=>exact w
 | ret=>exact w
 | panic _=>exact w
 | outgrown=>exact w
def TL{j l m a3 ρ:Type}(v:(j × l × m × a3) ⊕ ρ)(R:j->l->m->a3->(Nat->Nat)->St)(C:St):Prop:=∃q w A B i,v=.inl (q,w,A,B)/\AZ C (R q w A B i)
theorem TL.mk{j l m a3 ρ:Type}{v:(j × l × m × a3) ⊕ ρ}{R:j->l->m->a3->(Nat->Nat)->St}{q:St}{w:j}{A:l}{B:m}{C:a3}(e:some (Sum.inl (w,A,B,C))=some v)(i:Nat->Nat)(hw:AZ q (R w A B C i)):TL v R q:=⟨_,_,_,_,i,(xh e).symm,hw⟩
theorem wg{B C E a3 ρ:Type}{f:(B × C × E × a3)->Option ((B × C × E × a3) ⊕ ρ)}{P:Program}{Q:Exit->St->Prop}{s:St}{x:Code}{j:B}{l:C}{m:E}{w:a3}{o:ρ}(R:B->C->E->a3->(Nat->Nat)->St)(I:Nat->Nat)(hit:Al.iter f (j,l,m,w)=some o)(hw:AZ s (R j l m w I))
  (round:∀j l m w i v,f (j,l,m,w)=some v->(∀q,v=.inr q->o=q)->AW P x (Es (TL v R) Q) (R j l m w i)):AW P (.loop x) Q s:=by
 refine AW.iter (λ(a:B × C × E × a3) J=>∃i,J=R a.1 a.2.1 a.2.2.1 a.2.2.2 i) hit ⟨_,hw,I,rfl⟩ ?_
 rintro⟨j,l,m,w⟩ J v ⟨i,rfl⟩ M O
 refine(round j l m w i v M O).mono λe T A=>?_
 cases e with
 | normal=>
  obtain⟨V,X,Z,y3,U,e,F⟩:=A
  exact⟨_,e,_,F,U,rfl⟩
 | exit _=>exact A
 | goto _=>exact A
 | ret=>exact A
 | panic _=>exact A
 | outgrown=>exact A
theorem wL{P:Program}{ops:Array Oper}{rest:List Oper}{s:St}{K:St->Prop}{o:Oper}{d:Nat}{f:FuncId}{fo:Operand}{xs:Array Operand}{l:Array TypeId}{caps bs:List AV}(L:List Nat){hc:AL}{F:(Nat->Nat)->AV}{G:(Nat->Nat)->AL}(hg:o.guard=none)(hd:o.dst=some d)(C:Nat.blt d s.N=true)
  (E:o.op=.call { callee:=.value fo,args:=xs,argTypes:=l }) (m:Ev true s.e fo (.fn f (EK L caps))) (q:FM L.length caps=true) (I:Ko s.e L xs.toList bs) (w:Fe s.h L hc) (A:L.Nodup)
  (j:BI P f L.length (bs++caps) hc (λr B=>∃i,r=F i/\B=G i))
  (J:∀i n',AN P ops rest { e:=(d,ren L (F i))::s.e,h:=E4 L (G i) 1000 L++s.h,n:=n',N:=s.N } K):AN P ops (o::rest) s K:=
 wX L hg hd C E m q I w A j (by rintro r B n' ⟨i,rfl,rfl⟩;exact J i n')
def WQ:Option TypeDesc->AV->AV->Option Bool
 | some (.int _),.r (.int k m),.r (.int j n)=>if k=j then some (decide (m=n)) else none
 | some .bool,.r (.bool a),.r (.bool b)=>some (a==b)
 | some .string,.r (.str a),.r (.str b)=>some (decide (a=b))
 | _,_,_=>none
def CW:List (Option TypeDesc)->List AV->List AV->Option Bool
 | [],[],[]=>some true
 | d::j,a::l,b::m=>match WQ d a b,CW j l m with
  | some x,some y=>some (x&&y)
  | _,_=>none
 | _,_,_=>none
def PI(P:Program):Nat->List Field->List (Option TypeDesc)->Prop
 | _,[],[]=>True
 | i, f :: j, d :: l => (f.name == "_") = false /\ f.offset = i /\ P.underlying f.type = d /\ PI P (i + 1) j l
 | _,_,_=>False
def Fm(P:Program)(t:TypeId)(ds:List (Option TypeDesc)):Prop:=P.underlying t=some (.struct (P.fieldsOf t))/\P.stoodInHeld t=false/\P.eqGuardType P.depth t=false/\PI P 0 (P.fieldsOf t).toList ds
theorem aA{P:Program}{x}{d}{t}{a b}{u v}{r}(l:AP x a u)(m:AP x b v)(j:WQ (P.underlying t) a b=some r)(w:World) :
  (Op.equalIn (d+1) t u v).run P w=.ok r w/\∃e,P.underlying t=some e/\H3 e=true:=by
 unfold WQ at j
 split at j
 .rename_i hd
  obtain rfl:=Ci l
  obtain rfl:=Ci m
  split at j
  .rename_i q;subst q;cases j
   refine⟨?_,_,hd,rfl⟩
   rw[run_equalIn_int w d t _ _ _ _ hd]
   congr 1
  .cases j
 .rename_i hd
  obtain rfl:=G2 l
  obtain rfl:=G2 m
  cases j
  exact⟨run_equalIn_bool' w d t _ _ hd,_,hd,rfl⟩
 .rename_i hd
  obtain rfl:=IM l
  obtain rfl:=IM m
  cases j
  refine⟨?_,_,hd,rfl⟩
  rw[run_equalIn_string w d t _ _ hd]
  congr 1
  simp[ByteArray.toList_eq]
  rename_i a b
  by_cases h:a=b<;>simp[h]
 .cases j
theorem WU{P}{x}{d}{us vs:Array Value}(w:World):∀(B:List Field) (ds:List (Option TypeDesc)) (i:Nat) (cs A:List AV) (r:Bool),PI P i B ds->cs.length+i=us.size->A.length+i=vs.size ->
  (∀(j:Nat) (c:AV) (u:Value),cs[j]?=some c->us[i+j]?=some u->AP x c u)->(∀(j:Nat) (c:AV) (u:Value),A[j]?=some c->vs[i+j]?=some u->AP x c u) ->
  CW ds cs A=some r->(Op.eqFields (d+1) us vs B).run P w=.ok r w
 | [],ds,i,cs,A,r,C,E,F,I,J,q=>by
  cases ds with
  | cons _ _=>exact C.elim
  | nil=>
   unfold CW at q
   split at q
   .cases q;simp[Op.eqFields]
   .rename_i h;cases h
   .cases q
 | f::B,ds,i,cs,A,r,C,E,F,I,J,q=>by
  cases ds with
  | nil=>exact C.elim
  | cons dd ds=>
   obtain⟨h1,h2,h3,h4⟩:=C
   cases cs with
   | nil=>simp[CW] at q
   | cons a l=>
    cases A with
    | nil=>simp[CW] at q
    | cons b m=>
     simp only[CW] at q
     split at q
     .rename_i xb yb e1 e2
      cases q
      have M:i<us.size:=by simp at E;omega
      have O:i<vs.size:=by simp at F;omega
      have ra:=I 0 a us[i] rfl (by simp)
      have rb:=J 0 b vs[i] rfl (by simp)
      subst h3
      obtain⟨k1,e,k2,k3⟩:=aA (d:=d) ra rb e1 w
      have T:(part f.type us f.offset).run P w=.ok us[i] w:=by
       rw[h2];simp[part,IV k2,k3,xe M]
      have U:(part f.type vs f.offset).run P w=.ok vs[i] w:=by
       rw[h2];simp[part,IV k2,k3,xe O]
      have V:l.length+(i+1)=us.size:=by simp at E;omega
      have X:m.length+(i+1)=vs.size:=by simp at F;omega
      have ih:=WU (d:=d) (x:=x) (us:=us) (vs:=vs) w B ds (i+1) l m yb h4 V X
       (λj c u Z hu=>I (j+1) c u (by simpa using Z) (by rw[<- hu,show i+1+j=i+(j+1) by omega])) (λj c u Z hu=>J (j+1) c u (by simpa using Z) (by rw[<- hu,show i+1+j=i+(j+1) by omega])) e2
      have a0 : f.name ≠ "_" := by intro h; rw [h] at h1; simp at h1
      simp only[Op.eqFields,ww a0,Sem.run_bind,T,U,Result.andThen_ok,k1]
      cases xb
      .simp
      .simpa using ih
     .cases q
section
variable{P:Program}{c:Bool}{o:Oper}{R:Aa}{h:AL}
theorem gI{t}{x y}{cs ds}{q}{r}{z}{a:Act}(F:Fm P t q)(C:AP z (.agg cs) (a.eval x))(E:AP z (.agg ds) (a.eval y))(I:CW q cs ds=some r) :
  ∃us vs,a.eval x=.agg us/\a.eval y=.agg vs/\∀w,(Op.equalIn 10000 t (.agg us) (.agg vs)).run P w=.ok r w:=by
 generalize a.eval x=u at C
 generalize a.eval y=v at E
 cases C with
 | @agg _ us J l=>
  cases E with
  | @agg _ vs M m=>
   obtain⟨O,T,_,U⟩:=F
   refine⟨us,vs,rfl,rfl,λw=>?_⟩
   rw[run_equalIn_agg w 9999 t us vs O T]
   exact WU (x:=z) w _ q 0 cs ds r U J M (λj b u A B=>l j b u A (by simpa using B)) (λj b u A B=>m j b u A (by simpa using B)) I
theorem od{t w}{x y}{cs ds}{l}{r}(A:o.op=.binOp .eql t x y w)(m:Fm P t l)(B:Ev c R x (.agg cs))(C:Ev c R y (.agg ds))(E:CW l cs ds=some r):AS P c o R h (.r (.bool r)):=by
 intro q z a _ _ j
 obtain⟨F,I,J,M,O⟩:=gI m (B.rep j q) (C.rep j q) E
 refine⟨.bool r,λT _=>?_,.r (.bool _)⟩
 unfold execOp
 rw[A]
 simp only[J,M]
 simp[run_eqGuard_agg T .eql t x y F I m.2.2.1,run_eql_struct,O]
theorem U8{t w}{x y}{cs ds}{l}{r}(A:o.op=.binOp .neq t x y w)(m:Fm P t l)(B:Ev c R x (.agg cs))(C:Ev c R y (.agg ds))(E:CW l cs ds=some r):AS P c o R h (.r (.bool (!r))):=by
 intro q z a _ _ j
 obtain⟨F,I,J,M,O⟩:=gI m (B.rep j q) (C.rep j q) E
 refine⟨.bool (!r),λT _=>?_,.r (.bool _)⟩
 unfold execOp
 rw[A]
 simp only[J,M]
 simp[run_eqGuard_agg T .neq t x y F I m.2.2.1,run_neq_struct,O]
end
section
variable{P:Program}{ops:Array Oper}{rest:List Oper}{s:St}{K:St->Prop}{o:Oper}
theorem AN.split c(j:c=true->AN P ops rest s K)(l:c=false->AN P ops rest s K):AN P ops rest s K:=by
 cases c
 .exact l rfl
 .exact j rfl
theorem KS{d}{c}(E:Cg s.e ops o c)(hc:c=false)(hd:o.dst=some d)
 (F:Nat.blt d s.N=true) (I:AN P ops rest { e := (d, .whn c (.r (.bool false)))::s.e, h := s.h, n := s.n, N := s.N } K):AN P ops (o::rest) s K := by
  intro J a w ⟨_, j, hsz, y, l, m, q, M, O, C⟩ Q T
  subst l
  have A:d<a.tmps.size := by rw[hsz];exact B8 F
  refine wpList_step λU B => ?_
  rw[E.wanted C, wv (by rw[hc];decide)]
  refine B _ _ ?_
  rw[hd]
  exact I J (a.put (some d) undef) y.w ⟨_, j, by simpa[Act.put] using hsz, y, rfl, m, q, M, O, C.put A (.whn (λh => by rw[hc] at h;cases h) (λ_ => rfl))⟩ Q T
theorem wB{c}(C:Cg s.e ops o c)(hc:c=false)(hd:o.dst=none)(E:AN P ops rest s K):AN P ops (o::rest) s K:=by
 intro F a w ⟨_,j,hsz,y,l,m,q,I,J,B⟩ Q M
 subst l
 refine wpList_step λO A=>?_
 rw[C.wanted B,wv (by rw[hc];decide)]
 refine A _ _ ?_
 rw[hd]
 exact E F (a.put none undef) y.w ⟨_,j,hsz,y,rfl,m,q,I,J,B⟩ Q M
end
section
variable{P:Program}
def NJ(G:ResultVar->AV->Prop):List ResultVar->List AV->Prop
 | [],[]=>True
 | x::l,r::j=>G x r/\NJ G l j
 | _,_=>False
def NT(G:ResultVar->AV->Prop)(j:List ResultVar)(r:AV):Prop:=match j with
 | [x]=>G x r
 | _=>∃l,r=.tup l/\NJ G j l
theorem NJ.get{G}{j:List ResultVar}{l:List AV}(h:NJ G j l):j.length=l.length/\∀(i:Nat) (x:ResultVar),j[i]?=some x->∃r,l[i]?=some r/\G x r:=by
 induction j generalizing l with
 | nil=>cases l with | nil=>exact⟨rfl,by simp⟩ | cons _ _=>exact h.elim
 | cons x j q=>
  cases l with
  | nil=>exact h.elim
  | cons r l=>
   obtain⟨w,A⟩:=q h.2
   refine⟨by simp[w],λi y m=>?_⟩
   cases i with
   | zero=>simp at m;subst m;exact⟨r,rfl,h.1⟩
   | succ i=>simpa using A i y (by simpa using m)
theorem bP{fn:Func}{y z:Cx}{a:Act}{r}(G:ResultVar->AV->Prop)(hG:∀x r,G x r->∃u,AP z r u/\(F5 a.tmps x).run P y.w=.ok u y.w)(q:NT G fn.results.toList r):∃u,(results fn a.tmps).run P y.w=.ok u y.w/\AP z r u:=by
 by_cases A:fn.results.toList.length=1
 .obtain⟨x0,I⟩:=List.length_eq_one_iff.1 A
  rw[I] at q
  obtain⟨u,hr,B⟩:=hG x0 r q
  have m:=Sx (P:=P) (fn:=fn) (tmps:=a.tmps) (w:=y.w) [u] (λi x U=>by
   have j:fn.results.toList[i]?=some x:=by simpa using U
   rw[I] at j
   cases i with
   | zero=>simp at j;subst j;exact⟨u,rfl,B⟩
   | succ i=>simp at j) (by rw[<- xq,A];rfl)
  exact⟨_,m,hr⟩
 .have Z:∃l,r=.tup l/\NJ G fn.results.toList l:=by
   revert q A
   generalize fn.results.toList=rs
   intro q A
   match rs,A,q with
   | [],_,q=>exact q
   | [_],A,_=>exact absurd rfl A
   | _::_::_,_,q=>exact q
  obtain⟨l,rfl,J⟩:=Z
  obtain⟨hl,hg⟩:=J.get
  have C:∀i,i<l.length->∃u,∀x r,fn.results.toList[i]?=some x->l[i]?=some r->AP z r u/\(F5 a.tmps x).run P y.w=.ok u y.w:=by
   intro i U
   have M:i<fn.results.toList.length:=by omega
   obtain⟨r,V,h3⟩:=hg i _ (wz M)
   obtain⟨u,h4,h5⟩:=hG _ _ h3
   refine⟨u,λx r' O X=>?_⟩
   rw[wz M] at O;cases O
   rw[V] at X;cases X
   exact⟨h4,h5⟩
  obtain⟨F,E,T⟩:=UH l.length C
  have hsz:F.length=fn.results.size:=by rw[E,<- hl,xq]
  have m:=Sx (P:=P) (fn:=fn) (tmps:=a.tmps) (w:=y.w) F (λi x U=>by
   have j:fn.results.toList[i]?=some x:=by simpa using U
   obtain⟨r,V,_⟩:=hg i x j
   have w:i<F.length:=by rw[E];exact(wx.1 V).1
   exact⟨F[i],wz w,(T i _ (wz w) x r j V).2⟩) hsz
  have a0:¬ F.toArray.size=1:=by
   rw[zc,hsz]
   exact λe=>A (by rw[xq];exact e)
  rw[WAM a0] at m
  refine⟨_,m,.tup (by rw[zc,E]) λi c u O X=>?_⟩
  have k3:F[i]?=some u:=by simpa using X
  have w:i<fn.results.toList.length:=by rw[hl];exact(wx.1 O).1
  exact(T i u k3 _ c (wz w) O).1
def EF(P:Program)(s:St):ResultVar->AV->Prop
 | .tmp t,r=>Fz s.h (get s.e t) r
 | .cell a t,r=>(∃id g e c,BH P t/\get s.e a=.ptr id g 0 0/\hget s.h id=some (.box g e [c])/\Fz s.h c r)\/(∃sz id g e j,BW P t sz/\get s.e a=.ptr id g 0 0/\hget s.h id=some (.box g e j)/\j.length=sz/\Fz s.h (.agg j) r)
theorem EF.rep{y:Cx}(q:y.ok){s:St}(A:y.H=hget s.h){a:Act}(E:Bv y s.e a)(x:ResultVar)(r:AV)(hr:EF P s x r):∃u,AP y.frozen r u/\(F5 a.tmps x).run P y.w=.ok u y.w:=by
 cases x with
 | tmp t=>exact⟨_,Fz.rep q A hr (E t),rfl⟩
 | cell c t=>
  rcases hr with ⟨id,g,e,v,F,I,J,M⟩ | ⟨sz,id,g,e,cs,F,I,J,hl,M⟩
  .have w:y.H id=some (.box g e [v]):=by rw[A];exact J
   have B:=E c
   rw[I] at B
   obtain⟨b,l,k1,O,T,k4,U⟩:=IQ q w B
   obtain⟨u,V,_,X⟩:=U 0 v rfl
   refine⟨u,Fz.rep q A M X,?_⟩
   obtain⟨d,i,e1,e2,_,_⟩:=F
   have m:=(cell_of_row _ b 0 l e _ T).trans V
   simp only[F5,O]
   simp[asAddr,loadVar,IV e1,e2,m]
  .have w:y.H id=some (.box g e cs):=by rw[A];exact J
   have B:=E c
   rw[I] at B
   obtain⟨b,l,k1,O,T,k4,U⟩:=IQ q w B
   have m:∀j,j<sz->y.w.cell? ⟨b,0+j,none⟩=some ((λj=>l.getD j undef) j):=by
    intro j hj
    have Z:j<l.size:=by omega
    rw[xd,cell_of_row _ b j l e _ T]
    simp[Z]
   refine⟨.agg ((List.range sz).map λj=>l.getD j undef).toArray,Fz.rep q A M (JD hl _ λj a hj=>?_),?_⟩
   .obtain⟨u,V,_,X⟩:=U _ _ hj
    obtain⟨h8,h9⟩:=xt.1 V
    simpa[h8,h9] using X
   .have C:=J0 (P:=P) F (w:=y.w) (b:=b) (k:=0) (λj=>l.getD j undef) m
    simp only[F5,O]
    simpa[asAddr,Instr.loadAt,Instr.sureAddr] using C
def Fk(P:Program)(j:List ResultVar)(r:AV):Exit->St->Prop
 | .normal,s | .ret,s=>NT (EF P s) j r
 | _,_=>False
theorem vz {f} {fn : Func} {code} {args : List AV} {r : AV} {N} (Z : P.funcs[f]? = some fn) (hb : fn.body = some code) (E : (fn.name == "runtime.NumGoroutine") = false) (hN : fn.ntmps = N) (hr : r.closed = true)
 (a0:args.length<=N) (hw:∀n0, AW P code (Fk P fn.results.toList r) ⟨Da 0 args, [], n0, N⟩):AY P f args r := by
  refine⟨⟨fn, Z, by rw[hb];rfl, E⟩, hr, λx B F hH q => ?_⟩
  have X:B.size=args.length := by simpa using q.1
  have I:D9 x ⟨Da 0 args, [], x.n, N⟩ { tmps := B++Array.replicate (fn.ntmps - B.size) undef, defers := [] } x.w := by
    refine⟨_, rfl, by simp;omega, x, rfl, .refl x, F, by rw[hH];rfl, rfl, λt => ?_⟩
    rcases Q9 args 0 t with O | ⟨j, a, O, T, h3⟩
    · rw[O];exact .any _
    · rw[h3]
      have hj:j<B.size := by rw[X];exact(wx.1 T).1
      have ht:t=j := by omega
      subst ht
      have:(B++Array.replicate (fn.ntmps - B.size) undef).getD t undef=B[t] := by
        simp[Array.getD, hj]
        omega
      rw[this]
      exact q.2 t a B[t] T (by simp[hj])
  have J:∀ {e:Exit} {a:Act} {y:Cx} {s:St}, NT (EF P s) fn.results.toList r->x.le y->y.ok->y.H=hget s.h->y.n=s.n->Bv y s.e a->∃u, (results fn a.tmps).run P y.w=.ok u y.w/\∃u' U, Ending.returned u=.returned u'/\U.w=y.w/\x.le U/\U.ok/\AP U r u' := by
    intro e a y s C w m A _ V
    obtain⟨u, O, T⟩ := bP (P := P) (fn := fn) (y := y) (z := y.frozen) (a := a) (EF P s) (λx r h => EF.rep m A V x r h) C
    exact⟨u, O, u, y.frozen, rfl, rfl, w.trans Xb, T6 m, T⟩
  refine TW Z hb F I (hw x.n) λe s a y C w m A M V => ?_
  cases e with
  | normal => exact⟨.inl rfl, J (e := .normal) C w m A M V⟩
  | ret => exact⟨.inr rfl, J (e := .ret) C w m A M V⟩
  | exit id => exact C.elim
  | goto l => exact C.elim
  | panic ch => exact C.elim
  | outgrown => exact C.elim
theorem EF.t{s:St}{t}{r}(h:Fz s.h (get s.e t) r):EF P s (.tmp t) r:=h
theorem EF.a{s:St}{a t id g e sz}{cs:List AV}{r}(j:BW P t sz)(l:get s.e a=.ptr id g 0 0)(m:hget s.h id=some (.box g e cs))(q:cs.length=sz)(h:Fz s.h (.agg cs) r):EF P s (.cell a t) r:=.inr ⟨_,_,_,_,_,j,l,m,q,h⟩
end
theorem C3{ρ:Type}{P}{T r}{x}{s}{j}(l:ρ->AV)(e:some T=some r)(q:x=.ret\/x=.normal)(m:EF P s j (l T)):Fk P [j] (l r) x s:=by
 cases e
 rcases q with rfl | rfl
 .exact m
 .exact m
theorem EI{ρ:Type}{P}{T r}{x}{s}{j l}(m:ρ->AV)(q:ρ->AV)(e:some T=some r)(B:x=.ret\/x=.normal)(w:EF P s j (m T))(A:EF P s l (q T)):Fk P [j,l] (.tup [m r,q r]) x s:=by
 cases e
 rcases B with rfl | rfl
 .exact⟨_,rfl,⟨w,A,trivial⟩⟩
 .exact⟨_,rfl,⟨w,A,trivial⟩⟩
theorem Fz.d{h}{a}{d}(e:a=.r d):Fz h a (.r d):=by subst e;exact .one (.closed _ rfl)
theorem Fz.g{h}{a}{cs:List RV}{ds}(e:a=.agg ds)(e2:ds=cs.map .r):Fz h a (.agg ds):=by subst e;subst e2;exact .one (.closed _ (jl _))
theorem Fm.of{P:Program}{t}{j:Array Field}{ds}(l:P.underlying t=some (.struct j))(m:P.stoodInHeld t=false)(q:P.eqGuardType P.depth t=false)(w:PI P 0 j.toList ds):Fm P t ds:=by
 have:P.fieldsOf t=j:=by unfold Program.fieldsOf;rw[l]
 exact⟨by rw[this];exact l,m,q,by rw[this];exact w⟩
def CR(k:IntKind)(a b:Int):Int:=k.wrap (BitVec.ofInt k.bits a &&& BitVec.ofInt k.bits b).toNat
def EJ(k:IntKind)(a b:Int):Int:=k.wrap (BitVec.ofInt k.bits a ||| BitVec.ofInt k.bits b).toNat
def XH(k:IntKind)(a b:Int):Int:=k.wrap (BitVec.ofInt k.bits a ^^^ BitVec.ofInt k.bits b).toNat
def Pa(k:IntKind)(a b:Int):Int:=k.wrap (BitVec.ofInt k.bits a &&& ~~~BitVec.ofInt k.bits b).toNat
def Di(k:IntKind)(a:Int)(n:Nat):Int:=k.wrap (a * 2 ^ (min n k.bits))
def Fh(k:IntKind)(a:Int)(n:Nat):Int:=a.fdiv (2 ^ (min n k.bits))
def FZ(l:List Int):List UInt8:=l.map λn=>UInt8.ofNat n.toNat
def GE(s:List UInt8)(p:Nat):Nat × Nat:=Utf8.decode ⟨s.toArray⟩ p
def TG(s:List UInt8):Option Bool:=if s.length<=9223372036854775807 then some (Lib.validD s) else none
open Go.ChangeMaps (setBlock)
open Go.MapKept Go.RowKit
section
variable{P:Program}{c:Bool}{o:Oper}{R:Aa}{h:AL}{n:Nat}
end
end Go.Proofs.YtcgleifameckmaaGreatDoor.Al

namespace Go.Proofs.YtcgleifameckmaaGreatDoor.Al
open Go.ChangeMaps (setBlock)
open Go.MapKept Go.RowKit
set_option linter.unusedVariables false
section
variable{P:Program}{ops:Array Oper}{rest:List Oper}{s:St}{K:St->Prop}{o:Oper}
def I1(P:Program)(j:List ResultVar)(K:AV->AL->Nat->Prop):Exit->St->Prop
 | .normal,s | .ret,s=>∃r,KU P j s r/\K r s.h s.n
 | _,_=>False
theorem ny{f}{fn:Func}{code}{args:List AV}{vs:Array Value}{h}{n N}{z:Cx}{K}(hf:P.funcs[f]?=some fn)(hb:fn.body=some code)(hN:fn.ntmps=N)
 (X:args.length<=N) (F:z.ok) (hH:z.H=hget h) (hn:z.n=n) (q:Fy z args vs.toList) (hw:AW P code (I1 P fn.results.toList K) ⟨Da 0 args, h, n, N⟩) :
    Calls P f vs z.w λe w' => ∃u y r h' n', e=.returned u/\y.w=w'/\z.le y/\y.ok/\y.H=hget h'/\y.n=n'/\AP y r u/\K r h' n' := by
  have V:vs.size=args.length := by simpa using q.1
  have I:D9 z ⟨Da 0 args, h, n, N⟩ { tmps := vs++Array.replicate (fn.ntmps - vs.size) undef, defers := [] } z.w := by
    refine⟨_, rfl, by simp;omega, z, rfl, .refl z, F, hH, hn, λt => ?_⟩
    rcases Q9 args 0 t with O | ⟨j, a, O, T, h3⟩
    · rw[O];exact .any _
    · rw[h3]
      have Z:j<vs.size := by rw[V];exact(wx.1 T).1
      have ht:t=j := by omega
      subst ht
      have:(vs++Array.replicate (fn.ntmps - vs.size) undef).getD t undef=vs[t] := by
        simp[Array.getD, Z]
        omega
      rw[this]
      exact q.2 t a vs[t] T (by simp[Z])
  have J:∀ {e:Exit} {a:Act} {y:Cx} {s:St}, (∃r, KU P fn.results.toList s r/\K r s.h s.n)->z.le y->y.ok->y.H=hget s.h->y.n=s.n->Bv y s.e a ->
      ∃u, (results fn a.tmps).run P y.w=.ok u y.w/\∃u' C r h' n', Ending.returned u=.returned u'/\C.w=y.w/\z.le C/\C.ok/\C.H=hget h'/\C.n=n'/\AP C r u'/\K r h' n' := by
    intro e a y s ⟨r, O, T⟩ A m w B U
    obtain⟨u, M, hu⟩ := dL (P := P) m w U O
    exact⟨u, M, u, y, r, s.h, s.n, rfl, rfl, A, m, w, B, hu, T⟩
  refine TW hf hb F I (hw) λe s a y E A m w B U => ?_
  cases e with
  | normal => exact⟨.inl rfl, J (e := .normal) E A m w B U⟩
  | ret => exact⟨.inr rfl, J (e := .ret) E A m w B U⟩
  | exit id => exact E.elim
  | goto l => exact E.elim
  | panic ch => exact E.elim
  | outgrown => exact E.elim
theorem Rb{f}{fn:Func}{code}{fo}{xs:Array Operand}{J}{caps bs:List AV}{R}{h}{n N}{a:Act}{z:Cx}{K0}
 (ho : o.op = .call { callee := .value fo, args := xs, argTypes := J }) (M : Ev true R fo (.fn f caps)) (hx : HT true R xs.toList bs) (hf : P.funcs[f]? = some fn) (hb : fn.body = some code) (m : (fn.name == "runtime.NumGoroutine") = false)
 (hN:fn.ntmps=N) (w:(bs++caps).length<=N) (O:z.ok) (hH:z.H=hget h) (hn:z.n=n) (he:Bv z R a) (hw:AW P code (I1 P fn.results.toList K0) ⟨Da 0 (bs++caps), h, n, N⟩) (K:Act->World->Prop) (Q:Exit->Act->World->Prop)
 (hK:∀(u:Value) (y:Cx) (r:AV) (F:AL) (n':Nat), z.le y->y.ok->y.H=hget F->y.n=n'->AP y r u->K0 r F n'->K (a.put o.dst u) y.w):o.wp P a z.w K Q := by
  obtain⟨l, T⟩ := hx.rep rfl he
  have hv := M.rep he rfl
  generalize U:a.eval fo=v at hv
  cases hv with
  | @fn _ _ us hl A =>
    have B := Na (P := P) ⟨fn, hf, by rw[hb];rfl, m⟩ ho U z.w
    have q:Fy z (bs++caps) (xs.map a.eval++us).toList := by
      refine⟨by simp[hl];simpa using l.symm, λi b u I h2 => ?_⟩
      have j:((xs.toList.map a.eval)++us.toList)[i]?=some u := by simpa using h2
      by_cases hi:i<bs.length
      · rw[xT hi] at I
        rw[xT (by simp at l ⊢;omega)] at j
        exact T i b u I j
      · rw[xP (by omega)] at I
        rw[xP (by simp at l ⊢;omega)] at j
        have C:(xs.toList.map a.eval).length=bs.length := by simpa using l.symm
        rw[C] at j
        exact A _ b u I (by simpa using j)
    unfold Oper.wp
    rw[B]
    refine(ny hf hb hN w O hH hn q hw).mono λe w' ⟨u, y, r, F, n', he', V, X, E, Z, a0, a1, hk⟩ => ?_
    subst he'
    subst V
    exact hK u y r F n' X E Z a0 a1 hk
theorem wZ{d}{f}{fn:Func}{code}{fo}{xs:Array Operand}{B}{N}(caps bs:List AV)(hg:o.guard=none)(hd:o.dst=some d)(C:Nat.blt d s.N=true)
 (ho : o.op = .call { callee := .value fo, args := xs, argTypes := B }) (E : Ev true s.e fo (.fn f caps)) (hx : HT true s.e xs.toList bs) (hf : P.funcs[f]? = some fn) (hb : fn.body = some code) (j : (fn.name == "runtime.NumGoroutine") = false)
 (hN:fn.ntmps=N) (l:Nat.ble (bs++caps).length N=true)
 (hw:AW P code (I1 P fn.results.toList λr X n' => AN P ops rest { e := (d, r)::s.e, h := X, n := n', N := s.N } K) ⟨Da 0 (bs++caps), s.h, s.n, N⟩):AN P ops (o::rest) s K := by
  intro c0 a w ⟨_, m, hsz, y, F, I, J, hH, hn, Z⟩ Q hQ
  subst F
  refine wpList_plain hg λK' M => ?_
  refine Rb ho E hx hf hb j hN (xu l) J hH hn Z hw K' Q λu z r X n' q A O T U hr => ?_
  refine M _ _ ?_
  have V:d<a.tmps.size := by rw[hsz];exact B8 C
  rw[hd]
  exact hr c0 (a.put (some d) u) z.w ⟨_, m, by simpa[Act.put] using hsz, z, rfl, I.trans q, A, O, T, (Z.mono q).put V U⟩ Q hQ
theorem wG{f}{fn:Func}{code}{fo}{xs:Array Operand}{B}{N}(caps bs:List AV)(hg:o.guard=none)(hd:o.dst=none)
 (V : o.op = .call { callee := .value fo, args := xs, argTypes := B }) (C : Ev true s.e fo (.fn f caps)) (X : HT true s.e xs.toList bs) (Z : P.funcs[f]? = some fn) (hb : fn.body = some code) (j : (fn.name == "runtime.NumGoroutine") = false)
 (hN:fn.ntmps=N) (l:Nat.ble (bs++caps).length N=true)
 (hw:AW P code (I1 P fn.results.toList λ_ T n' => AN P ops rest { e := s.e, h := T, n := n', N := s.N } K) ⟨Da 0 (bs++caps), s.h, s.n, N⟩):AN P ops (o::rest) s K := by
  intro c0 a w ⟨_, m, hsz, y, E, F, I, hH, hn, U⟩ Q hQ
  subst E
  refine wpList_plain hg λK' J => ?_
  refine Rb V C X Z hb j hN (xu l) I hH hn U hw K' Q λu z r T n' q A M O a0 hr => ?_
  refine J _ _ ?_
  rw[hd]
  exact hr c0 _ z.w ⟨_, m, hsz, z, rfl, F.trans q, A, M, O, U.mono q⟩ Q hQ
def Hh(P:Program)(x:Code)(Q:Exit->St->Prop):Nat->St->Prop
 | 0,_=>False
 | n+1,s=>AW P x (Es (Hh P x Q n) Q) s
theorem Hh.step{Q}{x}{n}(h:AW P x (Es (Hh P x Q n) Q) s):Hh P x Q (n+1) s:=h
theorem wR{Q}{x}(n:Nat)(h:Hh P x Q n s):AW P (.loop x) Q s:=by
 refine AW.loop (λm s=>Hh P x Q m s) n ⟨s,AZ.refl s,h⟩ λm s j=>?_
 cases m with
 | zero=>exact j.elim
 | succ m=>
  refine AW.mono (show AW P x (Es (Hh P x Q m) Q) s from j) λe l q=>?_
  cases e with
  | normal=>exact⟨m,ye m,l,AZ.refl l,q⟩
  | _=>exact q
section
variable{c:Bool}{R:Aa}{h:AL}{n:Nat}
end
end
end Go.Proofs.YtcgleifameckmaaGreatDoor.Al

namespace Go.Proofs.YtcgleifameckmaaGreatDoor.Al
section
variable{P:Program}{ops:Array Oper}{rest:List Oper}{s:St}{K:St->Prop}{o:Oper}
theorem AS.no{c}{R}{h}{v}(hc:c=false):AS P c o R h v:=λh=>by rw[hc] at h;cases h
theorem wb{c}{d}{f}{fn:Func}{code}{fo}{xs:Array Operand}{C}{N} caps bs(hG:Cg s.e ops o c)(hc:c=true)(hd:o.dst=some d)(E:Nat.blt d s.N=true)
 (ho : o.op = .call { callee := .value fo, args := xs, argTypes := C }) (F : Ev true s.e fo (.fn f caps)) (hx : HT true s.e xs.toList bs) (hf : P.funcs[f]? = some fn) (hb : fn.body = some code) (j : (fn.name == "runtime.NumGoroutine") = false)
 (hN:fn.ntmps=N) (l:Nat.ble (bs++caps).length N=true)
 (hw:∀B:AV->AL->Nat->Prop, (∀r I n', AN P ops rest { e := (d, r)::s.e, h := I, n := n', N := s.N } K->B r I n')->AW P code (I1 P fn.results.toList B) ⟨Da 0 (bs++caps), s.h, s.n, N⟩):AN P ops (o::rest) s K := by
  intro c0 a w ⟨_, m, hsz, y, J, M, O, hH, hn, T⟩ Q hQ
  subst J
  refine wpList_step λB U => ?_
  rw[hG.wanted T, ww hc]
  refine Rb ho F hx hf hb j hN (xu l) O hH hn T (hw _ λ_ _ _ h => h) B Q λu z r I n' q A V X Z hr => ?_
  refine U _ _ ?_
  have a0:d<a.tmps.size := by rw[hsz];exact B8 E
  rw[hd]
  exact hr c0 (a.put (some d) u) z.w ⟨_, m, by simpa[Act.put] using hsz, z, rfl, M.trans q, A, V, X, (T.mono q).put a0 Z⟩ Q hQ
end
section
variable{P:Program}{ops:Array Oper}{rest:List Oper}{s:St}{K:St->Prop}{o:Oper}
def Bn(P:Program)(ops:Array Oper)(rest:List Oper)(s:St)(K:St->Prop):Prop:=
 ∀(j:Cx) (a:Act) (w:World),D9 j s a w->∀Q:Exit->Act->World->Prop,¬ LetsOut Q->(∀l m w',K l->D9 j l m w'->Q .normal m w')->wpListIn (zF none) 0 P ops Q rest a w
theorem Bn.nil(h:K s):Bn P ops [] s K:=λ_ a w j _ _ l=>l s a w h j
theorem Bn.weak{s'}(hw:AZ s s')(h:Bn P ops rest s' K):Bn P ops rest s K:=λj a w l=>h j a w (hw _ _ _ l)
theorem Bn.cons{K1}(h:AN P ops [o] s K1)(V:∀O,K1 O->Bn P ops rest O K):Bn P ops (o::rest) s K:=by
 intro T a w X Q j Z
 have q:=h T a w X (λe F w'=>match e with | .normal=>wpListIn (zF none) 0 P ops Q rest F w' | e=>Q e F w') λs' F w' hk I=>V s' hk T F w' I Q j Z
 unfold wpList at q
 unfold wpListIn
 split
 .rename_i J
  rw[ww J] at q
  rcases q with q | q
  .have U:=Wu (z:=none) (.inl rfl) q
   refine⟨U.1,?_⟩
   have m:=U.2
   generalize (o.semAt (zF none).round a.eval).run P w=r at m ⊢
   cases r with
   | ok x w'=>
    cases x with
    | enter f args=>
     refine⟨m.1,m.2.mono λe M A=>?_⟩
     cases e with
     | returned v=>exact A
     | panicked ch=>exact A
     | outgrown=>exact absurd (by obtain⟨B,C,E⟩:=A;exact⟨B,C,E⟩) j
    | row a1 args=>exact⟨m.1,m.2⟩
    | round l f t a2 b=>
     refine⟨m.1,m.2.mono λe M A=>?_⟩
     cases e with
     | returned v=>exact A
     | panicked ch=>exact A
     | outgrown=>exact absurd (by obtain⟨B,C,E⟩:=A;exact⟨B,C,E⟩) j
    | value v=>exact m
    | skip=>exact m
    | defer d=>exact m
    | _=>exact m.elim
   | halt x w'=>cases x<;>first | exact m | exact m.elim
  .exact absurd (by obtain⟨_,B,C,E⟩:=q;exact⟨B,C,E⟩) j
 .rename_i J
  rw[wv J] at q
  exact⟨λ_ _=>trivial,q⟩
theorem dJ{Q}{K}{a:Act}{w}{z}(l:z=none\/Hq o=true)(h:o.wpIn (zF none) 0 P a w K Q):o.wpIn (zF z) 0 P a w K Q:=by
 refine⟨λ_ _=>trivial,?_⟩
 have j:=h.2
 rw[show(zF z).round=z from rfl,Uf l]
 rw[show(zF none).round=none from rfl,Uf (.inl rfl)] at j
 generalize (execOp a.eval o).run P w=r at j ⊢
 cases r with
 | ok x w'=>cases x<;>exact j
 | halt x w'=>cases x<;>exact j
theorem UG{Q}{z} : ∀(l:List Oper) (a:Act) (w:World),(z=none\/l.all Hq=true)->wpListIn (zF none) 0 P ops Q l a w->wpListIn (zF z) 0 P ops Q l a w
 | [],_,_,_,h=>h
 | o::l,a,w,A,h=>by
  have m:z=none\/Hq o=true:=A.imp id λh=>by simp only[WAX,xE] at h;exact h.1
  have j:z=none\/l.all Hq=true:=A.imp id λh=>by simp only[WAX,xE] at h;exact h.2
  unfold wpListIn at h ⊢
  split
  .rename_i q
   rw[ww q] at h
   exact dJ m (Oper.wpIn_mono (λa w h=>UG l a w j h) h)
  .rename_i q
   rw[wv q] at h
   exact⟨λ_ _=>trivial,UG l _ w j h.2⟩
theorem g9{id}{l:List Oper}{Q}(h:Bn P l.toArray l s (Q .normal)):AW P (.region id l.toArray false) Q s:=by
 intro z m q a w A
 exact wpIn_region_lit (UG l a w (m.imp _root_.id λh=>by simpa[Ca] using h) (h q a w A _ KQ λB E w' C j=>⟨by simp,B,C,j⟩))
end
theorem VA{x:Cx}(j:x.ok){id g N b}{e0}{ps}{asg bd}{I st'}{pd pd'}{r}(m:x.H id=some (.lp g e0 N ps asg bd I pd))(l:x.β id=some (b,1))(J:x.w.heap[b]?=some (.loop r)) :
  x.le { x with w:=x.w.putObj b (.loop { r with state:=st',pending:=pd' }),H:=λi=>if id=i then some (.lp g e0 N ps asg bd st' pd') else x.H i,K:=λi=>if id=i then λ_=>none else x.K i } /\
  ({ x with w:=x.w.putObj b (.loop { r with state:=st',pending:=pd' }),H:=λi=>if id=i then some (.lp g e0 N ps asg bd st' pd') else x.H i,K:=λi=>if id=i then λ_=>none else x.K i } : Cx).ok:=by
 obtain⟨hg,X,Z,A,F,M,O,T,k6,k7,U,V⟩:=j.obj _ _ m
 rw[l] at A
 simp only[xF,xM] at A
 obtain⟨rfl,_⟩:=A
 rw[J] at F;cases F
 have q:=(j.own id _ b 1 m l).1
 have w:=ES j id (.lp g e0 N ps asg bd st' pd') (x.w.putObj b (.loop { r with state:=st',pending:=pd' })) (some (b,1)) x.n (by rw[World.putObj_size];exact wy _) rfl rfl rfl
  (λc B C=>World.putObj_heap_other λe=>C _ 1 m (by rw[e];exact l)) (λc k B=>by
   simp only[xF,xM] at B
   obtain⟨rfl,rfl⟩:=B
   exact⟨by rw[World.putObj_size];exact q,.inr ⟨_,1,m,l⟩⟩) (wy _) hg (λ_=>⟨_,m,rfl,rfl,l.symm⟩)
  (λE=>⟨b,{ r with state:=st',pending:=pd' },rfl,World.putObj_heap_same q,M,O,T,rfl,rfl,U,λt=>(V t).mono E⟩)
 have e:(λi=>if id=i then some (b,1) else x.β i)=x.β:=by
  funext i
  split
  .rename_i h;subst h;exact l.symm
  .rfl
 rw[e] at w
 exact w
def Ou:List Nat->List AV->Aa->Aa
 | p::j,b::l,e=>Ou j l ((p,b)::e)
 | _,_,e=>e
theorem Yj{x} : ∀(ps:List Nat) (bs:List AV) (us:List Value) (e:Aa) (t:Array Value),bs.length=ps.length->us.length=ps.length->(∀(i:Nat) (b:AV) (u:Value),bs[i]?=some b->us[i]?=some u->AP x b u)->(∀p∈ps,p<t.size)->(∀j,AP x (get e j) (t.getD j undef)) ->
  ((ps.zip us).foldl (λt (p:Nat × Value)=>t.setIfInBounds p.1 p.2) t).size=t.size/\∀j,AP x (get (Ou ps bs e) j) (((ps.zip us).foldl (λt (p:Nat × Value)=>t.setIfInBounds p.1 p.2) t).getD j undef)
 | [],bs,us,e,t,_,_,_,_,l=>by
  cases bs<;>cases us<;>exact⟨rfl,l⟩
 | p::ps,[],us,e,t,h,_,_,_,l=>by cases h
 | p::ps,b::bs,[],e,t,_,h,_,_,l=>by cases h
 | p::ps,b::bs,u::us,e,t,A,B,m,w,l=>by
  have hp:=w p (xY ..)
  obtain⟨C,E⟩:=Yj (x:=x) ps bs us ((p,b)::e) (t.setIfInBounds p u) (by simpa using A) (by simpa using B) (λi b u F I=>m (i+1) b u (by simpa using F) (by simpa using I))
   (λq J=>by rw[Array.size_setIfInBounds];exact w q (xZ _ J)) (λj=>by
    rw[CE,M2 hp]
    split
    .exact m 0 b u rfl rfl
    .exact l j)
  exact⟨by simpa using C,E⟩
def I0(id g:Nat)(C:Bool->AL->Nat->Prop):Exit->St->Prop
 | .normal,s=>∃e0 N l j m,hget s.h id=some (.lp g e0 N l j m .busy none)/\C true ((id,some (.lp g e0 N l j m .ready none))::s.h) s.n
 | .ret,s=>∃e0 N l j m,hget s.h id=some (.lp g e0 N l j m .busy none)/\C false ((id,some (.lp g e0 N l j m .done (some .ret)))::s.h) s.n
 | .exit i,s=>∃e0 N l j m,hget s.h id=some (.lp g e0 N l j m .busy none)/\C false ((id,some (.lp g e0 N l j m .done (some (.exit i))))::s.h) s.n
 | _,_=>False
def Jh(P:Program)(id g:Nat)(bd:Code)(C:Bool->AL->Nat->Prop):Exit->St->Prop
 | .normal,s=>∃e0 N m j l,hget s.h id=some (.lp g e0 N m j l .ready none)/\AW P bd (I0 id g C) ⟨s.e,(id,some (.lp g e0 N m j l .busy none))::s.h,s.n,s.N⟩
 | _,_=>False
section
variable{P:Program}{ops:Array Oper}{rest:List Oper}{s:St}{K:St->Prop}{o:Oper}
theorem kl{z:Cx}{id g N b f}{e0 e1}{ps:List Nat}{asg bd}{r:Loop}{h}{n}{C}{tmps:Array Value}(Z:z.ok)(hH:z.H=hget h)(hn:z.n=n)(hh:hget h id=some (.lp g e0 N ps asg bd .ready none))(hβ:z.β id=some (b, 1))
 (hb:z.w.heap[b]?=some (.loop r)) (hr:r.params=ps.toArray/\r.assign=asg/\r.body=bd/\r.state=.ready/\r.pending=none) (hsz:tmps.size=N) (he:∀t, AP z (get e1 t) (tmps.getD t undef)) (a0:Ca asg=true/\Ca bd=true)
 (hw:AW P asg (Jh P id g bd C) ⟨e1, h, n, N⟩):RoundIn (zF none) (0 - 1) P b f tmps asg bd z.w λe w' => ∃(x:Bool) (y:Cx) (h':AL) (n':Nat), e=.returned (.bool x)/\y.w=w'/\z.le y/\y.ok/\y.H=hget h'/\y.n=n'/\C x h' n' := by
  have ah:g<z.n := (Z.obj id (.lp g e0 N ps asg bd .ready none) (by rw[hH];exact hh)).1
  have A:∀ {y:Cx} {e0:Aa} {N:Nat} {ps:List Nat} {asg bd:Code} {U:LoopState} {V:Option Code}, z.le y->y.H id=some (.lp g e0 N ps asg bd U V)->y.β id=some (b, 1) := by
    intro y e0 N ps asg bd U V ai hy
    obtain⟨o', B, E, h3, h4⟩ := ai.H id _ hy (.inl ah)
    rw[h4, hβ]
  have F:∀ {y:Cx} {e0:Aa} {N:Nat} {ps:List Nat} {asg bd:Code} {U:LoopState} {V:Option Code}, y.ok->y.H id=some (.lp g e0 N ps asg bd U V)->y.β id=some (b, 1)->∃r:Loop, y.w.heap[b]?=some (.loop r)/\r.state=U/\r.pending=V := by
    intro y e0 N ps asg bd U V hy B E
    obtain⟨_, b', r', k1, k2, k3, k4, k5, k6, k7, _⟩ := hy.obj _ _ B
    rw[E] at k1
    simp only[xF, xM] at k1
    obtain⟨rfl, _⟩ := k1
    exact⟨r', k2, k6, k7⟩
  refine roundIn_of_wpIn (F := zF none) trivial (wpIn_mono (hw (some b) (.inr a0.1) z { tmps := tmps, defers := [] } z.w ⟨_, rfl, hsz, z, rfl, .refl z, Z, hH, hn, he⟩) λe a1 w1 ⟨ho, s1, X, aj⟩ => ?_)
  obtain⟨ak, al, an, y1, ao, I, J, a6, aq, ar⟩ := aj
  subst ao
  cases e with
  | normal =>
    obtain⟨e0, N, ps, asg, au, av, aw⟩ := X
    have q:y1.H id=some (.lp g e0 N ps asg au .ready none) := by rw[a6];exact av
    have a7 := A I.le q
    obtain⟨r1, a8, aa, ab⟩ := F J q a7
    obtain⟨t1, t2⟩ := VA (st' := .busy) (pd' := none) J q a7 a8
    have ac := run_beginRound (P := P) a8 aa
    have ad:({ r1 with state := .busy } : Loop) = { r1 with state := .busy, pending := none } := by rw[<- ab]
    rw[ad] at ac
    refine⟨_, ac, ?_⟩
    refine wpIn_mono (aw (some b) (.inr a0.2) z a1 _ ⟨ak, al, an, _, rfl, I.trans t1, t2, by rw[a6];funext i;simp only[BG], aq, λt => (ar t).mono t1⟩) λe a2 w2 ⟨b3, s2, m, ax⟩ => ?_
    obtain⟨b4, b5, b6, y2, ay, M, O, ae, az, b7⟩ := ax
    subst ay
    have T:∀(j:Option Code) (e0:Aa) (N:Nat) (ps:List Nat) (asg bd:Code), hget s2.h id=some (.lp g e0 N ps asg bd .busy none)->C j.isNone ((id, some (.lp g e0 N ps asg bd (if j.isNone then .ready else .done) j))::s2.h) s2.n ->
        ∃v w', (Instr.endRound b j).run P y2.w=.ok v w'/\∃(x:Bool) (y:Cx) (h':AL) (n':Nat), (Ending.returned v)=.returned (.bool x)/\y.w=w'/\z.le y/\y.ok/\y.H=hget h'/\y.n=n'/\C x h' n' := by
      intro j e0 N ps asg bd b0 hc
      have w:y2.H id=some (.lp g e0 N ps asg bd .busy none) := by rw[ae];exact b0
      have af := A M.le w
      obtain⟨r2, ag, b1, b2⟩ := F O w af
      obtain⟨u1, u2⟩ := VA (st' := if j.isNone then .ready else .done) (pd' := j) O w af ag
      exact⟨_, _, run_endRound j ag, j.isNone, _, _, _, rfl, rfl, M.le.trans u1, u2, by rw[ae];funext i;simp only[BG], az, hc⟩
    cases e with
    | normal => obtain⟨e0, N, ps, asg, bd, B, E⟩ := m;exact T none e0 N ps asg bd B E
    | ret => obtain⟨e0, N, ps, asg, bd, B, E⟩ := m;exact T (some .ret) e0 N ps asg bd B E
    | exit i => obtain⟨e0, N, ps, asg, bd, B, E⟩ := m;exact T (some (.exit i)) e0 N ps asg bd B E
    | goto l => exact m.elim
    | panic ch => exact m.elim
    | outgrown => exact m.elim
  | exit i => exact X.elim
  | goto l => exact X.elim
  | ret => exact X.elim
  | panic ch => exact X.elim
  | outgrown => exact X.elim
theorem jC{o:Oper}{fo}{xs:Array Operand}{j}{a:Act}{l}{w}(q:o.op=.call { callee:=.value fo,args:=xs,argTypes:=j })(m:a.eval fo=.func (.yield l) #[] #[]):(execOp a.eval o).run P w=(Instr.yield l (xs.map a.eval)).run P w:=by
 unfold execOp
 rw[q]
 simp only[resolve,m,Deferred.ofValue,Sem.run_bind,Sem.run_pure,Result.andThen_ok,invoke]
 simp
end
end Go.Proofs.YtcgleifameckmaaGreatDoor.Al
