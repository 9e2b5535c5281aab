/- The program logic, a part of it. -/
import Derived.ArgAppend
import Derived.ChangeArms
import Derived.ChangeSame
import Derived.Deep.Fields
import Derived.Deep.LoopGhost
import Derived.Deep.Quiet
import Derived.Deep.Slices
import Derived.Laws.CopyRow
import Derived.Laws.StructEq
import Derived.Lib.ItoaNum
import Derived.Lib.ValidU
import Derived.Maps.AppendAt
import Derived.OpenShut
import Derived.OrdersHeld
import Derived.RangeFuncRecord
import Derived.RowKit
import Derived.Sort.LoopGhostIn
import Derived.StillTail
import Derived.WalkKit
import Derived.WalkLawsBesides
import Derived.WideKeyArgs
import GoSem.Core.Utf8
namespace Go.Proofs.YtkefchjpggjibaaGreatDoor.Al
inductive RV where
 | int (k:IntKind) (n:Int)
 | bool (b:Bool)
 | str (s:List UInt8)
 | sl (xs:List (List RV))
 | any
def YJG:Nat:=0
def YGy:Nat:=1
def YCV:List Int:=List.replicate 128 240++(List.replicate 66 241++(List.replicate 30 2++([19]++(List.replicate 12 3++([35]++(List.replicate 2 3++([52]++(List.replicate 3 4++([68]++List.replicate 11 241)))))))))
def YDn:List (Int × Int):=[(128,191),(160,191),(128,159),(144,191),(128,143)]++List.replicate 11 (0,0)
def YGA:Nat→Option (List RV):=fun g=>
 if g=YJG then some (YCV.flatMap fun z=>[.int .u8 z]) else if g=YGy then some (YDn.flatMap fun p=>[.int .u8 p.1,.int .u8 p.2]) else none
def gPow:Nat:=3
def YKc:Nat→Option (Array Value):=fun g=>if g=gPow then some ((Lib.pow10Tab.map fun z=>Value.int .u64 z).toArray) else none
inductive AV where
 | r (x:RV)
 | agg (cs:List AV)
 | tup (vs:List AV)
 | own (id g:Nat)
 | ptr (id g i k:Nat)
 | rop (row:List RV) (k:Nat)
 | fn (f:FuncId) (caps:List AV)
 | mref (id g:Nat)
 | yld (id g:Nat)
 | full (xs:List (List RV))
 | cst (v:Value)
 | whn (b:Bool) (v:AV)
 | any
inductive AObj where
 | arr (g:Nat) (e:TypeId) (sz:Nat) (xs:List (List RV))
 | box (g:Nat) (e:TypeId) (cs:List AV)
 | hot (g:Nat) (e:TypeId) (xs:List (List RV)) (k id g':Nat)
 | it (g:Nat) (s:List UInt8) (pos:Nat)
 | mp (g:Nat) (ks:List (Int × Nat)) (vs:List AV) (clock:Nat)
 | mi (g mid mg since:Nat) (seen:List Nat) (last:Nat)
 | lp (g:Nat) (e:List (Nat × AV)) (N:Nat) (ps:List Nat) (assign body:Code) (st:LoopState) (pend:Option Code)
def AObj.gen:AObj→Nat
 | .arr g _ _ _=>g
 | .box g _ _=>g
 | .hot g _ _ _ _ _=>g
 | .it g _ _=>g
 | .mp g _ _ _=>g
 | .mi g _ _ _ _ _=>g
 | .lp g _ _ _ _ _ _ _=>g
def AObj.shape:AObj→Bool × Nat × Nat
 | .arr _ _ sz xs=>(true,sz,xs.length)
 | .box _ _ cs=>(false,cs.length,1)
 | .hot _ _ xs _ _ _=>(true,1,xs.length)
 | .it _ _ _=>(false,1,1)
 | .mp _ _ _ _=>(false,1,1)
 | .mi _ _ _ _ _ _=>(false,1,1)
 | .lp _ _ _ _ _ _ _ _=>(false,1,1)
abbrev Env:=List (Nat × AV)
abbrev Heap:=List (Nat × Option AObj)
def get:Env→Nat→AV
 | [],_=>.any
 | (t,v) :: r,k=>match Nat.beq t k with | true=>v | false=>get r k
def hget:Heap→Nat→Option AObj
 | [],_=>none
 | (t,v) :: r,k=>match Nat.beq t k with | true=>v | false=>hget r k
inductive RRep (w:World) (S:Nat→Prop):RV→Value→Prop
 | int (k:IntKind) (n:Int):RRep w S (.int k n) (.int k n)
 | bool (b:Bool):RRep w S (.bool b) (.bool b)
 | str (s:ByteArray):RRep w S (.str s.data.toList) (.string s)
 | snil:RRep w S (.sl []) (.slice none 0 0)
 | sl0 (a:Addr):RRep w S (.sl []) (.slice (some a) 0 0)
 | sl (b off:Nat) (xs:List (List RV)) (cap size:Nat) (u:Nat→Nat→Value) (hS:xs≠[]→S b) (hc:xs.length≤cap) (hm:cap≤maxLen)
   (hsz : ∀ row∈xs,row.length=size)
   (hcell : ∀ i row c x,xs[i]? = some row→row[c]? = some x→w.cell? ⟨b,off+i * size+c,none⟩=some (u i c))
   (hrep : ∀ i row c x,xs[i]? = some row→row[c]? = some x→RRep w S x (u i c)) :
   RRep w S (.sl xs) (.slice (some ⟨b,off,none⟩) xs.length cap)
 | any (v:Value) (h:v.oneCell'=true):RRep w S .any v
theorem RRep.one {w:World} {S:Nat→Prop} {x:RV} {v:Value} (h:RRep w S x v):v.oneCell'=true:=by
 cases h <;> first | rfl | assumption
theorem RRep.mono {w w':World} {S S':Nat→Prop} (hb : ∀ b,S b→w'.heap[b]? = w.heap[b]?) (hS : ∀ b,S b→S' b) {x:RV} {v:Value}
  (h:RRep w S x v):RRep w' S' x v:=by
 induction h with
 | int k n=>exact .int k n
 | bool b=>exact .bool b
 | str s=>exact .str s
 | snil=>exact .snil
 | sl0 a=>exact .sl0 a
 | sl b off xs cap size u hS1 hc hm hsz hcell hrep ih=>
  refine .sl b off xs cap size u (fun h=>hS _ (hS1 h)) hc hm hsz (fun i row c x h1 h2=>?_) ih
  have hne:xs≠[]:=by rintro rfl; simp at h1
  rw [← hcell i row c x h1 h2]
  exact World.cell?_of_block (hb _ (hS1 hne))
 | any v h=>exact .any v h
structure Cx where
 w:World
 S:Nat→Prop
 F:Nat→Prop
 H:Nat→Option AObj
 β:Nat→Option (Nat × Nat)
 n:Nat
def YFz (β:Option (Nat × Nat)) (len:Nat) (v:Value):Prop:=
 match β with
 | none=>len=0∧v = .slice none 0 0
 | some (b,cap)=>v = .slice (some ⟨b,0,none⟩) len cap
inductive YAN (x:Cx):AV→Value→Prop
 | r {d:RV} {v:Value} (h:RRep x.w x.S d v):YAN x (.r d) v
 | agg {cs:List AV} {us:Array Value} (hl:cs.length=us.size) (h : ∀ (i:Nat) (c:AV) (u:Value),cs[i]? = some c→us[i]? = some u→YAN x c u):YAN x (.agg cs) (.agg us)
 | tup {cs:List AV} {us:Array Value} (hl:cs.length=us.size) (h : ∀ (i:Nat) (c:AV) (u:Value),cs[i]? = some c→us[i]? = some u→YAN x c u):YAN x (.tup cs) (.tuple us)
 | own {id g:Nat} {v:Value} (hg:g<x.n) (h1:v.oneCell'=true) (h : ∀ o,x.H id=some o→o.gen=g→YFz (x.β id) o.shape.2.2 v):YAN x (.own id g) v
 | ptr {id g i k:Nat} {v:Value} (hg:g<x.n) (h1:v.oneCell'=true) (h : ∀ o,x.H id=some o→o.gen=g → ∃ b cap,x.β id=some (b,cap)∧v = .pointer (some ⟨b,i * o.shape.2.1+k,none⟩)) :
   YAN x (.ptr id g i k) v
 | mref {id g:Nat} {v:Value} (hg:g<x.n) (h1:v.oneCell'=true) (h : ∀ o,x.H id=some o→o.gen=g → ∃ b cap,x.β id=some (b,cap)∧v = .map (some b)):YAN x (.mref id g) v
 | yld {id g:Nat} {v:Value} (hg:g<x.n) (h1:v.oneCell'=true) (h : ∀ o,x.H id=some o→o.gen=g → ∃ b cap,x.β id=some (b,cap)∧v = .func (.yield b) #[] #[]):YAN x (.yld id g) v
 | full {xs:List (List RV)} {v:Value} (h:RRep x.w x.S (.sl xs) v) (hf : ∃ a,v = .slice a xs.length xs.length):YAN x (.full xs) v
 | rop {row:List RV} {k b off:Nat} (u:Nat→Value) (hS:row≠[]→x.S b) (hc : ∀ j d,row[j]? = some d→x.w.cell? ⟨b,off+j,none⟩=some (u j))
   (hr : ∀ j d,row[j]? = some d→RRep x.w x.S d (u j)):YAN x (.rop row k) (.pointer (some ⟨b,off+k,none⟩))
 | fn {f:FuncId} {cs:List AV} {us:Array Value} (hl:cs.length=us.size) (h : ∀ (i:Nat) (c:AV) (u:Value),cs[i]? = some c→us[i]? = some u→YAN x c u):YAN x (.fn f cs) (.func (.func f) #[] us)
 | cst (v:Value):YAN x (.cst v) v
 | whn {b:Bool} {a:AV} {v:Value} (h:b=true→YAN x a v) (h2:b=false→v=undef):YAN x (.whn b a) v
 | any (v:Value):YAN x .any v
structure Cx.le (x y:Cx):Prop where
 size:x.w.heap.size≤y.w.heap.size
 os:y.w.os=x.w.os
 tape:y.w.tape=x.w.tape
 output:y.w.output=x.w.output
 blk : ∀ b,x.S b∨x.F b→y.w.heap[b]? = x.w.heap[b]?
 S : ∀ b,x.S b→y.S b
 F:y.F=x.F
 n:x.n≤y.n
 H : ∀ id o',y.H id=some o'→o'.gen<x.n → ∃ o,x.H id=some o∧o.gen=o'.gen∧o.shape=o'.shape∧y.β id=x.β id
theorem Cx.le.refl (x:Cx):x.le x:=⟨Nat.le_refl _,rfl,rfl,rfl,fun _ _=>rfl,fun _ h=>h,rfl,Nat.le_refl _,fun _ o h _=>⟨o,h,rfl,rfl,rfl⟩⟩
theorem Cx.le.trans {x y z:Cx} (h:x.le y) (k:y.le z):x.le z where
 size:=Nat.le_trans h.size k.size
 os:=k.os.trans h.os
 tape:=k.tape.trans h.tape
 output:=k.output.trans h.output
 blk b hb:=(k.blk b (hb.imp (h.S b) (fun f=>by rw [h.F]; exact f))).trans (h.blk b hb)
 S b hb:=k.S b (h.S b hb)
 F:=k.F.trans h.F
 n:=Nat.le_trans h.n k.n
 H id o'' ho hg:=by
  obtain ⟨o',h1,h2,h3,h4⟩:=k.H id o'' ho (Nat.lt_of_lt_of_le hg h.n)
  obtain ⟨o,k1,k2,k3,k4⟩:=h.H id o' h1 (by rw [h2]; exact hg)
  exact ⟨o,k1,k2.trans h2,k3.trans h3,h4.trans k4⟩
theorem YAN.mono {x y:Cx} (h:x.le y) {a:AV} {v:Value} (ha:YAN x a v):YAN y a v:=by
 have hb : ∀ b,x.S b→y.w.heap[b]? = x.w.heap[b]?:=fun b hb=>h.blk b (.inl hb)
 induction ha with
 | r hr=>exact .r (hr.mono hb h.S)
 | agg hl _ ih=>exact .agg hl ih
 | tup hl _ ih=>exact .tup hl ih
 | own hg h1 ho=>
  refine .own (Nat.lt_of_lt_of_le hg h.n) h1 fun o' ho' hgen=>?_
  obtain ⟨o,h1,h2,h3,h4⟩:=h.H _ o' ho' (by rw [hgen]; exact hg)
  rw [h4,← h3]
  exact ho o h1 (h2.trans hgen)
 | ptr hg h1 ho=>
  refine .ptr (Nat.lt_of_lt_of_le hg h.n) h1 fun o' ho' hgen=>?_
  obtain ⟨o,h1,h2,h3,h4⟩:=h.H _ o' ho' (by rw [hgen]; exact hg)
  rw [h4,← h3]
  exact ho o h1 (h2.trans hgen)
 | mref hg h1 ho=>
  refine .mref (Nat.lt_of_lt_of_le hg h.n) h1 fun o' ho' hgen=>?_
  obtain ⟨o,h1,h2,h3,h4⟩:=h.H _ o' ho' (by rw [hgen]; exact hg)
  rw [h4]
  exact ho o h1 (h2.trans hgen)
 | yld hg h1 ho=>
  refine .yld (Nat.lt_of_lt_of_le hg h.n) h1 fun o' ho' hgen=>?_
  obtain ⟨o,h1,h2,h3,h4⟩:=h.H _ o' ho' (by rw [hgen]; exact hg)
  rw [h4]
  exact ho o h1 (h2.trans hgen)
 | full hr hf=>exact .full (hr.mono hb h.S) hf
 | @rop row k b off u hS hc hr=>
  refine .rop u (fun hn=>h.S _ (hS hn)) (fun j d hj=>?_) (fun j d hj=>(hr j d hj).mono hb h.S)
  have hne:row≠[]:=fun e=>by subst e; simp at hj
  rw [← hc j d hj]
  exact World.cell?_of_block (hb _ (hS hne))
 | fn hl _ ih=>exact .fn hl ih
 | cst v=>exact .cst v
 | whn _ h2 ih=>exact .whn ih h2
 | any v=>exact .any v
def ORep (x:Cx) (β:Option (Nat × Nat)):AObj→Prop
 | .arr _ e sz xs=>0<sz∧(∀ row∈xs,row.length=sz) ∧ ∃ hdr us,YFz β xs.length hdr∧x.w.ownsRow 0 e sz hdr xs.length us ∧
   ∀ i row c d,xs[i]? = some row→row[c]? = some d → ∃ u,us[i * sz+c]? = some u∧RRep x.w x.S d u
 | .box _ e cs=>∃ (b:Nat) (cur:Array Value),β=some (b,1)∧x.w.heap[b]? = some (.cells cur e (0,0))∧cur.size=cs.length ∧
   ∀ (j:Nat) (c:AV),cs[j]? = some c → ∃ u:Value,cur[j]? = some u∧u.oneCell'=true∧YAN x c u
 | .hot _ e xs k id g'=>k<xs.length∧(∀ row∈xs,row.length=1) ∧ ∃ hdr us,YFz β xs.length hdr∧x.w.ownsRow 0 e 1 hdr xs.length us ∧
   (∀ i row d,i≠k→xs[i]? = some row→row[0]? = some d → ∃ u,us[i]? = some u∧RRep x.w x.S d u) ∧ ∃ u,us[k]? = some u∧YAN x (.own id g') u
 | .it _ s pos=>∃ b:Nat,β=some (b,1)∧x.w.heap[b]? = some (.stringIter ⟨s.toArray⟩ pos)
 | .mp _ ks vs clock=>∃ (b:Nat) (us:List Value),β=some (b,1)∧us.length=ks.length∧vs.length=ks.length ∧
   x.w.heap[b]? = some (.map ((ks.zip us).map fun p=>({ key:=.int .i64 p.1.1,val:=p.2,born:=p.1.2 } : MapEntry)).toArray clock) ∧
   ∀ (j:Nat) (c:AV) (u:Value),vs[j]? = some c→us[j]? = some u→YAN x c u
 | .mi _ mid mg since seen last=>∃ b m:Nat,β=some (b,1)∧x.w.heap[b]? = some (.mapIter (some m) since seen.toArray last)∧YAN x (.mref mid mg) (.map (some m))
 | .lp _ e N ps assign body st pend=>∃ (b:Nat) (r:Loop),β=some (b,1)∧x.w.heap[b]? = some (.loop r)∧r.params=ps.toArray∧r.assign=assign∧r.body=body∧r.state=st∧r.pending=pend∧r.tmps.size=N ∧
   ∀ t,YAN x (get e t) (r.tmps.getD t undef)
structure YGi (x:Cx):Prop where
 tab : ∀ g row,YGA g=some row→YAN x (.rop row 0) (.pointer (some ⟨g,0,none⟩))
 whole : ∀ g cs,YKc g=some cs→x.S g∧0<cs.size ∧ ∃ t p,x.w.heap[g]? = some (.cells cs t p)
theorem YGi.le {x y:Cx} (h:YGi x) (hle:x.le y):YGi y:=⟨fun g row hg=>(h.tab g row hg).mono hle,fun g cs hg=>by
 obtain ⟨h1,h0,t,p,h2⟩:=h.whole g cs hg
 exact ⟨hle.S g h1,h0,t,p,by rw [hle.blk g (.inl h1),h2]⟩⟩
theorem YGi.same {x y:Cx} (h:YGi x) (hw:y.w=x.w) (hS : ∀ b,x.S b→y.S b):YGi y:=by
 refine ⟨fun g row hg=>?_,fun g cs hg=>by rw [hw]; exact ⟨hS g (h.whole g cs hg).1,(h.whole g cs hg).2⟩⟩
 have hb : ∀ b,x.S b→y.w.heap[b]? = x.w.heap[b]?:=fun _ _=>by rw [hw]
 have h1:=h.tab g row hg
 generalize hv:(Value.pointer (some ⟨g,0,none⟩))=v at h1
 cases h1 with
 | rop u h1 h2 h3=>exact .rop u (fun h=>hS _ (h1 h)) (fun j d hj=>by rw [hw]; exact h2 j d hj) (fun j d hj=>(h3 j d hj).mono hb hS)
structure Cx.ok (x:Cx):Prop where
 S_lt : ∀ b,x.S b→b<x.w.heap.size
 F_lt : ∀ b,x.F b→b<x.w.heap.size
 SF : ∀ b,x.S b → ¬ x.F b
 obj : ∀ id o,x.H id=some o→o.gen<x.n∧ORep x (x.β id) o
 own : ∀ id o b k,x.H id=some o→x.β id=some (b,k)→b<x.w.heap.size ∧ ¬ x.S b ∧ ¬ x.F b
 inj : ∀ id id' o o' b k k',x.H id=some o→x.H id'=some o'→x.β id=some (b,k)→x.β id'=some (b,k')→id=id'
 tabs:YGi x
theorem ORep.mono {x y:Cx} (h:x.le y) {β:Option (Nat × Nat)} (hblk : ∀ b k,β=some (b,k)→y.w.heap[b]? = x.w.heap[b]?) {o:AObj} (ho:ORep x β o):ORep y β o:=by
 have hb : ∀ b,x.S b→y.w.heap[b]? = x.w.heap[b]?:=fun b hb=>h.blk b (.inl hb)
 cases o with
 | arr g e sz xs=>
  obtain ⟨h0,hrow,hdr,us,hh,hown,hc⟩:=ho
  refine ⟨h0,hrow,hdr,us,hh,?_,fun i row c d h1 h2=>?_⟩
  ·obtain ⟨hl,hr⟩:=hown
   refine ⟨hl,?_⟩
   rcases hr with hr | ⟨gg,cap,cur,hv,h1,h2,h3,h4,h5,h6⟩
   ·exact .inl hr
   ·refine .inr ⟨gg,cap,cur,hv,h1,?_,h3,h4,h5,h6⟩
    rw [← h2]
    subst hv
    cases β with
    | none=>obtain ⟨_,hh⟩:=hh; cases hh
    | some p=>
     obtain ⟨b,k⟩:=p
     simp only [YFz,Value.slice.injEq,Option.some.injEq,Addr.mk.injEq] at hh
     rw [hh.1.1]
     exact hblk b k rfl
  ·obtain ⟨u,h3,h4⟩:=hc i row c d h1 h2
   exact ⟨u,h3,h4.mono hb h.S⟩
 | box g e cs=>
  obtain ⟨b,cur,hβ,hh,hs,hc⟩:=ho
  refine ⟨b,cur,hβ,(hblk b 1 hβ).trans hh,hs,fun j c hj=>?_⟩
  obtain ⟨u,h1,h2,h3⟩:=hc j c hj
  exact ⟨u,h1,h2,h3.mono h⟩
 | hot g e xs k id g'=>
  obtain ⟨h0,hrow,hdr,us,hh,hown,hc,u0,hk,hu⟩:=ho
  refine ⟨h0,hrow,hdr,us,hh,?_,fun i row d hne h1 h2=>?_,u0,hk,hu.mono h⟩
  ·obtain ⟨hl,hr⟩:=hown
   refine ⟨hl,?_⟩
   rcases hr with hr | ⟨gg,cap,cur,hv,h1,h2,h3,h4,h5,h6⟩
   ·exact .inl hr
   ·refine .inr ⟨gg,cap,cur,hv,h1,?_,h3,h4,h5,h6⟩
    rw [← h2]
    subst hv
    cases β with
    | none=>obtain ⟨_,hh⟩:=hh; cases hh
    | some p=>
     obtain ⟨b,k⟩:=p
     simp only [YFz,Value.slice.injEq,Option.some.injEq,Addr.mk.injEq] at hh
     rw [hh.1.1]
     exact hblk b k rfl
  ·obtain ⟨u,h3,h4⟩:=hc i row d hne h1 h2
   exact ⟨u,h3,h4.mono hb h.S⟩
 | it g s pos=>
  obtain ⟨b,hβ,hh⟩:=ho
  exact ⟨b,hβ,(hblk b 1 hβ).trans hh⟩
 | mp g ks vs clock=>
  obtain ⟨b,us,hβ,h1,h2,hh,hc⟩:=ho
  exact ⟨b,us,hβ,h1,h2,(hblk b 1 hβ).trans hh,fun j c u k1 k2=>(hc j c u k1 k2).mono h⟩
 | mi g mid mg since seen last=>
  obtain ⟨b,m,hβ,hh,hm⟩:=ho
  exact ⟨b,m,hβ,(hblk b 1 hβ).trans hh,hm.mono h⟩
 | lp g e N ps assign body st pend=>
  obtain ⟨b,r,hβ,hh,h1,h2,h3,h4,h5,h6,he⟩:=ho
  exact ⟨b,r,hβ,(hblk b 1 hβ).trans hh,h1,h2,h3,h4,h5,h6,fun t=>(he t).mono h⟩
def AV.one:AV→Bool
 | .agg _ | .tup _ | .any | .whn _ _=>false
 | .cst v=>v.oneCell'
 | _=>true
theorem YAN.one {x:Cx} {a:AV} {v:Value} (h:YAN x a v) (ha:a.one=true):v.oneCell'=true:=by
 cases h <;> first | rfl | assumption | (simp [AV.one] at ha; done) | skip
 ·rename_i h; exact h.one
 ·rename_i h _; exact h.one
theorem Cx.upd {x:Cx} (hok:x.ok) (id:Nat) (o:AObj) (w':World) (β':Option (Nat × Nat)) (n':Nat)
  (hsize:x.w.heap.size≤w'.heap.size) (hos:w'.os=x.w.os) (htape:w'.tape=x.w.tape) (hout:w'.output=x.w.output)
  (hfr : ∀ b,b<x.w.heap.size→(∀ o0 k,x.H id=some o0→x.β id=some (b,k)→False)→w'.heap[b]? = x.w.heap[b]?)
  (hβ : ∀ b k,β'=some (b,k)→b<w'.heap.size∧(x.w.heap.size≤b ∨ ∃ o0 k',x.H id=some o0∧x.β id=some (b,k')))
  (hn:x.n≤n') (hgen:o.gen<n') (hold:o.gen<x.n → ∃ o0,x.H id=some o0∧o0.gen=o.gen∧o0.shape=o.shape∧β'=x.β id)
  (hrep:x.le { x with w:=w',H:=fun i=>if id=i then some o else x.H i,β:=fun i=>if id=i then β' else x.β i,n:=n' } →
   ORep { x with w:=w',H:=fun i=>if id=i then some o else x.H i,β:=fun i=>if id=i then β' else x.β i,n:=n' } β' o) :
  x.le { x with w:=w',H:=fun i=>if id=i then some o else x.H i,β:=fun i=>if id=i then β' else x.β i,n:=n' } ∧
  ({ x with w:=w',H:=fun i=>if id=i then some o else x.H i,β:=fun i=>if id=i then β' else x.β i,n:=n' } : Cx).ok:=by
 have hle:x.le { x with w:=w',H:=fun i=>if id=i then some o else x.H i,β:=fun i=>if id=i then β' else x.β i,n:=n' }:=by
  refine ⟨hsize,hos,htape,hout,fun b hb=>?_,fun _ h=>h,rfl,hn,fun i o' ho' hg=>?_⟩
  ·refine hfr b (hb.elim (hok.S_lt b) (hok.F_lt b)) fun o0 k h1 h2=>?_
   have:=hok.own id o0 b k h1 h2
   exact hb.elim this.2.1 this.2.2
  ·dsimp only at ho' ⊢
   split at ho'
   ·rename_i hi; subst hi
    cases ho'
    obtain ⟨o0,h1,h2,h3,h4⟩:=hold hg
    exact ⟨o0,h1,h2,h3,by rw [if_pos rfl]; exact h4⟩
   ·rename_i hi
    exact ⟨o',ho',rfl,rfl,by rw [if_neg hi]⟩
 have hblk' : ∀ i o',i≠id→x.H i=some o' → ∀ b k,x.β i=some (b,k)→w'.heap[b]? = x.w.heap[b]?:=by
  intro i o' hne hi b k hb
  refine hfr b (hok.own i o' b k hi hb).1 fun o0 k' h1 h2=>hne (hok.inj i id o' o0 b k k' hi h1 hb h2)
 refine ⟨hle,fun b hb=>Nat.lt_of_lt_of_le (hok.S_lt b hb) hsize,fun b hb=>Nat.lt_of_lt_of_le (hok.F_lt b hb) hsize,hok.SF,fun i o' ho'=>?_,fun i o' b k ho' hb=>?_,fun i i' o1 o2 b k k' h1 h2 hb hb'=>?_,hok.tabs.le hle⟩
 ·dsimp only at ho' ⊢
  split at ho'
  ·rename_i hi; subst hi
   cases ho'
   rw [if_pos rfl]
   exact ⟨hgen,hrep hle⟩
  ·rename_i hi
   rw [if_neg hi]
   obtain ⟨h1,h2⟩:=hok.obj i o' ho'
   exact ⟨Nat.lt_of_lt_of_le h1 hn,h2.mono hle fun b k hb=>hblk' i o' (fun e=>hi e.symm) ho' b k hb⟩
 ·dsimp only at ho' hb ⊢
  split at hb
  ·rename_i hi; subst hi
   obtain ⟨h1,h2⟩:=hβ b k hb
   refine ⟨h1,?_⟩
   rcases h2 with h2 | ⟨o0,k',h2,h3⟩
   ·exact ⟨fun h=>by have:=hok.S_lt b h; omega,fun h=>by have:=hok.F_lt b h; omega⟩
   ·exact (hok.own id o0 b k' h2 h3).2
  ·rename_i hi
   rw [if_neg hi] at ho'
   have:=hok.own i o' b k ho' hb
   exact ⟨Nat.lt_of_lt_of_le this.1 hsize,this.2⟩
 ·dsimp only at h1 h2 hb hb'
  by_cases hi:id=i <;> by_cases hi':id=i'
  ·rw [← hi,← hi']
  ·rw [if_pos hi] at hb
   rw [if_neg hi'] at h2 hb'
   have hlt:=(hok.own i' o2 b k' h2 hb').1
   rcases (hβ b k hb).2 with h3 | ⟨o0,k3,h3,h4⟩
   ·omega
   ·exact absurd (hok.inj id i' o0 o2 b k3 k' h3 h2 h4 hb') hi'
  ·rw [if_pos hi'] at hb'
   rw [if_neg hi] at h1 hb
   have hlt:=(hok.own i o1 b k h1 hb).1
   rcases (hβ b k' hb').2 with h3 | ⟨o0,k3,h3,h4⟩
   ·omega
   ·exact absurd (hok.inj id i o0 o1 b k3 k h3 h1 h4 hb) hi
  ·rw [if_neg hi] at h1 hb
   rw [if_neg hi'] at h2 hb'
   exact hok.inj i i' o1 o2 b k k' h1 h2 hb hb'
def zF (z:Option Nat):Fence:={ Fence.wide with round:=z }
def ndO (o:Oper):Bool:=match o.op with
 | .defer _=>false
 | _=>true
def ndC:Code→Bool
 | .region _ ops _=>ops.toList.all ndO
 | .seq x y=>ndC x && ndC y
 | .cond _ x y=>ndC x && ndC y
 | .block _ x=>ndC x
 | .loop x=>ndC x
 | .scope x=>ndC x
 | .rangeFunc _ _ _ _=>false
 | _=>true
theorem YQO {z:Option Nat} {ρ:Operand→Value} {o:Oper} (h:z=none∨ndO o=true):o.semAt z ρ=execOp ρ o:=by
 rcases h with rfl | h
 ·exact Oper.semAt_none ρ o
 ·exact Oper.semAt_eq z ρ o fun c hc=>by unfold ndO at h; rw [hc] at h; cases h
theorem YVS {z:Option Nat} {P:Program} {row:String} {args:Array Value} {w:World} {R:Value→World→Prop} (h:Rows P row args w R):RowsIn (zF z) (0-1) P row args w R:=
 fun c cs _=>let ⟨v,w',r,s⟩:=h c cs; ⟨v,w',r,stepsIn_wide.2 s⟩
theorem YJb {P:Program} {o:Oper} {a:Act} {w:World} {K:Act→World→Prop} {Q:Exit→Act→World→Prop} {z:Option Nat} (hz:z=none∨ndO o=true) (h:o.wp P a w K Q):o.wpIn (zF z) 0 P a w K Q:=by
 refine ⟨fun _ _=>trivial,?_⟩
 rw [show (zF z).round=z from rfl,YQO hz]
 unfold Oper.wp at h
 generalize (execOp a.eval o).run P w=r at h ⊢
 cases r with
 | ok x w'=>
  cases x with
  | enter f args=>exact ⟨fun e=>(by cases e),callsIn_wide.2 h⟩
  | row rw_ args=>exact ⟨fun e=>(by cases e),YVS h⟩
  | value v=>exact h
  | skip=>exact h
  | defer d=>exact h
  | _=>exact h.elim
 | halt x w'=>cases x <;> first | exact h | exact h.elim
section
variable {P:Program} {ops:Array Oper} {Q:Exit→Act→World→Prop}
theorem YHJ (hQ : ¬ LetsOut Q) {z:Option Nat} (hz:z=none∨ops.toList.all ndO=true) : ∀ (l:List Nat) (a:Act) (w:World),wpOps P ops Q l a w→wpOpsIn (zF z) 0 P ops Q l a w
 | [],_,_,h=>h
 | i :: rest,a,w,h=>by
  simp only [wpOps] at h
  simp only [wpOpsIn]
  split
  ·rename_i ho; rw [ho] at h; exact YHJ hQ hz rest a w h
  ·rename_i o ho
   rw [ho] at h
   simp only at h
   split
   ·rename_i hw
    rw [if_pos hw] at h
    rcases h with h | h
    ·refine YJb (hz.imp id fun h1=>List.all_eq_true.1 h1 o ?_) (Oper.wp_mono (fun a w=>YHJ hQ hz rest a w) h)
     exact List.mem_of_getElem? (by rw [Array.getElem?_toList]; exact ho)
    ·exact absurd h.2 hQ
   ·rename_i hw
    rw [if_neg hw] at h
    exact ⟨fun _ _=>trivial,YHJ hQ hz rest _ w h⟩
theorem YNS (hQ : ¬ LetsOut Q) {z:Option Nat} {id:Nat} {a:Act} {w:World} {l:List Oper} (hz:z=none∨ndC (.region id l.toArray false)=true) (h:wpList P l.toArray Q l a w):(Code.region id l.toArray false).wpIn (zF z) 0 P Q a w:=by
 refine wpIn_region (YHJ hQ (hz.imp _root_.id fun h=>h) _ a w ?_)
 rw [List.range_eq_range',← Array.length_toList,wpOps_eq_wpList _ 0 (by simp)]
 exact h
theorem YDF (hQ : ¬ LetsOut Q) {z:Option Nat} {id:Nat} {a:Act} {w:World} (hm:P.follows .mixedOrders=true) (hz:z=none∨ndC (.region id ops true)=true)
  (h:wpAny P .any ops Q ops.size (Array.replicate ops.size false) a { w with drawn:=w.drawn+1 }):(Code.region id ops true).wpIn (zF z) 0 P Q a w:=
 wpIn_region_draw fun t=>by
  simp only [Region.schedule,hm,Bool.true_or,if_true]
  exact YHJ hQ (hz.imp _root_.id fun h=>h) _ a _ (wpAny_sound ops.size t _ a _ h)
theorem YIT (hQ : ¬ LetsOut Q) {C:World→Prop} {z:Option Nat} {id:Nat} {a:Act} {w:World} (hm:P.follows .mixedOrders=true) (hB:Region.lexB .any ops=true) (hz:z=none∨ndC (.region id ops true)=true) (hC:C { w with drawn:=w.drawn+1 })
  (h:wpQuiet P ops C (fun a'=>∀ w',C w'→Q .normal a' w') ops.toList a):(Code.region id ops true).wpIn (zF z) 0 P Q a w:=by
 simp only [Region.lexB,Bool.and_eq_true] at hB
 refine YDF hQ hm hz (wpAny_of_quiet (Q:=fun a'=>∀ w',C w'→Q .normal a' w') (fun _ w' hw' h=>h w' hw') _ _ _ _ hC ?_)
 have:=wpAnyQ_lex (C:=C) (md:=.any) hB.1 ops.toList 0 (Array.replicate ops.size false) a (by simp) (by simpa using hB.2) h
 simpa using this
end
structure St where
 e:Env
 h:Heap
 n:Nat
 N:Nat
def YIi:Value→AV
 | .int k n=>.r (.int k n)
 | .bool b=>.r (.bool b)
 | .string s=>.r (.str s.data.toList)
 | v=>.cst v
def YBP (R:Env):Operand→AV
 | .tmp t=>get R t
 | .const v=>YIi v
 | .global _=>.any
 | .func f=>.fn f []
def Ev (c:Bool) (R:Env) (x:Operand) (v:AV):Prop:=YBP R x=v ∨ ∃ c2,(c=true→c2=true)∧YBP R x = .whn c2 v
def YCO (x:Cx) (R:Env) (a:Act):Prop:=∀ t,YAN x (get R t) (a.tmps.getD t undef)
theorem YGw (x:Cx) (v:Value):YAN x (YIi v) v:=by
 cases v <;> first | exact .r (.int _ _) | exact .r (.bool _) | exact .r (.str _) | exact .cst _
theorem YCO.eval {x:Cx} {R:Env} {a:Act} (h:YCO x R a) (o:Operand):YAN x (YBP R o) (a.eval o):=by
 cases o with
 | tmp t=>exact h t
 | const v=>exact YGw x v
 | global g=>exact .any _
 | func f=>exact .fn rfl (fun i c u h=>by simp at h)
theorem Ev.rep {x:Cx} {R:Env} {a:Act} {c:Bool} {o:Operand} {v:AV} (he:YCO x R a) (h:Ev c R o v) (hc:c=true):YAN x v (a.eval o):=by
 have h0:=he.eval o
 rcases h with h | ⟨c2,h2,h⟩
 ·rwa [h] at h0
 ·rw [h] at h0
  cases h0 with
  | whn hw _=>exact hw (h2 hc)
theorem YCO.mono {x y:Cx} (h:x.le y) {R:Env} {a:Act} (he:YCO x R a):YCO y R a:=fun t=>(he t).mono h
theorem YH6 {a:Array Value} {d t:Nat} {u:Value} (hd:d<a.size):(a.setIfInBounds d u).getD t undef=if d=t then u else a.getD t undef:=by
 by_cases h:d=t
 ·subst h; simp [hd]
 ·simp [h]
theorem YBL (d:Nat) (v:AV) (R:Env) (t:Nat):get ((d,v) :: R) t=if d=t then v else get R t:=by
 show (match Nat.beq d t with | true=>v | false=>get R t)=_
 cases h:Nat.beq d t with
 | true=>rw [if_pos (Nat.eq_of_beq_eq_true h)]
 | false=>rw [if_neg (Nat.ne_of_beq_eq_false h)]
theorem YAb (d:Nat) (v:Option AObj) (R:Heap) (t:Nat):hget ((d,v) :: R) t=if d=t then v else hget R t:=by
 show (match Nat.beq d t with | true=>v | false=>hget R t)=_
 cases h:Nat.beq d t with
 | true=>rw [if_pos (Nat.eq_of_beq_eq_true h)]
 | false=>rw [if_neg (Nat.ne_of_beq_eq_false h)]
theorem YAl {d N:Nat} (h:Nat.blt d N=true):d<N:=Nat.le_of_ble_eq_true h
theorem YCO.put {x:Cx} {R:Env} {a:Act} {d:Nat} {v:AV} {u:Value} (hd:d<a.tmps.size) (he:YCO x R a) (hv:YAN x v u) :
  YCO x ((d,v) :: R) (a.put (some d) u):=by
 intro t
 simp only [Act.put,YH6 hd,YBL]
 split
 ·exact hv
 ·exact he t
def Marks (c0:Cx) (ds:List Deferred) (y:Cx):Prop:=
 ds.Nodup ∧ ∀ d∈ds,∃ D,d = { target:=.collected D,args:=#[] } ∧ c0.w.heap.size≤D∧y.S D∧y.w.heap[D]? = some (.deferred (some []))
structure Cx.leM (x:Cx) (ds:List Deferred) (y:Cx):Prop where
 le:x.le y
 marks:Marks x ds y
theorem Cx.leM.refl (x:Cx):x.leM [] x:=⟨.refl x,List.Pairwise.nil,fun d h=>by cases h⟩
theorem Cx.leM.trans {x y z:Cx} {ds:List Deferred} (h:x.leM ds y) (k:y.le z):x.leM ds z:=
 ⟨h.le.trans k,h.marks.1,fun d hd=>let ⟨D,h1,h2,h3,h4⟩:=h.marks.2 d hd; ⟨D,h1,h2,k.S D h3,(k.blk D (.inl h3)).trans h4⟩⟩
def Sim (c0:Cx) (s:St) (a:Act) (w:World):Prop:=
 ∃ ds,a.defers=ds∧a.tmps.size=s.N ∧ ∃ y:Cx,y.w=w∧c0.leM ds y∧y.ok∧y.H=hget s.h∧y.n=s.n∧YCO y s.e a
def YAV (P:Program) (c:Bool) (o:Oper) (R:Env) (h:Heap) (n:Nat) (v:AV) (h':Heap) (n':Nat):Prop:=
 c=true → ∀ (x:Cx) (a:Act),x.ok→x.H=hget h→x.n=n→YCO x R a → ∀ (K:Act→World→Prop) (Q:Exit→Act→World→Prop),
  (∀ (u:Value) (y:Cx),x.le y→y.ok→y.H=hget h'→y.n=n'→YAN y v u→K (a.put o.dst u) y.w)→o.wp P a x.w K Q
def YHy (x:Cx) (w2:World):Prop:=∀ b,(x.S b ∨ ∃ id o k,x.H id=some o∧x.β id=some (b,k))→w2.heap[b]? = x.w.heap[b]?
theorem YHy.cellS {x:Cx} {w2:World} (h:YHy x w2) {b k:Nat} (hS:x.S b):w2.cell? ⟨b,k,none⟩=x.w.cell? ⟨b,k,none⟩:=World.cell?_of_block (h b (.inl hS))
theorem YHy.cellO {x:Cx} {w2:World} (h:YHy x w2) {id b k j:Nat} {o:AObj} (h1:x.H id=some o) (h2:x.β id=some (b,k)):w2.cell? ⟨b,j,none⟩=x.w.cell? ⟨b,j,none⟩:=World.cell?_of_block (h b (.inr ⟨id,o,k,h1,h2⟩))
def OpQ (P:Program) (c:Bool) (o:Oper) (R:Env) (h:Heap) (v:AV):Prop:=
 c=true → ∀ (x:Cx) (a:Act),x.ok→x.H=hget h→YCO x R a → ∃ u,(∀ w2,YHy x w2→(execOp a.eval o).run P w2 = .ok (.value u) w2)∧YAN x v u
theorem OpQ.spec {P:Program} {c:Bool} {o:Oper} {R:Env} {h:Heap} {v:AV} (H:OpQ P c o R h v) (n:Nat):YAV P c o R h n v h n:=by
 intro hc x a hok hH hn he K Q hK
 obtain ⟨u,hr,hv⟩:=H hc x a hok hH he
 unfold Oper.wp
 rw [hr x.w fun _ _=>rfl]
 exact hK u x (.refl x) hok hH hn hv
def AOps (P:Program) (ops:Array Oper) (rest:List Oper) (s:St) (K:St→Prop):Prop:=
 ∀ (c0:Cx) (a:Act) (w:World),Sim c0 s a w → ∀ Q:Exit→Act→World→Prop,(∀ s' a' w',K s'→Sim c0 s' a' w'→Q .normal a' w')→wpList P ops Q rest a w
section
variable {P:Program} {ops:Array Oper} {rest:List Oper} {s:St} {K:St→Prop} {o:Oper}
theorem AOps.nil (h:K s):AOps P ops [] s K:=fun _ a w hs _ hQ=>hQ s a w h hs
theorem AOps.step {d:Nat} {v:AV} {h':Heap} {n':Nat} (hg:o.guard=none) (hd:o.dst=some d) (hN:Nat.blt d s.N=true) (hs:YAV P true o s.e s.h s.n v h' n')
  (hr:AOps P ops rest { e:=(d,v) :: s.e,h:=h',n:=n',N:=s.N } K):AOps P ops (o :: rest) s K:=by
 intro c0 a w ⟨_,hdef,hsz,y,hyw,hle,hok,hH,hn,he⟩ Q hQ
 subst hyw
 refine wpList_plain hg fun K' hK'=>?_
 refine hs rfl y a hok hH hn he K' Q fun u z hyz hzok hzH hzn hzv=>?_
 refine hK' _ _ ?_
 have hN':d<a.tmps.size:=by rw [hsz]; exact YAl hN
 rw [hd]
 exact hr c0 (a.put (some d) u) z.w ⟨_,hdef,by simpa [Act.put] using hsz,z,rfl,hle.trans hyz,hzok,hzH,hzn,(he.mono hyz).put hN' hzv⟩ Q hQ
theorem AOps.step0 {v:AV} {h':Heap} {n':Nat} (hg:o.guard=none) (hd:o.dst=none) (hs:YAV P true o s.e s.h s.n v h' n')
  (hr:AOps P ops rest { e:=s.e,h:=h',n:=n',N:=s.N } K):AOps P ops (o :: rest) s K:=by
 intro c0 a w ⟨_,hdef,hsz,y,hyw,hle,hok,hH,hn,he⟩ Q hQ
 subst hyw
 refine wpList_plain hg fun K' hK'=>?_
 refine hs rfl y a hok hH hn he K' Q fun u z hyz hzok hzH hzn hzv=>?_
 refine hK' _ _ ?_
 rw [hd]
 exact hr c0 _ _ ⟨_,hdef,hsz,z,rfl,hle.trans hyz,hzok,hzH,hzn,he.mono hyz⟩ Q hQ
end
def YGj (c0:Cx) (Q:Exit→St→Prop) (e:Exit) (a:Act) (w:World):Prop:=e ≠ .outgrown ∧ ∃ s',Q e s'∧Sim c0 s' a w
theorem YGj.noOut {c0:Cx} {Q:Exit→St→Prop} : ¬ LetsOut (YGj c0 Q):=fun ⟨_,_,h,_⟩=>h rfl
theorem YGj.mono {c0:Cx} {Q Q':Exit→St→Prop} (h : ∀ e s,Q e s→Q' e s) {e:Exit} {a:Act} {w:World} : YGj c0 Q e a w→YGj c0 Q' e a w
 | ⟨ho,s',hq,hs⟩=>⟨ho,s',h e s' hq,hs⟩
def AW (P:Program) (c:Code) (Q:Exit→St→Prop) (s:St):Prop:=
 ∀ z:Option Nat,(z=none∨ndC c=true) → ∀ (c0:Cx) (a:Act) (w:World),Sim c0 s a w→c.wpIn (zF z) 0 P (YGj c0 Q) a w
def YIG (K:St→Prop) (Q:Exit→St→Prop):Exit→St→Prop
 | .normal,s=>K s
 | e,s=>Q e s
def YPx (id:Nat) (Q:Exit→St→Prop):Exit→St→Prop
 | .exit i,s=>if i=id then Q .normal s else Q (.exit i) s
 | e,s=>Q e s
def Weak (s s':St):Prop:=∀ c0 a w,Sim c0 s a w→Sim c0 s' a w
section
variable {P:Program} {Q:Exit→St→Prop} {s:St} {x y:Code}
theorem AW.mono {Q':Exit→St→Prop} (h:AW P x Q s) (hq : ∀ e s,Q e s→Q' e s):AW P x Q' s:=
 fun z hz c0 a w hs=>wpIn_mono (h z hz c0 a w hs) fun _ _ _ hp=>hp.mono hq
theorem AW.weak {s':St} (hw:Weak s s') (h:AW P x Q s'):AW P x Q s:=fun z hz c0 a w hs=>h z hz c0 a w (hw _ _ _ hs)
theorem AW.skip (h:Q .normal s):AW P .skip Q s:=fun _ _ _ _ _ hs=>wpIn_skip ⟨by simp,s,h,hs⟩
theorem AW.ret (h:Q .ret s):AW P .ret Q s:=fun _ _ _ _ _ hs=>wpIn_ret ⟨by simp,s,h,hs⟩
theorem AW.exit {id:Nat} (h:Q (.exit id) s):AW P (.exit id) Q s:=fun _ _ _ _ _ hs=>wpIn_exit ⟨by simp,s,h,hs⟩
theorem AW.seq (h:AW P x (YIG (AW P y Q) Q) s):AW P (.seq x y) Q s:=by
 intro z hz c0 a w hs
 have hz1:z=none∨ndC x=true:=hz.imp id fun h=>by simp only [ndC,Bool.and_eq_true] at h; exact h.1
 have hz2:z=none∨ndC y=true:=hz.imp id fun h=>by simp only [ndC,Bool.and_eq_true] at h; exact h.2
 refine wpIn_seq (wpIn_mono (h z hz1 c0 a w hs) fun e a' w' ⟨ho,s',hq,hs'⟩=>?_)
 cases e with
 | normal=>exact hq z hz2 c0 a' w' hs'
 | exit id=>exact ⟨ho,s',hq,hs'⟩
 | goto l=>exact ⟨ho,s',hq,hs'⟩
 | ret=>exact ⟨ho,s',hq,hs'⟩
 | panic ch=>exact ⟨ho,s',hq,hs'⟩
 | outgrown=>exact absurd rfl ho
theorem AW.seq_k (h : ∀ K:St→Prop,(∀ s,AW P y Q s→K s)→AW P x (YIG K Q) s):AW P (.seq x y) Q s:=.seq (h _ fun _ h=>h)
theorem AW.block {id:Nat} (h:AW P x (YPx id Q) s):AW P (.block id x) Q s:=by
 intro z hz c0 a w hs
 refine wpIn_block (wpIn_mono (h z hz c0 a w hs) fun e a' w' ⟨ho,s',hq,hs'⟩=>?_)
 cases e with
 | exit i=>
  simp only [YPx,Exit.inBlock] at hq ⊢
  split
  ·rename_i hi; rw [if_pos hi] at hq; exact ⟨by simp,s',hq,hs'⟩
  ·rename_i hi; rw [if_neg hi] at hq; exact ⟨by simp,s',hq,hs'⟩
 | normal=>exact ⟨ho,s',hq,hs'⟩
 | goto l=>exact ⟨ho,s',hq,hs'⟩
 | ret=>exact ⟨ho,s',hq,hs'⟩
 | panic ch=>exact ⟨ho,s',hq,hs'⟩
 | outgrown=>exact absurd rfl ho
theorem AW.cond {c:Operand} {b:Bool} (hc:YBP s.e c = .r (.bool b)) (ht:b=true→AW P x Q s) (hf:b=false→AW P y Q s):AW P (.cond c x y) Q s:=by
 intro z hz c0 a w hs
 have hb:a.eval c = .bool b:=by
  obtain ⟨_,_,_,z,_,_,_,_,_,he⟩:=hs
  have h0:=he.eval c
  rw [hc] at h0
  cases h0 with
  | r h1=>generalize a.eval c=u at h1 ⊢; cases h1; rfl
 exact wpIn_cond_split hb (fun h=>ht h z (hz.imp id fun h=>by simp only [ndC,Bool.and_eq_true] at h; exact h.1) c0 a w hs) (fun h=>hf h z (hz.imp id fun h=>by simp only [ndC,Bool.and_eq_true] at h; exact h.2) c0 a w hs)
theorem AW.loop (I:Nat→St→Prop) (m:Nat) (h0 : ∃ s',Weak s s'∧I m s') (round : ∀ m s,I m s→AW P x (YIG (fun s'=>∃ m',m'<m ∧ ∃ s'',Weak s' s''∧I m' s'') Q) s):AW P (.loop x) Q s:=by
 intro z hz c0 a w hs
 obtain ⟨s0,hw0,hI0⟩:=h0
 refine wpIn_loop_ghost (fun k a w=>∃ s,I k s∧Sim c0 s a w) m ⟨s0,hI0,hw0 _ _ _ hs⟩ ?_
 intro k a w ⟨s1,hI,hs1⟩
 refine wpIn_mono (round k s1 hI z (hz.imp id fun h=>h) c0 a w hs1) fun e a' w' ⟨ho,s',hq,hs'⟩=>?_
 cases e with
 | normal=>
  obtain ⟨m',hlt,s'',hw,hI'⟩:=hq
  exact ⟨m',hlt,s'',hI',hw _ _ _ hs'⟩
 | exit id=>exact ⟨ho,s',hq,hs'⟩
 | goto l=>exact ⟨ho,s',hq,hs'⟩
 | ret=>exact ⟨ho,s',hq,hs'⟩
 | panic ch=>exact ⟨ho,s',hq,hs'⟩
 | outgrown=>exact absurd rfl ho
theorem AW.region {id:Nat} {l:List Oper} (h:AOps P l.toArray l s (Q .normal)):AW P (.region id l.toArray false) Q s:=by
 intro z hz c0 a w hs
 exact YNS YGj.noOut hz (h c0 a w hs _ fun s' a' w' hk hs'=>⟨by simp,s',hk,hs'⟩)
end
theorem Weak.refl (s:St):Weak s s:=fun _ _ _ h=>h
theorem Weak.trans {a b c:St} (h:Weak a b) (k:Weak b c):Weak a c:=fun _ _ _ x=>k _ _ _ (h _ _ _ x)
def WkH:Heap→Heap→Prop
 | [],_=>True
 | (id,o) :: r,h=>(o=none∨hget h id=o)∧WkH r h
theorem WkH.get {h' h:Heap} (k:WkH h' h) (t:Nat):hget h' t=none∨hget h' t=hget h t:=by
 induction h' with
 | nil=>exact .inl rfl
 | cons p r ih=>
  obtain ⟨d,v⟩:=p
  rw [YAb]
  split
  ·rename_i hd; subst hd
   rcases k.1 with h1 | h1
   ·exact .inl h1
   ·exact .inr h1.symm
  ·exact ih k.2
theorem Cx.forget {y:Cx} (hok:y.ok) (H':Nat→Option AObj) (hH : ∀ id o,H' id=some o→y.H id=some o) (n':Nat) (hn:y.n≤n') :
  y.le { y with H:=H',n:=n' } ∧ ({ y with H:=H',n:=n' } : Cx).ok:=by
 have hle:y.le { y with H:=H',n:=n' }:=⟨Nat.le_refl _,rfl,rfl,rfl,fun _ _=>rfl,fun _ h=>h,rfl,hn,fun id o h _=>⟨o,hH id o h,rfl,rfl,rfl⟩⟩
 refine ⟨hle,hok.S_lt,hok.F_lt,hok.SF,fun id o h=>?_,fun id o b k h=>hok.own id o b k (hH _ _ h),fun id id' o o' b k k' h h'=>hok.inj id id' o o' b k k' (hH _ _ h) (hH _ _ h'),hok.tabs.le hle⟩
 obtain ⟨h1,h2⟩:=hok.obj id o (hH _ _ h)
 exact ⟨Nat.lt_of_lt_of_le h1 hn,h2.mono hle fun _ _ _=>rfl⟩
section
variable {x:Cx} {w':World}
def OffW (x:Cx) (w':World):Prop:=∀ b,x.S b→w'.heap[b]? = x.w.heap[b]? ∨ ∀ k,x.w.cell? ⟨b,k,none⟩=none
theorem OffW.cell (h:OffW x w') {b k:Nat} {v:Value} (hS:x.S b) (hc:x.w.cell? ⟨b,k,none⟩=some v):w'.cell? ⟨b,k,none⟩=some v:=by
 rcases h b hS with h | h
 ·rw [← hc]; exact World.cell?_of_block h
 ·rw [h k] at hc; cases hc
theorem RRep.off (hb:OffW x w') {d:RV} {v:Value} (h:RRep x.w x.S d v):RRep w' x.S d v:=by
 induction h with
 | int k n=>exact .int k n
 | bool b=>exact .bool b
 | str s=>exact .str s
 | snil=>exact .snil
 | sl0 a=>exact .sl0 a
 | sl b off xs cap size u hS1 hc hm hsz hcell hrep ih=>
  refine .sl b off xs cap size u hS1 hc hm hsz (fun i row c x h1 h2=>?_) ih
  have hne:xs≠[]:=by rintro rfl; simp at h1
  exact hb.cell (hS1 hne) (hcell i row c x h1 h2)
 | any v h=>exact .any v h
theorem YAN.off (hb:OffW x w') {a:AV} {v:Value} (ha:YAN x a v):YAN { x with w:=w' } a v:=by
 induction ha with
 | r hr=>exact .r (hr.off hb)
 | agg hl _ ih=>exact .agg hl ih
 | tup hl _ ih=>exact .tup hl ih
 | own hg h1 ho=>exact .own hg h1 ho
 | ptr hg h1 ho=>exact .ptr hg h1 ho
 | mref hg h1 ho=>exact .mref hg h1 ho
 | yld hg h1 ho=>exact .yld hg h1 ho
 | full hr hf=>exact .full (hr.off hb) hf
 | @rop row k b off u hS hc hr=>
  refine .rop u hS (fun j d hj=>?_) (fun j d hj=>(hr j d hj).off hb)
  have hne:row≠[]:=fun e=>by subst e; simp at hj
  exact hb.cell (hS hne) (hc j d hj)
 | fn hl _ ih=>exact .fn hl ih
 | cst v=>exact .cst v
 | whn _ h2 ih=>exact .whn ih h2
 | any v=>exact .any v
theorem ORep.off (hb:OffW x w') {β:Option (Nat × Nat)} (hblk : ∀ b k,β=some (b,k)→w'.heap[b]? = x.w.heap[b]?) {o:AObj} (ho:ORep x β o):ORep { x with w:=w' } β o:=by
 have hrow : ∀ {e:TypeId} {sz:Nat} {hdr:Value} {len:Nat} {us:List Value},YFz β len hdr→x.w.ownsRow 0 e sz hdr len us→w'.ownsRow 0 e sz hdr len us:=by
  intro e sz hdr len us hh ⟨hl,hr⟩
  refine ⟨hl,?_⟩
  rcases hr with hr | ⟨gg,cap,cur,hv,h1,h2,h3,h4,h5,h6⟩
  ·exact .inl hr
  ·refine .inr ⟨gg,cap,cur,hv,h1,?_,h3,h4,h5,h6⟩
   rw [← h2]
   subst hv
   cases β with
   | none=>obtain ⟨_,hh⟩:=hh; cases hh
   | some p=>
    obtain ⟨b,k⟩:=p
    simp only [YFz,Value.slice.injEq,Option.some.injEq,Addr.mk.injEq] at hh
    rw [hh.1.1]
    exact hblk b k rfl
 cases o with
 | arr g e sz xs=>
  obtain ⟨h0,h1,hdr,us,hh,hown,hc⟩:=ho
  exact ⟨h0,h1,hdr,us,hh,hrow hh hown,fun i row c d h1 h2=>let ⟨u,h3,h4⟩:=hc i row c d h1 h2; ⟨u,h3,h4.off hb⟩⟩
 | box g e cs=>
  obtain ⟨b,cur,hβ,hh,hs,hc⟩:=ho
  exact ⟨b,cur,hβ,(hblk b 1 hβ).trans hh,hs,fun j c hj=>let ⟨u,h1,h2,h3⟩:=hc j c hj; ⟨u,h1,h2,h3.off hb⟩⟩
 | hot g e xs k id g'=>
  obtain ⟨h0,h1,hdr,us,hh,hown,hc,u0,hk,hu⟩:=ho
  exact ⟨h0,h1,hdr,us,hh,hrow hh hown,fun i row d hne h1 h2=>let ⟨u,h3,h4⟩:=hc i row d hne h1 h2; ⟨u,h3,h4.off hb⟩,u0,hk,hu.off hb⟩
 | it g s pos=>obtain ⟨b,hβ,hh⟩:=ho; exact ⟨b,hβ,(hblk b 1 hβ).trans hh⟩
 | mp g ks vs clock=>obtain ⟨b,us,hβ,h1,h2,hh,hc⟩:=ho; exact ⟨b,us,hβ,h1,h2,(hblk b 1 hβ).trans hh,fun j c u k1 k2=>(hc j c u k1 k2).off hb⟩
 | mi g mid mg since seen last=>obtain ⟨b,m,hβ,hh,hm⟩:=ho; exact ⟨b,m,hβ,(hblk b 1 hβ).trans hh,hm.off hb⟩
 | lp g e N ps assign body st pend=>
  obtain ⟨b,r,hβ,hh,h1,h2,h3,h4,h5,h6,he⟩:=ho
  exact ⟨b,r,hβ,(hblk b 1 hβ).trans hh,h1,h2,h3,h4,h5,h6,fun t=>(he t).off hb⟩
end
theorem Cx.turn {y:Cx} (hok:y.ok) {D:Nat} (hS:y.S D) (hc : ∀ k,y.w.cell? ⟨D,k,none⟩=none) (o:Obj):OffW y (y.w.putObj D o)∧({ y with w:=y.w.putObj D o } : Cx).ok:=by
 have hoff:OffW y (y.w.putObj D o):=fun b _=>by
  by_cases h:b=D
  ·subst h; exact .inr hc
  ·exact .inl (World.putObj_heap_other h)
 refine ⟨hoff,?_⟩
 refine ⟨fun b hb=>by show b<(y.w.putObj D o).heap.size; rw [World.putObj_size]; exact hok.S_lt b hb,fun b hb=>by show b<(y.w.putObj D o).heap.size; rw [World.putObj_size]; exact hok.F_lt b hb,hok.SF,fun id ob h=>?_,fun id ob b k h1 h2=>?_,hok.inj,?_⟩
 ·obtain ⟨h1,h2⟩:=hok.obj id ob h
  exact ⟨h1,h2.off hoff fun b k hb=>World.putObj_heap_other fun e=>by subst e; exact (hok.own id ob b k h hb).2.1 hS⟩
 ·have:=hok.own id ob b k h1 h2
  exact ⟨by show b<(y.w.putObj D o).heap.size; rw [World.putObj_size]; exact this.1,this.2⟩
 ·refine ⟨fun g row hg=>(hok.tabs.tab g row hg).off hoff,fun g cs hg=>?_⟩
  obtain ⟨h1,h0,t,p,h2⟩:=hok.tabs.whole g cs hg
  refine ⟨h1,h0,t,p,?_⟩
  have hne:g≠D:=by
   intro e
   subst e
   have h3:=hc 0
   unfold World.cell? at h3
   rw [h2] at h3
   simp only [Array.getElem?_eq_getElem h0] at h3
   cases h3
  show (y.w.putObj D o).heap[g]? = _
  rw [World.putObj_heap_other hne,h2]
theorem YHn {P:Program} {fn:Func} {tmps:Array Value} {R:Ending→World→Prop} {c0:Cx} {e:Env} : ∀ (ds:List Deferred) (y:Cx),y.ok→c0.ok→c0.leM ds y→(∀ t,YAN y (get e t) (tmps.getD t undef)) →
  (∀ y',c0.le y'→y'.ok→y'.H=y.H→y'.n=y.n→(∀ t,YAN y' (get e t) (tmps.getD t undef)) → ∃ u,(results fn tmps).run P y'.w = .ok u y'.w∧R (.returned u) y'.w)→LeavesInM Fence.wide 0 P fn tmps R ds .returning y.w
 | [],y,hok,_,hle,he,fin=>fin y hle.le hok rfl rfl he
 | d :: ds,y,hok,hok0,hle,he,fin=>by
  obtain ⟨D,h1,h2,h3,h4⟩:=hle.marks.2 d (List.mem_cons_self ..)
  have hnd:=List.nodup_cons.1 hle.marks.1
  have hc : ∀ k,y.w.cell? ⟨D,k,none⟩=none:=fun k=>by simp [World.cell?,h4]
  obtain ⟨t1,t2⟩:=Cx.turn hok h3 hc (.deferred none)
  have hleq:c0.le { y with w:=y.w.putObj D (.deferred none) }:=
   ⟨by show _≤(y.w.putObj D (.deferred none)).heap.size; rw [World.putObj_size]; exact hle.le.size,hle.le.os,hle.le.tape,hle.le.output,fun b hb=>by
    refine (World.putObj_heap_other fun e=>?_).trans (hle.le.blk b hb)
    subst e
    have:=hb.elim (hok0.S_lt b) (hok0.F_lt b)
    omega,hle.le.S,hle.le.F,hle.le.n,hle.le.H⟩
  refine ⟨by simp,.inl ⟨D,_,by rw [h1],run_takeDeferred h4,?_⟩⟩
  refine YHn ds { y with w:=y.w.putObj D (.deferred none) } t2 hok0 ⟨hleq,hnd.2,fun d' hd'=>?_⟩ (fun t=>(he t).off t1) fun y' k1 k2 k3 k4 k5=>fin y' k1 k2 k3 k4 k5
  obtain ⟨D',e1,e2,e3,e4⟩:=hle.marks.2 d' (List.mem_cons_of_mem _ hd')
  refine ⟨D',e1,e2,e3,(World.putObj_heap_other fun e=>?_).trans e4⟩
  subst e
  exact hnd.1 (by rw [h1,← e1]; exact hd')
theorem YG3 {P:Program} {f:FuncId} {fn:Func} {code:Code} {vs:Array Value} {R:Ending→World→Prop} {c0:Cx} {s0:St} {Q:Exit→St→Prop} (hf:P.funcs[f]? = some fn) (hb:fn.body=some code) (hok0:c0.ok)
  (hsim:Sim c0 s0 { tmps:=vs++Array.replicate (fn.ntmps-vs.size) undef,defers:=[] } c0.w) (hw:AW P code Q s0)
  (fin : ∀ (e:Exit) (s:St) (a:Act) (y:Cx),Q e s→c0.le y→y.ok→y.H=hget s.h→y.n=s.n→YCO y s.e a→(e = .normal∨e = .ret) ∧ ∃ u,(results fn a.tmps).run P y.w = .ok u y.w∧R (.returned u) y.w):Calls P f vs c0.w R:=by
 refine callsIn_wide.1 (callsIn_of_wp_marks (n:=0) hf hb trivial (wpIn_mono (hw none (.inl rfl) c0 _ _ hsim) fun e a w ⟨ho,s,hq,hs⟩=>?_))
 obtain ⟨ds,hdef,_,y,hyw,hle,hok,hH,hn,he⟩:=hs
 subst hyw
 have key:LeavesInM Fence.wide 0 P fn a.tmps R a.defers .returning y.w:=by
  rw [hdef]
  exact YHn (e:=s.e) ds y hok hok0 hle he fun y' k1 k2 k3 k4 k5=>(fin e s a y' hq k1 k2 (k3.trans hH) (k4.trans hn) k5).2
 have hex:=(fin e s a y hq hle.le hok hH hn he).1
 rcases hex with rfl | rfl
 ·exact key
 ·exact key
def Scal:TypeDesc→Bool
 | .struct _ | .array _ _=>false
 | _=>true
def YAx (P:Program) (t:TypeId):Prop:=∃ d i,P.underlying t=some d∧Scal d=true∧P.info? t=some i∧i.size=1
def YBq (P:Program) (t:TypeId) (sz:Nat):Prop:=∃ d i,P.underlying t=some d∧Scal d=false∧P.info? t=some i∧i.size=sz
def YEU (P:Program) (t e:TypeId) (sz:Nat):Prop:=P.underlying t=some (.slice e) ∧ ∃ i,P.info? e=some i∧i.size=sz
def YAF (P:Program) (t:TypeId) (f off:Nat):Prop:=∃ fs fl i,P.underlying t=some (.struct fs)∧fs[f]? = some fl∧fl.offset=off∧P.info? fl.type=some i∧i.size≠0
section
variable {P:Program} {c:Bool} {o:Oper} {R:Env} {h:Heap}
theorem YFe {t:TypeId} {d:TypeDesc} (hd:P.underlying t=some d) (w:World):(isAgg t).run P w = .ok (!Scal d) w:=by
 cases d <;> simp [isAgg,run_underlying hd,Scal]
theorem YA3 {t:TypeId} {i:TypeInfo} (hi:P.info? t=some i) (w:World):(sizeOf t).run P w = .ok i.size w:=by
 simp [sizeOf,typeInfo,hi]
theorem YNl {x:Operand} {v:AV} (ho:o.op = .move x) (hx:Ev c R x v):OpQ P c o R h v:=by
 intro hc y a _ _ he
 exact ⟨a.eval x,fun _ _=>by unfold execOp; rw [ho]; rfl,hx.rep he hc⟩
theorem YCI {x:Operand} {v:AV} (ho:o.op = .assign x) (hx:Ev c R x v):OpQ P c o R h v:=by
 intro hc y a _ _ he
 exact ⟨a.eval x,fun _ _=>by unfold execOp; rw [ho]; rfl,hx.rep he hc⟩
theorem YBK {x:Cx} {k:IntKind} {n:Int} {v:Value} (h:YAN x (.r (.int k n)) v):v = .int k n:=by
 cases h with
 | r h=>cases h; rfl
theorem YEC {x:Cx} {b:Bool} {v:Value} (h:YAN x (.r (.bool b)) v):v = .bool b:=by
 cases h with
 | r h=>cases h; rfl
theorem YGC {x:Cx} {s:List UInt8} {v:Value} (h:YAN x (.r (.str s)) v):v = .string ⟨s.toArray⟩:=by
 cases h with
 | r h=>cases h; rfl
theorem YBz {op:BinOp} {t t':TypeId} {x y:Operand} {k:IntKind} {m n:Int} {v:RV} {u:Value} (ho:o.op = .binOp op t x y t') (hx:Ev c R x (.r (.int k m))) (hy:Ev c R y (.r (.int k n)))
  (hr : ∀ w,(binOp op t (.int k m) (.int k n)).run P w = .ok u w) (hu : ∀ w S,RRep w S v u):OpQ P c o R h (.r v):=by
 intro hc z a _ _ he
 refine ⟨u,fun w2 hag=>?_,.r (hu _ _)⟩
 unfold execOp
 rw [ho]
 simp only [YBK (hx.rep he hc),YBK (hy.rep he hc),eqGuard_at_int]
 simp [hr]
theorem sp_add {t t':TypeId} {x y:Operand} {k:IntKind} {m n:Int} (ho:o.op = .binOp .add t x y t') (hx:Ev c R x (.r (.int k m))) (hy:Ev c R y (.r (.int k n)))
  (hb:k.wrap (m+n)=m+n):OpQ P c o R h (.r (.int k (m+n))):=
 YBz ho hx hy (fun w=>by rw [binOp_add]; simp only [Op.intArith,hb]; rfl) (fun _ _=>.int _ _)
theorem sp_sub {t t':TypeId} {x y:Operand} {k:IntKind} {m n:Int} (ho:o.op = .binOp .sub t x y t') (hx:Ev c R x (.r (.int k m))) (hy:Ev c R y (.r (.int k n)))
  (hb:k.wrap (m-n)=m-n):OpQ P c o R h (.r (.int k (m-n))):=
 YBz ho hx hy (fun w=>by rw [binOp_sub]; simp only [Op.intArith,hb]; rfl) (fun _ _=>.int _ _)
theorem sp_mul {t t':TypeId} {x y:Operand} {k:IntKind} {m n:Int} (ho:o.op = .binOp .mul t x y t') (hx:Ev c R x (.r (.int k m))) (hy:Ev c R y (.r (.int k n)))
  (hb:k.wrap (m * n)=m * n):OpQ P c o R h (.r (.int k (m * n))):=
 YBz ho hx hy (fun w=>by rw [binOp_mul]; simp only [Op.intArith,hb]; rfl) (fun _ _=>.int _ _)
theorem YXV {t t':TypeId} {x y:Operand} {k:IntKind} {m n:Int} (ho:o.op = .binOp .add t x y t') (hx:Ev c R x (.r (.int k m))) (hy:Ev c R y (.r (.int k n))) :
  OpQ P c o R h (.r (.int k (k.wrap (m+n)))):=
 YBz ho hx hy (fun w=>by rw [binOp_add]; simp only [Op.intArith]; rfl) (fun _ _=>.int _ _)
theorem YXR {t t':TypeId} {x y:Operand} {k:IntKind} {m n:Int} (ho:o.op = .binOp .sub t x y t') (hx:Ev c R x (.r (.int k m))) (hy:Ev c R y (.r (.int k n))) :
  OpQ P c o R h (.r (.int k (k.wrap (m-n)))):=
 YBz ho hx hy (fun w=>by rw [binOp_sub]; simp only [Op.intArith]; rfl) (fun _ _=>.int _ _)
theorem YWm {t t':TypeId} {x y:Operand} {k:IntKind} {m n:Int} (ho:o.op = .binOp .quo t x y t') (hx:Ev c R x (.r (.int k m))) (hy:Ev c R y (.r (.int k n)))
  (h0:n≠0) (hb:k.wrap (m.tdiv n)=m.tdiv n):OpQ P c o R h (.r (.int k (m.tdiv n))):=
 YBz ho hx hy (fun w=>by rw [binOp_quo]; simp only [Op.intDiv,if_neg h0,hb]; rfl) (fun _ _=>.int _ _)
theorem YWl {t t':TypeId} {x y:Operand} {k:IntKind} {m n:Int} (ho:o.op = .binOp .rem t x y t') (hx:Ev c R x (.r (.int k m))) (hy:Ev c R y (.r (.int k n)))
  (h0:n≠0):OpQ P c o R h (.r (.int k (m.tmod n))):=
 YBz ho hx hy (fun w=>by rw [binOp_rem]; simp only [Op.intDiv,if_neg h0]; rfl) (fun _ _=>.int _ _)
theorem YWs {t t':TypeId} {x y:Operand} {k:IntKind} {m n:Int} (ho:o.op = .binOp .eql t x y t') (hx:Ev c R x (.r (.int k m))) (hy:Ev c R y (.r (.int k n))) :
  OpQ P c o R h (.r (.bool (decide (m=n)))):=
 YBz ho hx hy (fun w=>by rw [binOp_eql]; rfl) (fun _ _=>.bool _)
theorem YWo {t t':TypeId} {x y:Operand} {k:IntKind} {m n:Int} (ho:o.op = .binOp .neq t x y t') (hx:Ev c R x (.r (.int k m))) (hy:Ev c R y (.r (.int k n))) :
  OpQ P c o R h (.r (.bool (!decide (m=n)))):=
 YBz ho hx hy (fun w=>by rw [binOp_neq]; rfl) (fun _ _=>.bool _)
theorem YWq {t t':TypeId} {x y:Operand} {k:IntKind} {m n:Int} (ho:o.op = .binOp .lss t x y t') (hx:Ev c R x (.r (.int k m))) (hy:Ev c R y (.r (.int k n))) :
  OpQ P c o R h (.r (.bool (decide (m<n)))):=
 YBz ho hx hy (fun w=>by rw [binOp_lss]; rfl) (fun _ _=>.bool _)
theorem YFB {t t':TypeId} {x y:Operand} {k:IntKind} {m n:Int} (ho:o.op = .binOp .leq t x y t') (hx:Ev c R x (.r (.int k m))) (hy:Ev c R y (.r (.int k n))) :
  OpQ P c o R h (.r (.bool (decide (m≤n)))):=
 YBz ho hx hy (fun w=>by rw [binOp_leq]; rfl) (fun _ _=>.bool _)
theorem YWr {t t':TypeId} {x y:Operand} {k:IntKind} {m n:Int} (ho:o.op = .binOp .gtr t x y t') (hx:Ev c R x (.r (.int k m))) (hy:Ev c R y (.r (.int k n))) :
  OpQ P c o R h (.r (.bool (decide (n<m)))):=
 YBz ho hx hy (fun w=>by rw [binOp_gtr]; rfl) (fun _ _=>.bool _)
theorem YC1 {t t':TypeId} {x y:Operand} {k:IntKind} {m n:Int} (ho:o.op = .binOp .geq t x y t') (hx:Ev c R x (.r (.int k m))) (hy:Ev c R y (.r (.int k n))) :
  OpQ P c o R h (.r (.bool (decide (n≤m)))):=
 YBz ho hx hy (fun w=>by rw [binOp_geq]; rfl) (fun _ _=>.bool _)
def sLt (a b:List UInt8):Bool:=Op.bytesLess a b
theorem YGp {op:BinOp} {t t':TypeId} {x y:Operand} {a b:List UInt8} {v:RV} {u:Value} (ho:o.op = .binOp op t x y t') (hx:Ev c R x (.r (.str a))) (hy:Ev c R y (.r (.str b)))
  (hr : ∀ w,(binOp op t (.string ⟨a.toArray⟩) (.string ⟨b.toArray⟩)).run P w = .ok u w) (hu : ∀ w S,RRep w S v u):OpQ P c o R h (.r v):=by
 intro hc z w _ _ he
 refine ⟨u,fun w2 hag=>?_,.r (hu _ _)⟩
 unfold execOp
 rw [ho]
 simp only [YGC (hx.rep he hc),YGC (hy.rep he hc),eqGuard_at_string]
 simp [hr]
theorem YD6 {t t':TypeId} {x y:Operand} {a b:List UInt8} (ho:o.op = .binOp .eql t x y t') (hx:Ev c R x (.r (.str a))) (hy:Ev c R y (.r (.str b))) :
  OpQ P c o R h (.r (.bool (decide (a=b)))):=
 YGp (u:=.bool (a == b)) ho hx hy (fun w=>by simp [binOp,Op.stringOp,ByteArray.toList_eq]) (fun _ _=>by
  have:(a == b)=decide (a=b):=by by_cases h:a=b <;> simp [h]
  rw [this]; exact .bool _)
theorem YCH {t t':TypeId} {x y:Operand} {a b:List UInt8} (ho:o.op = .binOp .neq t x y t') (hx:Ev c R x (.r (.str a))) (hy:Ev c R y (.r (.str b))) :
  OpQ P c o R h (.r (.bool (!decide (a=b)))):=
 YGp (u:=.bool (!(a == b))) ho hx hy (fun w=>by simp [binOp,Op.stringOp,ByteArray.toList_eq]) (fun _ _=>by
  have:(a == b)=decide (a=b):=by by_cases h:a=b <;> simp [h]
  rw [this]; exact .bool _)
theorem YXS {t t':TypeId} {x y:Operand} {a b:List UInt8} (ho:o.op = .binOp .lss t x y t') (hx:Ev c R x (.r (.str a))) (hy:Ev c R y (.r (.str b))) :
  OpQ P c o R h (.r (.bool (sLt a b))):=
 YGp (u:=.bool (sLt a b)) ho hx hy (fun w=>by simp [binOp,Op.stringOp,ByteArray.toList_eq,sLt]) (fun _ _=>.bool _)
theorem YTU {t t':TypeId} {x y:Operand} {a b:List UInt8} (ho:o.op = .binOp .geq t x y t') (hx:Ev c R x (.r (.str a))) (hy:Ev c R y (.r (.str b))) :
  OpQ P c o R h (.r (.bool (!sLt a b))):=
 YGp (u:=.bool (!sLt a b)) ho hx hy (fun w=>by simp [binOp,Op.stringOp,ByteArray.toList_eq,sLt]) (fun _ _=>.bool _)
theorem YTT {t t':TypeId} {x y:Operand} {a b:List UInt8} (ho:o.op = .binOp .leq t x y t') (hx:Ev c R x (.r (.str a))) (hy:Ev c R y (.r (.str b))) :
  OpQ P c o R h (.r (.bool (sLt a b || decide (a=b)))):=
 YGp (u:=.bool (sLt a b || (a == b))) ho hx hy (fun w=>by simp [binOp,Op.stringOp,ByteArray.toList_eq,sLt]) (fun _ _=>by
  have:(a == b)=decide (a=b):=by by_cases h:a=b <;> simp [h]
  rw [this]; exact .bool _)
theorem YXT {t t':TypeId} {x y:Operand} {a b:List UInt8} (ho:o.op = .binOp .gtr t x y t') (hx:Ev c R x (.r (.str a))) (hy:Ev c R y (.r (.str b))) :
  OpQ P c o R h (.r (.bool (!(sLt a b || decide (a=b))))):=
 YGp (u:=.bool (!(sLt a b || (a == b)))) ho hx hy (fun w=>by simp [binOp,Op.stringOp,ByteArray.toList_eq,sLt]) (fun _ _=>by
  have:(a == b)=decide (a=b):=by by_cases h:a=b <;> simp [h]
  rw [this]; exact .bool _)
theorem YTV {t t':TypeId} {x y:Operand} {a b:List UInt8} (ho:o.op = .binOp .add t x y t') (hx:Ev c R x (.r (.str a))) (hy:Ev c R y (.r (.str b)))
  (hl:a.length+b.length≤9223372036854775807):OpQ P c o R h (.r (.str (a++b))):=
 YGp (u:=.string (⟨a.toArray⟩++⟨b.toArray⟩)) ho hx hy (fun w=>by
  have h1:(⟨a.toArray⟩:ByteArray).size=a.length:=rfl
  have h2:(⟨b.toArray⟩:ByteArray).size=b.length:=rfl
  have : ¬ (9223372036854775807:Int)<(a.length:Int)+(b.length:Int):=by omega
  simp [binOp,Op.stringOp,h1,h2,this]) (fun w S=>by
  have h1:(a++b)=((⟨a.toArray⟩:ByteArray)++⟨b.toArray⟩).data.toList:=by simp [ByteArray.data_append]
  rw [h1]; exact .str _)
theorem YWn {t:TypeId} {x:Operand} {b:Bool} (ho:o.op = .unOp .not t x) (hx:Ev c R x (.r (.bool b))):OpQ P c o R h (.r (.bool (!b))):=by
 intro hc z w _ _ he
 refine ⟨.bool (!b),fun w2 hag=>?_,.r (.bool _)⟩
 unfold execOp
 rw [ho]
 simp [YEC (hx.rep he hc),Op.unary]
theorem YWp {t:TypeId} {x:Operand} {k:IntKind} {m:Int} (ho:o.op = .unOp .neg t x) (hx:Ev c R x (.r (.int k m))) (hb:k.wrap (-m) = -m):OpQ P c o R h (.r (.int k (-m))):=by
 intro hc z w _ _ he
 refine ⟨.int k (-m),fun w2 hag=>?_,.r (.int _ _)⟩
 unfold execOp
 rw [ho]
 simp [YBK (hx.rep he hc),Op.unary,Op.intArith,hb]
theorem YO2 {x y:Operand} {a b:Bool} (ho:o.op = .pick x y (.const (.bool false))) (hx:Ev c R x (.r (.bool a))) (hy:Ev (c && (a == true)) R y (.r (.bool b))) :
  OpQ P c o R h (.r (.bool (a && b))):=by
 intro hc z w _ _ he
 refine ⟨.bool (a && b),fun w2 hag=>?_,.r (.bool _)⟩
 unfold execOp
 rw [ho]
 simp only [YEC (hx.rep he hc),asBool]
 cases a with
 | true=>
  have h2:w.eval y = .bool b:=YEC (hy.rep he (by simp [hc]))
  simp [h2]
 | false=>simp [Act.eval]
theorem YTW {x y:Operand} {a b:Bool} (ho:o.op = .pick x (.const (.bool true)) y) (hx:Ev c R x (.r (.bool a))) (hy:Ev (c && (a == false)) R y (.r (.bool b))) :
  OpQ P c o R h (.r (.bool (a || b))):=by
 intro hc z w _ _ he
 refine ⟨.bool (a || b),fun w2 hag=>?_,.r (.bool _)⟩
 unfold execOp
 rw [ho]
 simp only [YEC (hx.rep he hc),asBool]
 cases a with
 | false=>
  have h2:w.eval y = .bool b:=YEC (hy.rep he (by simp [hc]))
  simp [h2]
 | true=>simp [Act.eval]
theorem YRP {x:Cx} {xs:List (List RV)} {v:Value} (hv:YAN x (.r (.sl xs)) v):(xs=[]∧(v = .slice none 0 0 ∨ ∃ a,v = .slice (some a) 0 0)) ∨
  ∃ (b off cap size:Nat) (u:Nat→Nat→Value),v = .slice (some ⟨b,off,none⟩) xs.length cap∧(xs≠[]→x.S b)∧xs.length≤cap∧cap≤maxLen∧(∀ row∈xs,row.length=size) ∧
   (∀ i row k d,xs[i]? = some row→row[k]? = some d→x.w.cell? ⟨b,off+i * size+k,none⟩=some (u i k)) ∧
   ∀ i row k d,xs[i]? = some row→row[k]? = some d→RRep x.w x.S d (u i k):=by
 cases hv with
 | r h=>cases h with
  | snil=>exact .inl ⟨rfl,.inl rfl⟩
  | sl0 a=>exact .inl ⟨rfl,.inr ⟨a,rfl⟩⟩
  | sl b off _ cap size u h1 h2 h3 h4 h5 h6=>exact .inr ⟨b,off,cap,size,u,rfl,h1,h2,h3,h4,h5,h6⟩
theorem YOz {t:TypeId} {e:TypeId} {sz:Nat} {x:Operand} {xs:List (List RV)} (ho:o.op = .call { callee:=.builtin .len,args:=#[x],argTypes:=#[t] }) (ht:YEU P t e sz) (hx:Ev c R x (.r (.sl xs))) :
  OpQ P c o R h (.r (.int .i64 xs.length)):=by
 intro hc z w _ _ he
 refine ⟨.int .i64 xs.length,fun w2 hag=>?_,.r (.int _ _)⟩
 unfold execOp
 rw [ho]
 rcases YRP (hx.rep he hc) with ⟨h1,h2 | ⟨a,h2⟩⟩ | ⟨b,off,cap,size,u,h2,_⟩
 ·subst h1; simp [resolve,invoke,builtin,h2,Builtin.len_,run_underlying ht.1,goInt]
 ·subst h1; simp [resolve,invoke,builtin,h2,Builtin.len_,run_underlying ht.1,goInt]
 ·simp [resolve,invoke,builtin,h2,Builtin.len_,run_underlying ht.1,goInt]
theorem YMz {t:TypeId} {e e':TypeId} {sz sz':Nat} {x:Operand} {id g:Nat} {xs:List (List RV)} (ho:o.op = .call { callee:=.builtin .len,args:=#[x],argTypes:=#[t] }) (ht:YEU P t e sz) (hx:Ev c R x (.own id g))
  (hh:hget h id=some (.arr g e' sz' xs)):OpQ P c o R h (.r (.int .i64 xs.length)):=by
 intro hc z w _ hH he
 refine ⟨.int .i64 xs.length,fun w2 hag=>?_,.r (.int _ _)⟩
 unfold execOp
 rw [ho]
 have h0:=hx.rep he hc
 generalize hv:w.eval x=v at h0
 cases h0 with
 | own _ _ h1=>
  have h2:=h1 _ (by rw [hH]; exact hh) rfl
  simp only [AObj.shape] at h2
  unfold YFz at h2
  split at h2
  ·obtain ⟨h3,rfl⟩:=h2
   simp [resolve,invoke,builtin,hv,h3,Builtin.len_,run_underlying ht.1,goInt]
  ·subst h2
   simp [resolve,invoke,builtin,hv,Builtin.len_,run_underlying ht.1,goInt]
theorem YSN {t:TypeId} {e:TypeId} {sz:Nat} {x:Operand} (ho:o.op = .call { callee:=.builtin .len,args:=#[x],argTypes:=#[t] }) (ht:YEU P t e sz) (hx:Ev c R x (.cst (.slice none 0 0))) :
  OpQ P c o R h (.r (.int .i64 0)):=by
 intro hc z w _ _ he
 refine ⟨.int .i64 0,fun w2 hag=>?_,.r (.int _ _)⟩
 unfold execOp
 rw [ho]
 have h0:=hx.rep he hc
 generalize hv:w.eval x=v at h0
 cases h0
 simp [resolve,invoke,builtin,hv,Builtin.len_,run_underlying ht.1,goInt]
theorem YAj {t:TypeId} {x:Operand} {s:List UInt8} (ho:o.op = .call { callee:=.builtin .len,args:=#[x],argTypes:=#[t] }) (ht:P.underlying t=some .string) (hx:Ev c R x (.r (.str s))) :
  OpQ P c o R h (.r (.int .i64 s.length)):=by
 intro hc z w _ _ he
 refine ⟨.int .i64 s.length,fun w2 hag=>?_,.r (.int _ _)⟩
 unfold execOp
 rw [ho]
 have hsz:(⟨s.toArray⟩:ByteArray).size=s.length:=rfl
 simp [resolve,invoke,builtin,YGC (hx.rep he hc),Builtin.len_,run_underlying ht,goInt,hsz]
theorem YHY {t e:TypeId} {sz:Nat} {x i:Operand} {xs:List (List RV)} {k:IntKind} {n:Int} {row:List RV} (ho:o.op = .indexAddr t x i) (ht:YEU P t e sz) (hx:Ev c R x (.r (.sl xs)))
  (hi:Ev c R i (.r (.int k n))) (h0:c=true→0≤n) (hrow:c=true→xs[n.toNat]? = some row) (hlen:row.length=sz):OpQ P c o R h (.rop row 0):=by
 intro hc z w _ _ he
 obtain ⟨ht1,ii,ht2,ht3⟩:=ht
 have hr:=hrow hc
 have hlt:n.toNat<xs.length:=(List.getElem?_eq_some_iff.1 hr).1
 have h0':=h0 hc
 have hlt':n<xs.length:=by omega
 rcases YRP (hx.rep he hc) with ⟨h1,_⟩ | ⟨b,off,cap,size,u,h2,hS,hcap,hm,hsz,hcell,hrep⟩
 ·subst h1; simp at hlt
 ·have hsize:size=sz:=by rw [← hsz row (List.mem_of_getElem? hr)]; exact hlen
  subst hsize
  refine ⟨.pointer (some ⟨b,(off+n.toNat * size)+0,none⟩),fun w2 hag=>?_,.rop (fun j=>u n.toNat j) (fun _=>hS (by rintro rfl; simp at hlt)) (fun j d hj=>hcell _ _ _ _ hr hj) (fun j d hj=>hrep _ _ _ _ hr hj)⟩
  unfold execOp
  rw [ho]
  simp [h2,YBK (hi.rep he hc),Instr.indexAt,asIntOf,run_underlying ht1,h0',hlt',YA3 ht2,ht3,Addr.add_lit]
theorem YLe {x:Cx} (hok:x.ok) {id g:Nat} {e:TypeId} {sz:Nat} {xs:List (List RV)} {v:Value} (hH:x.H id=some (.arr g e sz xs)) (hv:YAN x (.own id g) v) :
  0<sz∧(∀ row∈xs,row.length=sz) ∧ ∃ us,YFz (x.β id) xs.length v∧x.w.ownsRow 0 e sz v xs.length us ∧
   ∀ i row c d,xs[i]? = some row→row[c]? = some d → ∃ u,us[i * sz+c]? = some u∧RRep x.w x.S d u:=by
 obtain ⟨_,h0,h1,hdr,us,h2,h3,h4⟩:=hok.obj _ _ hH
 cases hv with
 | own _ _ hv=>
  have h5:=hv _ hH rfl
  simp only [AObj.shape] at h5
  have:v=hdr:=by
   unfold YFz at h2 h5
   split at h2 <;> simp_all
  subst this
  exact ⟨h0,h1,us,h2,h3,h4⟩
theorem YG9 {t e:TypeId} {sz:Nat} {x i:Operand} {id g:Nat} {e':TypeId} {xs:List (List RV)} {k:IntKind} {n:Int} (ho:o.op = .indexAddr t x i) (ht:YEU P t e sz) (hx:Ev c R x (.own id g))
  (hh:hget h id=some (.arr g e' sz xs)) (hi:Ev c R i (.r (.int k n))) (h0:c=true→0≤n) (h1:c=true→n<xs.length):OpQ P c o R h (.ptr id g n.toNat 0):=by
 intro hc z w hok hH he
 obtain ⟨ht1,ii,ht2,ht3⟩:=ht
 have h0':=h0 hc
 have hlt':=h1 hc
 have hHid:z.H id=some (.arr g e' sz xs):=by rw [hH]; exact hh
 have hv:=hx.rep he hc
 obtain ⟨_,_,us,hd,_,_⟩:=YLe hok hHid hv
 have hg:g<z.n:=by cases hv with | own hg _ _=>exact hg
 cases hβ:z.β id with
 | none=>rw [hβ] at hd; have:=hd.1; omega
 | some p=>
  obtain ⟨b,cap⟩:=p
  rw [hβ] at hd
  simp only [YFz] at hd
  refine ⟨.pointer (some ⟨b,n.toNat * sz+0,none⟩),fun w2 hag=>?_,.ptr hg rfl fun o' ho' hgen=>?_⟩
  ·unfold execOp
   rw [ho]
   simp [hd,YBK (hi.rep he hc),Instr.indexAt,asIntOf,run_underlying ht1,h0',hlt',YA3 ht2,ht3,Addr.add_lit]
  ·rw [hHid] at ho'; cases ho'
   exact ⟨b,cap,hβ,rfl⟩
end
section
variable {P:Program} {c:Bool} {o:Oper} {R:Env} {h:Heap}
theorem YKB {t:TypeId} {x i:Operand} {s:List UInt8} {k:IntKind} {n:Int} {ch:UInt8} (ho:o.op = .index t x i) (ht:P.underlying t=some .string) (hx:Ev c R x (.r (.str s)))
  (hi:Ev c R i (.r (.int k n))) (h0:c=true→0≤n) (hrow:c=true→s[n.toNat]? = some ch):OpQ P c o R h (.r (.int .u8 ch.toNat)):=by
 intro hc z w _ _ he
 refine ⟨.int .u8 ch.toNat,fun w2 hag=>?_,.r (.int _ _)⟩
 obtain ⟨hl,hv⟩:=List.getElem?_eq_some_iff.1 (hrow hc)
 have hl':n.toNat<(⟨s.toArray⟩:ByteArray).size:=hl
 have h1:(if 0≤n then (⟨s.toArray⟩:ByteArray)[n.toNat]? else none)=some ch:=by
  rw [if_pos (h0 hc),ByteArray.getElem?_lt' _ _ hl']
  exact congrArg some hv
 unfold execOp
 rw [ho]
 simp only [YGC (hx.rep he hc),YBK (hi.rep he hc),Instr.index,asIntOf]
 simp [run_underlying ht,h1]
theorem YHZ {t:TypeId} {x:Operand} {f off:Nat} {row:List RV} {k:Nat} (ho:o.op = .fieldAddr t x f) (ht:YAF P t f off) (hx:Ev c R x (.rop row k)):OpQ P c o R h (.rop row (k+off)):=by
 intro hc z w _ _ he
 obtain ⟨fs,fl,i,h1,h2,h3,h4,h5⟩:=ht
 have hv:=hx.rep he hc
 generalize hw:w.eval x=v at hv
 cases hv with
 | @rop _ _ b off' u hS hcl hr=>
  refine ⟨.pointer (some ⟨b,off'+(k+off),none⟩),fun w2 hag=>?_,.rop u hS hcl hr⟩
  unfold execOp
  rw [ho]
  simp [hw,Instr.fieldAt,run_underlying h1,h2,Instr.sureAddr,fieldPlace,YA3 h4,h5,h3,Addr.add_lit,Nat.add_assoc]
theorem YAk {t:TypeId} {x:Operand} {f off:Nat} {id g i k:Nat} {ob:AObj} (ho:o.op = .fieldAddr t x f) (ht:YAF P t f off) (hx:Ev c R x (.ptr id g i k)) (hh:c=true→hget h id=some ob)
  (hg:ob.gen=g):OpQ P c o R h (.ptr id g i (k+off)):=by
 intro hc z w _ hH he
 obtain ⟨fs,fl,ii,h1,h2,h3,h4,h5⟩:=ht
 have hv:=hx.rep he hc
 generalize hw:w.eval x=v at hv
 cases hv with
 | ptr hgn _ hp=>
  have hob:z.H id=some ob:=by rw [hH]; exact hh hc
  obtain ⟨b,cap,hβ,rfl⟩:=hp ob hob hg
  refine ⟨.pointer (some ⟨b,i * ob.shape.2.1+(k+off),none⟩),fun w2 hag=>?_,.ptr hgn rfl fun o' ho' _=>?_⟩
  ·unfold execOp
   rw [ho]
   simp [hw,Instr.fieldAt,run_underlying h1,h2,Instr.sureAddr,fieldPlace,YA3 h4,h5,h3,Addr.add_lit,Nat.add_assoc]
  ·rw [hob] at ho'; cases ho'; exact ⟨b,cap,hβ,rfl⟩
theorem YFd {t:TypeId} (ht:YAx P t) {w:World} {b k:Nat} {u:Value} (hc:w.cell? ⟨b,k,none⟩=some u):(Instr.loadAt t (.pointer (some ⟨b,k,none⟩))).run P w = .ok u w:=by
 obtain ⟨d,i,h1,h2,_,_⟩:=ht
 simp [Instr.loadAt,Instr.sureAddr,loadVar,YFe h1,h2,hc]
theorem YCu {t:TypeId} {sz:Nat} (ht:YBq P t sz) {w:World} {b k:Nat} (f:Nat→Value) (hc : ∀ j,j<sz→w.cell? ⟨b,k+j,none⟩=some (f j)) :
  (Instr.loadAt t (.pointer (some ⟨b,k,none⟩))).run P w = .ok (.agg ((List.range sz).map f).toArray) w:=by
 obtain ⟨d,i,h1,h2,h3,h4⟩:=ht
 have h5:=run_loadCells (P:=P) w ⟨b,k,none⟩ sz f (fun j hj=>by rw [Addr.add_lit]; exact hc j hj)
 simp [Instr.loadAt,Instr.sureAddr,loadVar,YFe h1,h2,YA3 h3,h4,h5]
theorem YFX {x:Cx} {cs:List AV} {sz:Nat} (hl:cs.length=sz) (f:Nat→Value) (hf : ∀ j a,cs[j]? = some a→YAN x a (f j)):YAN x (.agg cs) (.agg ((List.range sz).map f).toArray):=by
 refine .agg (by simp [hl]) fun i a u h1 h2=>?_
 have hi:i<sz:=by have:=(List.getElem?_eq_some_iff.1 h1).1; omega
 simp [hi] at h2
 subst h2
 exact hf i a h1
theorem YMy {t:TypeId} {x:Operand} {row:List RV} {k:Nat} {d:RV} (ho:o.op = .load t x) (ht:YAx P t) (hx:Ev c R x (.rop row k)) (hd:c=true→row[k]? = some d):OpQ P c o R h (.r d):=by
 intro hc z w _ _ he
 have hv:=hx.rep he hc
 generalize hw:w.eval x=v at hv
 cases hv with
 | @rop _ _ b off' u hS hcl hr=>
  refine ⟨u k,fun w2 hag=>?_,.r (hr _ _ (hd hc))⟩
  unfold execOp
  rw [ho]
  have hne:row≠[]:=by have:=hd hc; rintro rfl; simp at this
  simp [hw,YFd ht ((hag.cellS (hS hne)).trans (hcl _ _ (hd hc)))]
theorem YLW {t:TypeId} {x:Operand} {row:List RV} {sz:Nat} (ho:o.op = .load t x) (ht:YBq P t sz) (hx:Ev c R x (.rop row 0)) (hd:row.length=sz):OpQ P c o R h (.agg (row.map .r)):=by
 intro hc z w _ _ he
 have hv:=hx.rep he hc
 generalize hw:w.eval x=v at hv
 cases hv with
 | @rop _ _ b off' u hS hcl hr=>
  refine ⟨.agg ((List.range sz).map u).toArray,fun w2 hag=>?_,YFX (by simp [hd]) u fun j a hj=>?_⟩
  ·unfold execOp
   rw [ho]
   have:=YCu ht (w:=w2) (b:=b) (k:=off'+0) u (fun j hj=>(hag.cellS (hS (by rintro rfl; simp at hd; omega))).trans (hcl j (row[j]'(by omega)) (List.getElem?_eq_getElem _)))
   simp only [Nat.add_zero] at this
   simp [hw,this]
  ·simp only [List.getElem?_map,Option.map_eq_some_iff] at hj
   obtain ⟨d,h1,rfl⟩:=hj
   exact .r (hr _ _ h1)
theorem YHe {x:Cx} (hok:x.ok) {id g k:Nat} {e:TypeId} {cs:List AV} {v:Value} (hH:x.H id=some (.box g e cs)) (hv:YAN x (.ptr id g 0 k) v) :
  ∃ b cur,x.β id=some (b,1)∧v = .pointer (some ⟨b,k,none⟩)∧x.w.heap[b]? = some (.cells cur e (0,0))∧cur.size=cs.length ∧
   ∀ (j:Nat) (a:AV),cs[j]? = some a → ∃ u:Value,cur[j]? = some u∧u.oneCell'=true∧YAN x a u:=by
 obtain ⟨_,b,cur,h1,h2,h3,h4⟩:=hok.obj _ _ hH
 cases hv with
 | ptr _ _ hv=>
  obtain ⟨b',cap,h5,h6⟩:=hv _ hH rfl
  rw [h1] at h5
  simp only [Option.some.injEq,Prod.mk.injEq] at h5
  obtain ⟨rfl,rfl⟩:=h5
  exact ⟨b,cur,h1,by rw [h6,Nat.zero_mul,Nat.zero_add],h2,h3,h4⟩
theorem YLU {t:TypeId} {x:Operand} {id g k:Nat} {e:TypeId} {cs:List AV} {a:AV} (ho:o.op = .load t x) (ht:YAx P t) (hx:Ev c R x (.ptr id g 0 k)) (hh:c=true→hget h id=some (.box g e cs))
  (ha:c=true→cs[k]? = some a):OpQ P c o R h a:=by
 intro hc z w hok hH he
 have hHid:z.H id=some (.box g e cs):=by rw [hH]; exact hh hc
 obtain ⟨b,cur,h1,h2,h3,h4,h5⟩:=YHe hok hHid (hx.rep he hc)
 obtain ⟨u,h6,_,h7⟩:=h5 _ _ (ha hc)
 refine ⟨u,fun w2 hag=>?_,h7⟩
 unfold execOp
 rw [ho]
 simp [h2,YFd ht ((hag.cellO hHid h1).trans ((cell_of_row _ b k cur e _ h3).trans h6))]
theorem YOx {t:TypeId} {x:Operand} {id g:Nat} {e:TypeId} {sz:Nat} {cs:List AV} (ho:o.op = .load t x) (ht:YBq P t sz) (hx:Ev c R x (.ptr id g 0 0)) (hh:c=true→hget h id=some (.box g e cs))
  (hl:cs.length=sz):OpQ P c o R h (.agg cs):=by
 intro hc z w hok hH he
 have hHid:z.H id=some (.box g e cs):=by rw [hH]; exact hh hc
 obtain ⟨b,cur,h1,h2,h3,h4,h5⟩:=YHe hok hHid (hx.rep he hc)
 have hcell : ∀ j,j<sz→z.w.cell? ⟨b,0+j,none⟩=some ((fun j=>cur.getD j undef) j):=by
  intro j hj
  have hj':j<cur.size:=by omega
  rw [Nat.zero_add,cell_of_row _ b j cur e _ h3]
  simp [hj']
 refine ⟨.agg ((List.range sz).map fun j=>cur.getD j undef).toArray,fun w2 hag=>?_,YFX hl _ fun j a hj=>?_⟩
 ·unfold execOp
  rw [ho]
  simp [h2,YCu ht _ (fun j hj=>(hag.cellO hHid h1).trans (hcell j hj))]
 ·obtain ⟨u,h6,_,h7⟩:=h5 _ _ hj
  obtain ⟨h8,h9⟩:=Array.getElem?_eq_some_iff.1 h6
  simpa [h8,h9] using h7
theorem YHm {w:World} {e:TypeId} {sz n cap b:Nat} {us:List Value} (h:w.ownsRow 0 e sz (.slice (some ⟨b,0,none⟩) n cap) n us) {j:Nat} {u:Value} (hj:us[j]? = some u):w.cell? ⟨b,j,none⟩=some u:=by
 have:=h.cells (g:=b) rfl j u hj
 rwa [Addr.add_lit,Nat.zero_add] at this
theorem YKh {x:Cx} (hok:x.ok) {id g i k:Nat} {e:TypeId} {sz:Nat} {xs:List (List RV)} {v:Value} (hH:x.H id=some (.arr g e sz xs)) (_hi:i<xs.length) (hv:YAN x (.ptr id g i k) v) :
  ∃ b cap us,x.β id=some (b,cap)∧v = .pointer (some ⟨b,i * sz+k,none⟩)∧x.w.ownsRow 0 e sz (.slice (some ⟨b,0,none⟩) xs.length cap) xs.length us∧(∀ row∈xs,row.length=sz) ∧
   ∀ i row c d,xs[i]? = some row→row[c]? = some d → ∃ u,us[i * sz+c]? = some u∧RRep x.w x.S d u:=by
 obtain ⟨_,h0,h1,hdr,us,h2,h3,h4⟩:=hok.obj _ _ hH
 cases hv with
 | ptr _ _ hv=>
  obtain ⟨b,cap,h5,h6⟩:=hv _ hH rfl
  rw [h5] at h2
  simp only [YFz] at h2
  subst h2
  exact ⟨b,cap,us,h5,h6,h3,h1,h4⟩
theorem YLV {t:TypeId} {x:Operand} {id g i k:Nat} {e:TypeId} {sz:Nat} {xs:List (List RV)} {row:List RV} {d:RV} (ho:o.op = .load t x) (ht:YAx P t) (hx:Ev c R x (.ptr id g i k)) (hh:c=true→hget h id=some (.arr g e sz xs))
  (hrow:c=true→xs[i]? = some row) (ha:c=true→row[k]? = some d):OpQ P c o R h (.r d):=by
 intro hc z w hok hH he
 have hHid:z.H id=some (.arr g e sz xs):=by rw [hH]; exact hh hc
 obtain ⟨b,cap,us,h1,h2,h3,_,h5⟩:=YKh hok hHid (List.getElem?_eq_some_iff.1 (hrow hc)).1 (hx.rep he hc)
 obtain ⟨u,h6,h7⟩:=h5 _ _ _ _ (hrow hc) (ha hc)
 refine ⟨u,fun w2 hag=>?_,.r h7⟩
 unfold execOp
 rw [ho]
 simp [h2,YFd ht ((hag.cellO hHid h1).trans (YHm h3 h6))]
theorem YOy {t:TypeId} {x:Operand} {id g i:Nat} {e:TypeId} {sz:Nat} {xs:List (List RV)} {row:List RV} (ho:o.op = .load t x) (ht:YBq P t sz) (hx:Ev c R x (.ptr id g i 0)) (hh:c=true→hget h id=some (.arr g e sz xs))
  (hrow:c=true→xs[i]? = some row):OpQ P c o R h (.agg (row.map .r)):=by
 intro hc z w hok hH he
 have hHid:z.H id=some (.arr g e sz xs):=by rw [hH]; exact hh hc
 obtain ⟨b,cap,us,h1,h2,h3,h4,h5⟩:=YKh hok hHid (List.getElem?_eq_some_iff.1 (hrow hc)).1 (hx.rep he hc)
 have hl:=h4 row (List.mem_of_getElem? (hrow hc))
 have hcell : ∀ j,j<sz→z.w.cell? ⟨b,i * sz+0+j,none⟩=some ((fun j=>us.getD (i * sz+j) undef) j):=by
  intro j hj
  obtain ⟨u,h6,_⟩:=h5 i row j (row[j]'(by omega)) (hrow hc) (List.getElem?_eq_getElem _)
  rw [Nat.add_zero,YHm h3 h6]
  simp [List.getD,h6]
 refine ⟨.agg ((List.range sz).map fun j=>us.getD (i * sz+j) undef).toArray,fun w2 hag=>?_,YFX (by simp [hl]) _ fun j a hj=>?_⟩
 ·unfold execOp
  rw [ho]
  simp only [h2,YCu ht _ (fun j hj=>(hag.cellO hHid h1).trans (hcell j hj)),Sem.run_bind,Result.andThen_ok,Sem.run_pure]
 ·simp only [List.getElem?_map,Option.map_eq_some_iff] at hj
  obtain ⟨d,h6,rfl⟩:=hj
  obtain ⟨u,h7,h8⟩:=h5 i row j d (hrow hc) h6
  simpa [List.getD,h7] using YAN.r h8
theorem YM0 {x:Operand} {vs:List AV} {i:Nat} {a:AV} (ho:o.op = .extract x i) (hx:Ev c R x (.tup vs)) (ha:vs[i]? = some a):OpQ P c o R h a:=by
 intro hc z w _ _ he
 have hv:=hx.rep he hc
 generalize hw:w.eval x=v at hv
 cases hv with
 | @tup _ us hl hall=>
  have hi:i<us.size:=by have:=(List.getElem?_eq_some_iff.1 ha).1; omega
  refine ⟨us[i],fun w2 hag=>?_,hall i a us[i] ha (Array.getElem?_eq_getElem hi)⟩
  unfold execOp
  rw [ho]
  simp [hw,Instr.extract,Array.getElem?_eq_getElem hi]
theorem YMS {x:Operand} {row:List RV} {k:Nat} (ho:o.op = .nilCheck x) (hx:Ev c R x (.rop row k)):OpQ P c o R h (.rop row k):=by
 intro hc z w _ _ he
 have hv:=hx.rep he hc
 refine ⟨w.eval x,fun w2 hag=>?_,hv⟩
 generalize hw:w.eval x=v at hv
 cases hv with
 | @rop _ _ b off' u hS hcl hr=>
  unfold execOp
  rw [ho]
  simp [hw]
theorem YHW {x:Operand} {id g i k:Nat} {ob:AObj} (ho:o.op = .nilCheck x) (hx:Ev c R x (.ptr id g i k)) (hh:c=true→hget h id=some ob) (hg:ob.gen=g):OpQ P c o R h (.ptr id g i k):=by
 intro hc z w _ hH he
 have hv:=hx.rep he hc
 refine ⟨w.eval x,fun w2 hag=>?_,hv⟩
 generalize hw:w.eval x=v at hv
 cases hv with
 | ptr hgn _ hp=>
  obtain ⟨b,cap,hβ,rfl⟩:=hp ob (by rw [hH]; exact hh hc) hg
  unfold execOp
  rw [ho]
  simp [hw]
theorem YIN {t t':TypeId} {x:Operand} {k k':IntKind} {n:Int} {d:TypeDesc} (ho:o.op = .convert t t' x) (ht:P.underlying t=some d) (ht':P.underlying t'=some (.int k')) (hx:Ev c R x (.r (.int k n))) :
  OpQ P c o R h (.r (.int k' (k'.wrap n))):=by
 intro hc z w _ _ he
 refine ⟨.int k' (k'.wrap n),fun w2 hag=>?_,.r (.int _ _)⟩
 unfold execOp
 rw [ho]
 simp [YBK (hx.rep he hc),convert,run_underlying ht,run_underlying ht',Conv.intToInt]
theorem YOw {ats:Array TypeId} {x y:Operand} {k:IntKind} {m n:Int} (ho:o.op = .call { callee:=.builtin .min,args:=#[x,y],argTypes:=ats }) (hx:Ev c R x (.r (.int k m))) (hy:Ev c R y (.r (.int k n))) :
  OpQ P c o R h (.r (.int k (min m n))):=by
 intro hc z w _ _ he
 refine ⟨.int k (if n<m then n else m),fun w2 hag=>?_,?_⟩
 ·unfold execOp
  rw [ho]
  simp [resolve,invoke,builtin,YBK (hx.rep he hc),YBK (hy.rep he hc),Builtin.min_,Builtin.min2]
 ·have:(if n<m then n else m)=min m n:=by omega
  rw [this]; exact .r (.int _ _)
theorem YRH {ats:Array TypeId} {x y:Operand} {k:IntKind} {m n:Int} (ho:o.op = .call { callee:=.builtin .max,args:=#[x,y],argTypes:=ats }) (hx:Ev c R x (.r (.int k m))) (hy:Ev c R y (.r (.int k n))) :
  OpQ P c o R h (.r (.int k (max m n))):=by
 intro hc z w _ _ he
 refine ⟨.int k (if n > m then n else m),fun w2 hag=>?_,?_⟩
 ·unfold execOp
  rw [ho]
  simp [resolve,invoke,builtin,YBK (hx.rep he hc),YBK (hy.rep he hc),Builtin.max_,Builtin.max2]
 ·have:(if n > m then n else m)=max m n:=by omega
  rw [this]; exact .r (.int _ _)
end
section
variable {P:Program} {c:Bool} {o:Oper} {R:Env} {h:Heap} {n:Nat}
theorem YB2 (id:Nat) (ob:AObj) (h:Heap):(fun i=>if id=i then some ob else hget h i)=hget ((id,some ob) :: h):=by
 funext i; rw [YAb]
def YAc:AV→List AV
 | .agg cs=>cs
 | a=>[a]
theorem YFv {x:Cx} {a:AV} {v:Value} (hv:YAN x a v) (h1 : ∀ b∈YAc a,b.one=true) :
  v.cells.size=(YAc a).length∧(∀ (j:Nat) (b:AV),(YAc a)[j]? = some b → ∃ u:Value,v.cells[j]? = some u∧u.oneCell'=true∧YAN x b u) ∧ ∀ u∈v.cells.toList,u.oneCell'=true:=by
 have key : ∀ (cs:List AV) (us:Array Value),cs.length=us.size→(∀ (i:Nat) (c:AV) (u:Value),cs[i]? = some c→us[i]? = some u→YAN x c u)→(∀ b∈cs,b.one=true) →
   us.size=cs.length∧(∀ (j:Nat) (b:AV),cs[j]? = some b → ∃ u:Value,us[j]? = some u∧u.oneCell'=true∧YAN x b u) ∧ ∀ u∈us.toList,u.oneCell'=true:=by
  intro cs us hl hall hone
  refine ⟨hl.symm,fun j b hj=>?_,fun u hu=>?_⟩
  ·have hjl:j<us.size:=by have:=(List.getElem?_eq_some_iff.1 hj).1; omega
   exact ⟨us[j],Array.getElem?_eq_getElem hjl,(hall j b us[j] hj (Array.getElem?_eq_getElem hjl)).one (hone b (List.mem_of_getElem? hj)),hall j b us[j] hj (Array.getElem?_eq_getElem hjl)⟩
  ·obtain ⟨j,hj⟩:=List.mem_iff_getElem?.1 hu
   have hjl:j<cs.length:=by have:=(List.getElem?_eq_some_iff.1 hj).1; simp at this; omega
   have h1:=hall j cs[j] u (List.getElem?_eq_getElem hjl) (by simpa using hj)
   exact h1.one (hone _ (List.getElem_mem hjl))
 cases a with
 | agg cs=>
  cases hv with
  | agg hl hall=>exact key _ _ hl hall h1
 | _=>
  have h2:=hv.one (h1 _ (by simp [YAc]))
  have h3:v.cells = #[v]:=by cases v <;> first | rfl | (simp [Value.oneCell'] at h2)
  rw [h3]
  refine key _ _ rfl (fun i c u hc hu=>?_) h1
  simp only [YAc,List.getElem?_singleton] at hc
  split at hc
  ·rename_i hi; subst hi
   cases hc; simp at hu; subst hu; exact hv
  ·cases hc
theorem YLq {x:Cx} (hok:x.ok) (id:Nat) (e:TypeId) (a:AV) {v:Value} (hv:YAN x a v) (h1 : ∀ b∈YAc a,b.one=true) :
  ∃ y:Cx,x.le y∧y.ok∧y.w=x.w.alloc (.cells v.cells e)∧y.H=(fun i=>if id=i then some (.box x.n e (YAc a)) else x.H i)∧y.n=x.n+1 ∧
   YAN y (.ptr id x.n 0 0) (.pointer (some ⟨x.w.heap.size,0,none⟩)):=by
 obtain ⟨hs,hcell,_⟩:=YFv hv h1
 have:=Cx.upd hok id (.box x.n e (YAc a)) (x.w.alloc (.cells v.cells e)) (some (x.w.heap.size,1)) (x.n+1) (by simp) rfl rfl rfl
  (fun b hb _=>heap_alloc_old _ _ hb) (fun b k hb=>by cases hb; simp) (by omega) (by simp [AObj.gen]) (fun hg=>absurd hg (by simp [AObj.gen]))
  (fun hle=>⟨x.w.heap.size,v.cells,rfl,heap_alloc_new _ _,hs,fun j b hj=>by
   obtain ⟨u,k1,k2,k3⟩:=hcell j b hj
   exact ⟨u,k1,k2,k3.mono hle⟩⟩)
 refine ⟨_,this.1,this.2,rfl,rfl,rfl,.ptr (by simp) rfl fun o' ho' _=>?_⟩
 simp only [if_pos] at ho'
 cases ho'
 exact ⟨x.w.heap.size,1,by simp,by simp⟩
theorem YM3 {t:TypeId} {v:Value} {w:World} : (newVar t v).run P w = .ok ⟨w.heap.size,0,none⟩ (w.alloc (.cells v.cells t)):=by
 simp [newVar,newRow]
def YCB (P:Program) (t:TypeId) (z:Value):Prop:=∃ i,P.info? t=some i∧i.zero=some z
def YHI (z:Value):AV:=
 match z with
 | .agg cs=>.agg (cs.toList.map YIi)
 | v=>YIi v
theorem YMn (x:Cx) (z:Value):YAN x (YHI z) z:=by
 cases z with
 | agg cs=>
  refine .agg (by simp) fun i a u h1 h2=>?_
  have h2':cs.toList[i]? = some u:=by simpa using h2
  simp only [List.getElem?_map,h2',Option.map_some,Option.some.injEq] at h1
  subst h1; exact YGw x u
 | _=>simp only [YHI]; exact YGw x _
theorem YWt {t:TypeId} {x:Operand} {a:AV} (id:Nat) (ho:o.op = .box t x) (hx:Ev c R x a) (h1:(YAc a).all AV.one=true):YAV P c o R h n (.ptr id n 0 0) ((id,some (.box n t (YAc a))) :: h) (n+1):=by
 intro hc z w hok hH hn he K Q hK
 obtain ⟨y,k1,k2,k3,k4,k5,k6⟩:=YLq hok id t a (hx.rep he hc) (fun b hb=>List.all_eq_true.1 h1 b hb)
 unfold Oper.wp execOp
 rw [ho]
 simp only [Instr.box,Sem.run_bind,YM3,Result.andThen_ok,Sem.run_pure]
 have:=hK (.pointer (some ⟨z.w.heap.size,0,none⟩)) y k1 k2 (by rw [k4,hH,hn,YB2]) (by rw [k5,hn]) (by rw [← hn]; exact k6)
 rw [k3] at this
 exact this
theorem YRJ {t:TypeId} {zv:Value} (id:Nat) (ho:o.op = .alloc t) (hz:YCB P t zv) (h1:(YAc (YHI zv)).all AV.one=true) :
  YAV P c o R h n (.ptr id n 0 0) ((id,some (.box n t (YAc (YHI zv)))) :: h) (n+1):=by
 intro hc z w hok hH hn he K Q hK
 obtain ⟨i,hi,hz⟩:=hz
 obtain ⟨y,k1,k2,k3,k4,k5,k6⟩:=YLq hok id t (YHI zv) (YMn z zv) (fun b hb=>List.all_eq_true.1 h1 b hb)
 unfold Oper.wp execOp
 rw [ho]
 simp only [Instr.alloc,zeroValue,typeInfo,Sem.run_bind,run_program,Result.andThen_ok,hi,Sem.run_pure,hz,YM3]
 have:=hK (.pointer (some ⟨z.w.heap.size,0,none⟩)) y k1 k2 (by rw [k4,hH,hn,YB2]) (by rw [k5,hn]) (by rw [← hn]; exact k6)
 rw [k3] at this
 exact this
theorem YId {t:TypeId} {i:TypeInfo} (hi:P.info? t=some i) {w:World} {b k:Nat} {e:TypeId} {cur:Array Value} (hh:w.heap[b]? = some (.cells cur e (0,0))) {v:Value} (hs:v.cells.size=i.size)
  (h1 : ∀ u∈v.cells.toList,u.oneCell'=true) (hfit:k+v.cells.size≤cur.size) :
  (Instr.storeAt t (.pointer (some ⟨b,k,none⟩)) v).run P w = .ok () (w.setRow b (cur.toList.take k++v.cells.toList++cur.toList.drop (k+v.cells.size)).toArray):=by
 have:=run_storeCells_at P b k e v.cells.toList 0 cur w hh (by simpa using hfit) h1
 simp only [Nat.add_zero,Array.length_toList] at this
 simp [Instr.storeAt,Instr.sureAddr,storeVar,YA3 hi,hs,this]
theorem YFP {α:Type} (l vs:List α) (k j:Nat) (hk:k+vs.length≤l.length):(l.take k++vs++l.drop (k+vs.length))[j]? = if k≤j∧j<k+vs.length then vs[j-k]? else l[j]?:=by
 by_cases h1:j<k
 ·rw [if_neg (by omega),List.append_assoc,List.getElem?_append_left (by simp; omega),List.getElem?_take,if_pos h1]
 ·by_cases h2:j<k+vs.length
  ·rw [if_pos (by omega),List.append_assoc,List.getElem?_append_right (by simp; omega),List.getElem?_append_left (by simp; omega)]
   congr 1
   simp only [List.length_take]
   omega
  ·rw [if_neg (by omega),List.getElem?_append_right (by simp; omega)]
   simp only [List.length_append,List.length_take,List.getElem?_drop]
   congr 1 <;> omega
def YG8 (cs:List AV) (k:Nat) (vs:List AV):List AV:=cs.take k++vs++cs.drop (k+vs.length)
theorem YJ9 {t:TypeId} {x y:Operand} {id g k:Nat} {e:TypeId} {cs:List AV} {a:AV} {sz:Nat} (ho:o.op = .store t x y) (ht : ∃ i,P.info? t=some i∧i.size=sz) (hx:Ev c R x (.ptr id g 0 k))
  (hh:hget h id=some (.box g e cs)) (hy:Ev c R y a) (hsz:(YAc a).length=sz) (h1:(YAc a).all AV.one=true) (hfit:Nat.ble (k+sz) cs.length=true) :
  YAV P c o R h n .any ((id,some (.box g e (YG8 cs k (YAc a)))) :: h) n:=by
 intro hc z w hok hH hn he K Q hK
 obtain ⟨ii,hi,hisz⟩:=ht
 have hHid:z.H id=some (.box g e cs):=by rw [hH]; exact hh
 have hfit':k+sz≤cs.length:=Nat.le_of_ble_eq_true hfit
 obtain ⟨b,cur,hβ,hx2,hrow,hcs,hcells⟩:=YHe hok hHid (hx.rep he hc)
 obtain ⟨hvs,hvc,hv1⟩:=YFv (hy.rep he hc) (fun b hb=>List.all_eq_true.1 h1 b hb)
 have hrun:=YId (P:=P) (k:=k) hi hrow (v:=w.eval y) (by omega) hv1 (by omega)
 have hgn:=(hok.obj _ _ hHid).1
 have hl:(YG8 cs k (YAc a)).length=cs.length:=by simp [YG8]; omega
 have hup:=Cx.upd hok id (.box g e (YG8 cs k (YAc a))) (z.w.setRow b (cur.toList.take k++(w.eval y).cells.toList++cur.toList.drop (k+(w.eval y).cells.size)).toArray) (some (b,1)) z.n (by simp [World.setRow]) rfl rfl rfl
  (fun b' _ hne=>setRow_other _ _ _ _ (fun e=>hne _ 1 hHid (by rw [e]; exact hβ))) (fun b' k' hb=>by
   cases hb
   exact ⟨by simpa [World.setRow] using (hok.own id _ b 1 hHid hβ).1,.inr ⟨_,_,hHid,hβ⟩⟩) (Nat.le_refl _) hgn
  (fun _=>⟨_,hHid,rfl,by simp [AObj.shape,hl],hβ.symm⟩)
  (fun hle=>⟨b,_,rfl,setRow_heap _ _ _ _ _ _ hrow,by simp; omega,fun j d hj=>by
   have hsp:=YFP cs (YAc a) k j (by omega)
   have hsp2:=YFP cur.toList (w.eval y).cells.toList k j (by simp; omega)
   rw [Array.length_toList] at hsp2
   rw [List.getElem?_toArray,hsp2]
   unfold YG8 at hj
   rw [hsp,← hvs] at hj
   split at hj
   ·rename_i hc'
    obtain ⟨u,k1,k2,k3⟩:=hvc _ _ hj
    exact ⟨u,by rw [if_pos hc']; simpa using k1,k2,k3.mono hle⟩
   ·rename_i hc'
    obtain ⟨u,k1,k2,k3⟩:=hcells _ _ hj
    exact ⟨u,by rw [if_neg hc']; simpa using k1,k2,k3.mono hle⟩⟩)
 unfold Oper.wp execOp
 rw [ho]
 simp only [hx2,Sem.run_bind,hrun,Result.andThen_ok,Sem.run_pure]
 exact hK undef _ hup.1 hup.2 (by simp only [hH]; exact YB2 _ _ _) hn (.any _)
end
section
variable {P:Program} {c:Bool} {o:Oper} {R:Env} {h:Heap} {n:Nat}
def YAr (P:Program) (t e:TypeId) (sz by_:Nat):Prop:=
 P.underlying t=some (.slice e) ∧ ∃ i z,P.info? e=some i∧i.size=sz∧i.bytes=by_∧i.zero=some z∧z.cells.size=sz∧(∀ u∈z.cells.toList,u.oneCell'=true)∧0<sz
theorem YAr.slice {t e:TypeId} {sz b:Nat} (h:YAr P t e sz b):YEU P t e sz:=by
 obtain ⟨h1,i,z,h2,h3,_⟩:=h
 exact ⟨h1,i,h2,h3⟩
def YMi:Value→Option (Nat × Nat)
 | .slice (some a) _ cap=>some (a.block,cap)
 | _=>none
theorem YWC {xs:List (List RV)} {sz:Nat} (hrow : ∀ row∈xs,row.length=sz) {us:List Value} {Q:RV→Value→Prop}
  (hl:us.length=xs.length * sz) (hq : ∀ j u,us[j]? = some u → ∃ row d,xs[j / sz]? = some row∧row[j % sz]? = some d∧Q d u) (hsz:0<sz) {i k:Nat} {row:List RV} {d:RV} (h1:xs[i]? = some row) (h2:row[k]? = some d) :
  ∃ u,us[i * sz+k]? = some u∧Q d u:=by
 have hi:i<xs.length:=(List.getElem?_eq_some_iff.1 h1).1
 have hk:k<sz:=by rw [← hrow row (List.mem_of_getElem? h1)]; exact (List.getElem?_eq_some_iff.1 h2).1
 have hlt:i * sz+k<us.length:=by
  rw [hl]
  calc i * sz+k<i * sz+sz:=by omega
   _=(i+1) * sz:=by rw [Nat.add_mul,Nat.one_mul]
   _≤xs.length * sz:=Nat.mul_le_mul_right _ hi
 refine ⟨us[i * sz+k],List.getElem?_eq_getElem hlt,?_⟩
 obtain ⟨row',d',h3,h4,h5⟩:=hq _ _ (List.getElem?_eq_getElem hlt)
 have e1:(i * sz+k) / sz=i:=by rw [Nat.mul_comm,Nat.mul_add_div hsz,Nat.div_eq_of_lt hk,Nat.add_zero]
 have e2:(i * sz+k) % sz=k:=by rw [Nat.mul_comm,Nat.mul_add_mod,Nat.mod_eq_of_lt hk]
 rw [e1,h1] at h3
 cases h3
 rw [e2,h2] at h4
 cases h4
 exact h5
def YWa (x:Cx) (v:Value) (sz:Nat) (ys:List (List RV)):Prop:=
 (ys=[] ∧ ∃ c,v = .slice none 0 c) ∨ ∃ (a:Addr) (cap:Nat) (news:List Value),v = .slice (some a) ys.length cap∧news.length=ys.length * sz∧(∀ j u,news[j]? = some u→x.w.cell? (Addr.add a j)=some u)∧(∀ u∈news,u.oneCell'=true) ∧
  ∀ i row k d,ys[i]? = some row→row[k]? = some d → ∃ u,news[i * sz+k]? = some u∧RRep x.w x.S d u
theorem YWk {x:Cx} {v:Value} {ys:List (List RV)} {sz:Nat} (hv:YAN x (.r (.sl ys)) v) (hsz : ∀ row∈ys,row.length=sz) (h0:0<sz):YWa x v sz ys:=by
 rcases YRP hv with ⟨rfl,rfl | ⟨a,rfl⟩⟩ | ⟨b,off,cap,size,u,rfl,hS,hcap,hm,hrow,hcell,hrep⟩
 ·exact .inl ⟨rfl,0,rfl⟩
 ·exact .inr ⟨_,0,[],rfl,by simp,by simp,by simp,by simp⟩
 ·by_cases hy:ys=[]
  ·subst hy
   exact .inr ⟨_,cap,[],rfl,by simp,by simp,by simp,by simp⟩
  ·have hs:size=sz:=by
    obtain ⟨row,hr⟩:=List.exists_mem_of_ne_nil _ hy
    rw [← hrow row hr,hsz row hr]
   subst hs
   have hget : ∀ j,j<ys.length * size → ∃ row d,ys[j / size]? = some row∧row[j % size]? = some d:=by
    intro j hj
    have h1:j / size<ys.length:=by rw [Nat.div_lt_iff_lt_mul h0]; exact hj
    have h2:j % size<(ys[j / size]).length:=by rw [hrow _ (List.getElem_mem _)]; exact Nat.mod_lt _ h0
    exact ⟨_,_,List.getElem?_eq_getElem h1,List.getElem?_eq_getElem h2⟩
   have hdm : ∀ j,j / size * size+j % size=j:=fun j=>Nat.div_add_mod' j size
   refine .inr ⟨⟨b,off,none⟩,cap,(List.range (ys.length * size)).map fun j=>u (j / size) (j % size),rfl,by simp,fun j w hj=>?_,fun w hw=>?_,fun i row k d h1 h2=>?_⟩
   ·simp only [List.getElem?_map,Option.map_eq_some_iff] at hj
    obtain ⟨j',h3,rfl⟩:=hj
    obtain ⟨h4,h5⟩:=List.getElem?_eq_some_iff.1 h3
    simp only [List.getElem_range] at h5; subst h5
    simp only [List.length_range] at h4
    obtain ⟨row,d,k1,k2⟩:=hget _ h4
    rw [Addr.add_lit,← hcell _ _ _ _ k1 k2,Nat.add_assoc,hdm]
   ·simp only [List.mem_map,List.mem_range] at hw
    obtain ⟨j,hj,rfl⟩:=hw
    obtain ⟨row,d,k1,k2⟩:=hget _ hj
    exact (hrep _ _ _ _ k1 k2).one
   ·refine YWC hrow (Q:=fun d u=>RRep x.w x.S d u) (by simp) (fun j w hj=>?_) h0 h1 h2
    simp only [List.getElem?_map,Option.map_eq_some_iff] at hj
    obtain ⟨j',h3,rfl⟩:=hj
    obtain ⟨h4,h5⟩:=List.getElem?_eq_some_iff.1 h3
    simp only [List.getElem_range] at h5; subst h5
    simp only [List.length_range] at h4
    obtain ⟨row,d,k1,k2⟩:=hget _ h4
    exact ⟨row,d,k1,k2,hrep _ _ _ _ k1 k2⟩
theorem YN0 {x:Cx} {sz:Nat} {xs:List (List RV)} {us:List Value} (hl:us.length=xs.length * sz) (h0:0<sz) (hrow : ∀ row∈xs,row.length=sz)
  (hc : ∀ i row k d,xs[i]? = some row→row[k]? = some d → ∃ u,us[i * sz+k]? = some u∧RRep x.w x.S d u) : ∀ u∈us,u.oneCell'=true:=by
 intro u hu
 obtain ⟨j,hj⟩:=List.mem_iff_getElem?.1 hu
 have hj1:j<xs.length * sz:=by rw [← hl]; exact (List.getElem?_eq_some_iff.1 hj).1
 have h1:j / sz<xs.length:=by rw [Nat.div_lt_iff_lt_mul h0]; exact hj1
 have h2:j % sz<(xs[j / sz]).length:=by rw [hrow _ (List.getElem_mem _)]; exact Nat.mod_lt _ h0
 obtain ⟨v,h3,h4⟩:=hc _ _ _ _ (List.getElem?_eq_getElem h1) (List.getElem?_eq_getElem h2)
 rw [Nat.div_add_mod',hj] at h3
 cases h3
 exact h4.one
theorem YXQ {x:Cx} (hok:x.ok) {id g:Nat} {e:TypeId} {sz:Nat} {ys:List (List RV)} {v:Value} (hH:x.H id=some (.arr g e sz ys)) (hv:YAN x (.own id g) v):YWa x v sz ys:=by
 obtain ⟨h0,hrow,us,hd,hown,hc⟩:=YLe hok hH hv
 have hone:=YN0 hown.1 h0 hrow hc
 unfold YFz at hd
 split at hd
 ·have hy:ys=[]:=List.eq_nil_of_length_eq_zero hd.1
  exact .inl ⟨hy,0,hd.2⟩
 ·subst hd
  exact .inr ⟨_,_,us,rfl,hown.1,hown.cells (by rfl),hone,hc⟩
theorem YIt {x:Cx} (hok:x.ok) {t e:TypeId} {sz by_:Nat} (ht:YAr P t e sz by_) (id:Nat) {xs ys:List (List RV)} {us:List Value} {v u:Value} (hown:x.w.ownsRow 0 e sz v xs.length us)
  (hβ : ∀ b,v.ownBlock=some b → ∃ o0 k,x.H id=some o0∧x.β id=some (b,k)) (hrow : ∀ row∈xs,row.length=sz)
  (hc : ∀ i row k d,xs[i]? = some row→row[k]? = some d → ∃ u,us[i * sz+k]? = some u∧RRep x.w x.S d u)
  (hsrc:YWa x u sz ys) (hrow' : ∀ row∈ys,row.length=sz) (hm:xs.length+ys.length≤maxLen) (hb:(xs.length+ys.length) * by_≤140737488355328) (ty:TypeId) :
  ∃ v' y,(Builtin.append_ #[t,t] ty #[v,u]).run P x.w = .ok v' y.w∧x.le y∧y.ok∧y.H=(fun i=>if id=i then some (.arr x.n e sz (xs++ys)) else x.H i)∧y.n=x.n+1∧YAN y (.own id x.n) v':=by
 obtain ⟨ht1,ii,z,hi,hisz,hiby,hz,hzs,_,h0⟩:=ht
 have key : ∃ (v':Value) (w':World) (news:List Value),(Builtin.append_ #[t,t] ty #[v,u]).run P x.w = .ok v' w'∧w'.ownsRow 0 e sz v' (xs.length+ys.length) (us++news)∧x.w.grownBy w' v.ownBlock ∧
   (v'.ownBlock=v.ownBlock∨v'.ownBlock=some x.w.heap.size)∧news.length=ys.length * sz ∧ ∀ i row k d,ys[i]? = some row→row[k]? = some d → ∃ u,news[i * sz+k]? = some u∧RRep x.w x.S d u:=by
  rcases hsrc with ⟨hy,cc,rfl⟩ | ⟨a,cap,news,rfl,hl,hcells,hone,hrep⟩
  ·subst hy
   refine ⟨v,x.w,[],?_,by simpa using hown,⟨rfl,rfl,rfl,Nat.le_refl _,fun _ _ _=>rfl⟩,.inl rfl,by simp,by simp⟩
   rcases hown.2 with ⟨rfl,h1⟩ | ⟨g,cap,cur,rfl,_,_,hnc,_⟩
   ·simp [Builtin.append_,run_underlying ht1,sizeOf,typeInfo,hi,Builtin.lenOf,Builtin.firstCells]
   ·simp [Builtin.append_,run_underlying ht1,sizeOf,typeInfo,hi,Builtin.lenOf,Builtin.firstCells,hnc,storeCells]
  ·obtain ⟨v',w',hrun,k1,k2,_,k4⟩:=run_append_own_at (P:=P) x.w 0 t ty e ii z sz by_ ht1 hi hz hisz hiby hzs h0 v xs.length us hown a ys.length cap news hl hcells hone hm hb (Nat.zero_le _)
   exact ⟨v',w',news,hrun,k1,k2,k4,hl,hrep⟩
 obtain ⟨v',w',news,hrun,hown',hgr,hblk,hnl,hnews⟩:=key
 have hlt:=hown'.lt
 have hhdr:YFz (YMi v') (xs++ys).length v':=by
  rcases hown'.2 with ⟨rfl,h1⟩ | ⟨g,cap,cur,rfl,_⟩
  ·exact ⟨by rw [List.length_append]; exact h1,rfl⟩
  ·simp [YFz,YMi]
 have hbo : ∀ b k,YMi v'=some (b,k)→v'.ownBlock=some b:=by
  intro b k hbk
  cases v' with
  | slice a l cp=>
   cases a with
   | none=>cases hbk
   | some a=>simp only [YMi,Option.some.injEq,Prod.mk.injEq] at hbk; simp [Value.ownBlock,hbk.1]
  | _=>cases hbk
 have hup:=Cx.upd hok id (.arr x.n e sz (xs++ys)) w' (YMi v') (x.n+1) hgr.size hgr.os hgr.tape hgr.output
  (fun b hbl hne=>hgr.block b hbl (fun heq=>by
   obtain ⟨o0,k,h1,h2⟩:=hβ b heq.symm
   exact hne o0 k h1 h2))
  (fun b k hbk=>by
   have h1:=hbo b k hbk
   refine ⟨(hlt b h1).2,?_⟩
   rcases hblk with h2 | h2
   ·rw [h2] at h1
    obtain ⟨o0,k',h3,h4⟩:=hβ b h1
    exact .inr ⟨o0,k',h3,h4⟩
   ·rw [h2] at h1; cases h1; exact .inl (Nat.le_refl _))
  (by omega) (by simp [AObj.gen]) (fun hg=>absurd hg (by simp [AObj.gen]))
  (fun hle=>by
   have hbs : ∀ b,x.S b→w'.heap[b]? = x.w.heap[b]?:=fun b hb=>hle.blk b (.inl hb)
   refine ⟨h0,fun row hr=>(List.mem_append.1 hr).elim (hrow row) (hrow' row),v',us++news,hhdr,by rw [List.length_append]; exact hown',fun i row k d h1 h2=>?_⟩
   have hul:=hown.1
   by_cases hi':i<xs.length
   ·rw [List.getElem?_append_left hi'] at h1
    obtain ⟨u,h3,h4⟩:=hc i row k d h1 h2
    refine ⟨u,?_,h4.mono hbs (fun _ h=>h)⟩
    rw [List.getElem?_append_left ((List.getElem?_eq_some_iff.1 h3).1)]
    exact h3
   ·rw [List.getElem?_append_right (by omega)] at h1
    obtain ⟨u,h3,h4⟩:=hnews _ row k d h1 h2
    refine ⟨u,?_,h4.mono hbs (fun _ h=>h)⟩
    have e1:i * sz+k=us.length+((i-xs.length) * sz+k):=by
     rw [hul,Nat.sub_mul]
     have:xs.length * sz≤i * sz:=Nat.mul_le_mul_right _ (by omega)
     omega
    rw [e1,List.getElem?_append_right (by omega),Nat.add_sub_cancel_left]
    exact h3)
 refine ⟨v',_,hrun,hup.1,hup.2,rfl,rfl,.own (by simp) ?_ fun o' ho' _=>?_⟩
 ·rcases hown'.2 with ⟨rfl,_⟩ | ⟨g,cap,cur,rfl,_⟩ <;> rfl
 ·simp only [if_pos] at ho' ⊢
  cases ho'
  simpa [AObj.shape] using hhdr
end
section
variable {P:Program} {c:Bool} {o:Oper} {R:Env} {h:Heap} {n:Nat}
def YQ1 (c:Bool) (R:Env) (h:Heap) (x:Operand) (sz:Nat) (ys:List (List RV)):Prop:=
 (Ev c R x (.r (.sl ys))∧(c=true → ∀ row∈ys,row.length=sz))∨(∃ id g e,Ev c R x (.own id g)∧hget h id=some (.arr g e sz ys))∨(Ev c R x (.cst (.slice none 0 0))∧ys=[])
theorem YQ1.src {x:Operand} {sz:Nat} {ys:List (List RV)} (hx:YQ1 c R h x sz ys) (h0:0<sz) (hc:c=true) {z:Cx} {a:Act} (hok:z.ok) (hH:z.H=hget h) (he:YCO z R a) :
  YWa z (a.eval x) sz ys ∧ ∀ row∈ys,row.length=sz:=by
 rcases hx with ⟨h1,h2⟩ | ⟨id,g,e,h1,h2⟩ | ⟨h1,rfl⟩
 ·exact ⟨YWk (h1.rep he hc) (h2 hc) h0,h2 hc⟩
 ·have hHid:z.H id=some (.arr g e sz ys):=by rw [hH]; exact h2
  exact ⟨YXQ hok hHid (h1.rep he hc),(YLe hok hHid (h1.rep he hc)).2.1⟩
 ·have h2:=h1.rep he hc
  generalize a.eval x=v at h2 ⊢
  cases h2
  exact ⟨.inl ⟨rfl,0,rfl⟩,by simp⟩
theorem YO1 {t e:TypeId} {sz by_:Nat} {s x:Operand} {id g:Nat} {xs ys:List (List RV)} (ho:o.op = .call { callee:=.builtin .append,args:=#[s,x],argTypes:=#[t,t] }) (ht:YAr P t e sz by_)
  (hs:Ev c R s (.own id g)) (hh:hget h id=some (.arr g e sz xs)) (hx:YQ1 c R h x sz ys) (hm:(xs.length+ys.length) * by_≤140737488355328) (hm2:xs.length+ys.length≤9223372036854775807) :
  YAV P c o R h n (.own id n) ((id,some (.arr n e sz (xs++ys))) :: h) (n+1):=by
 intro hc z w hok hH hn he K Q hK
 have hHid:z.H id=some (.arr g e sz xs):=by rw [hH]; exact hh
 obtain ⟨h0,hrow,us,hd,hown,hcell⟩:=YLe hok hHid (hs.rep he hc)
 obtain ⟨hsrc,hrow'⟩:=hx.src h0 hc hok hH he
 obtain ⟨v',y,hrun,k1,k2,k3,k4,k5⟩:=YIt hok ht id hown (fun b hb=>by
  refine ⟨_,?_,hHid,?_⟩
  ·exact match z.β id with | some p=>p.2 | none=>0
  ·unfold YFz at hd
   split at hd
   ·rw [hd.2] at hb; cases hb
   ·rename_i heq; rw [hd] at hb; simp only [Value.ownBlock,Option.some.injEq] at hb; subst hb; simp [heq]) hrow hcell hsrc hrow' (by unfold maxLen; omega) hm o.type
 unfold Oper.wp execOp
 simp only [ho,resolve,invoke,builtin,Sem.run_bind,Sem.run_pure,Result.andThen_ok,List.map_toArray,List.map_cons,List.map_nil,hrun]
 exact hK v' y k1 k2 (by rw [k3,hH,hn,YB2]) (by rw [k4,hn]) (by rw [← hn]; exact k5)
theorem YI4 {t e:TypeId} {sz by_:Nat} {s x:Operand} (id:Nat) {ys:List (List RV)} (ho:o.op = .call { callee:=.builtin .append,args:=#[s,x],argTypes:=#[t,t] }) (ht:YAr P t e sz by_)
  (hs:Ev c R s (.cst (.slice none 0 0))) (hx:YQ1 c R h x sz ys) (hm:ys.length * by_≤140737488355328) (hm2:ys.length≤9223372036854775807) :
  YAV P c o R h n (.own id n) ((id,some (.arr n e sz ys)) :: h) (n+1):=by
 intro hc z w hok hH hn he K Q hK
 have ht0:=ht
 obtain ⟨_,_,_,_,_,_,_,_,_,h0⟩:=ht0
 obtain ⟨hsrc,hrow'⟩:=hx.src h0 hc hok hH he
 have hsv:w.eval s = .slice none 0 0:=by
  have h2:=hs.rep he hc
  generalize w.eval s=v at h2 ⊢
  cases h2; rfl
 obtain ⟨v',y,hrun,k1,k2,k3,k4,k5⟩:=YIt (xs:=[]) hok ht id (World.ownsRow_nil z.w 0 e sz) (fun b hb=>by cases hb) (by simp) (by simp) hsrc hrow' (by unfold maxLen; simp; omega) (by simpa using hm) o.type
 unfold Oper.wp execOp
 simp only [ho,resolve,invoke,builtin,Sem.run_bind,Sem.run_pure,Result.andThen_ok,List.map_toArray,List.map_cons,List.map_nil,hsv,hrun]
 exact hK v' y k1 k2 (by rw [k3,hH,hn,YB2,List.nil_append]) (by rw [k4,hn]) (by rw [← hn]; exact k5)
theorem YTa (off:Nat) : ∀ (vs:List Value) (j:Nat) (cells:Array Value),off+j+vs.length≤cells.size →
  ((vs.zipIdx j).foldl (fun cs p=>cs.setIfInBounds (off+p.2) p.1) cells).size=cells.size ∧
  ∀ k,((vs.zipIdx j).foldl (fun cs p=>cs.setIfInBounds (off+p.2) p.1) cells)[k]? = if off+j≤k∧k<off+j+vs.length then vs[k-(off+j)]? else cells[k]?
 | [],j,cells,_=>⟨rfl,fun k=>by simp; omega⟩
 | v :: vs,j,cells,hl=>by
  simp only [List.length_cons] at hl
  obtain ⟨h1,h2⟩:=YTa off vs (j+1) (cells.setIfInBounds (off+j) v) (by simp; omega)
  simp only [List.zipIdx_cons,List.foldl_cons]
  refine ⟨by rw [h1]; simp,fun k=>?_⟩
  rw [h2]
  by_cases hk:k=off+j
  ·subst hk
   rw [if_neg (by omega),if_pos (by simp)]
   simp [show off+j<cells.size by omega]
  ·by_cases hk2:off+j≤k∧k<off+j+(v :: vs).length
   ·rw [if_pos hk2,if_pos (by simp only [List.length_cons] at hk2; omega)]
    rw [show k-(off+j)=(k-(off+(j+1)))+1 by omega,List.getElem?_cons_succ]
   ·rw [if_neg hk2,if_neg (by simp only [List.length_cons] at hk2; omega)]
    simp [show off+j≠k from fun e=>hk e.symm]
theorem YRo (off:Nat) (v:Value) (cells:Array Value) (hl:off+v.cells.size≤cells.size) :
  (v.cells.zipIdx.foldl (fun cs (c,j)=>cs.setIfInBounds (off+j) c) cells).size=cells.size ∧
  ∀ k,(v.cells.zipIdx.foldl (fun cs (c,j)=>cs.setIfInBounds (off+j) c) cells)[k]? = if off≤k∧k<off+v.cells.size then v.cells[k-off]? else cells[k]?:=by
 have:=YTa off v.cells.toList 0 cells (by simpa using hl)
 simp only [Nat.add_zero,Array.length_toList] at this
 rw [← Array.foldl_toList,Array.toList_zipIdx]
 refine ⟨this.1,fun k=>?_⟩
 rw [← Array.getElem?_toList] at *
 simpa using this.2 k
theorem YJL (size:Nat) : ∀ (vals:List (Nat × Value)) (start:Nat) (us:Array Value),(∀ j p,vals[j]? = some p→p.1=start+j∧p.2.cells.size=size)→(start+vals.length) * size≤us.size →
  ∃ us',Instr.fill (fun i=>some (i * size,size)) us vals=some us'∧us'.size=us.size∧(∀ k,k<start * size→us'[k]? = us[k]?) ∧
   ∀ j p k,vals[j]? = some p→k<size→us'[(start+j) * size+k]? = p.2.cells[k]?
 | [],start,us,_,_=>⟨us,rfl,rfl,fun _ _=>rfl,by simp⟩
 | p :: vals,start,us,hp,hl=>by
  obtain ⟨i,v⟩:=p
  obtain ⟨h1,h2⟩:=hp 0 (i,v) rfl
  simp only [Nat.add_zero] at h1 h2
  subst h1
  have hle:i * size+size≤us.size:=by
   have:(i+1) * size≤(i+(vals.length+1)) * size:=Nat.mul_le_mul_right _ (by omega)
   simp only [List.length_cons] at hl
   rw [Nat.add_mul,Nat.one_mul] at this
   omega
  obtain ⟨k1,k2⟩:=YRo (i * size) v us (by rw [h2]; exact hle)
  obtain ⟨us',f1,f2,f3,f4⟩:=YJL size vals (i+1) _ (fun j q hq=>by
   have:=hp (j+1) q (by simpa using hq)
   exact ⟨by omega,this.2⟩) (by rw [k1]; simp only [List.length_cons] at hl; rwa [show i+1+vals.length=i+(vals.length+1) by omega])
  refine ⟨us',?_,f2.trans k1,fun k hk=>?_,fun j q k hq hk=>?_⟩
  ·simp only [Instr.fill]
   rw [if_neg (by simp [h2]; omega)]
   exact f1
  ·rw [f3 k (by rw [Nat.add_mul]; omega),k2,if_neg (by omega)]
  ·cases j with
   | zero=>
    cases hq
    rw [Nat.add_zero,f3 _ (by rw [Nat.add_mul]; omega),k2,if_pos (by omega)]
    congr 1; omega
   | succ j=>
    have:=f4 j q k (by simpa using hq) hk
    rwa [show i+1+j=i+(j+1) by omega] at this
def YKO:AV→Option RV
 | .r d=>some d
 | .cst (.slice none 0 0)=>some (.sl [])
 | _=>none
def YL2:List AV→Option (List RV)
 | []=>some []
 | a :: l=>match YKO a,YL2 l with
  | some d,some r=>some (d :: r)
  | _,_=>none
def YMX (a:AV):Option (List RV):=YL2 (YAc a)
theorem YJv {x:Cx} {a:AV} {d:RV} {v:Value} (h:YKO a=some d) (hv:YAN x a v):RRep x.w x.S d v:=by
 unfold YKO at h
 split at h
 ·cases h; cases hv with | r hr=>exact hr
 ·cases h; cases hv; exact .snil
 ·cases h
theorem YL1 {l:List AV} {row:List RV} (h:YL2 l=some row):row.length=l.length ∧ ∀ (j:Nat) (d:RV),row[j]? = some d → ∃ a:AV,l[j]? = some a∧YKO a=some d:=by
 induction l generalizing row with
 | nil=>simp only [YL2,Option.some.injEq] at h; subst h; simp
 | cons a l ih=>
  simp only [YL2] at h
  split at h
  ·rename_i d r h1 h2
   cases h
   obtain ⟨k1,k2⟩:=ih h2
   refine ⟨by simp [k1],fun j d' hj=>?_⟩
   cases j with
   | zero=>simp at hj; subst hj; exact ⟨a,rfl,h1⟩
   | succ j=>simpa using k2 j d' (by simpa using hj)
  ·cases h
theorem YJw {a:AV} {d:RV} (h:YKO a=some d):a.one=true:=by
 unfold YKO at h
 split at h <;> first | rfl | cases h
theorem YFf {x:Cx} {a:AV} {row:List RV} {v:Value} (h:YMX a=some row) (hv:YAN x a v):v.cells.size=row.length ∧ ∀ (k:Nat) (d:RV),row[k]? = some d → ∃ u:Value,v.cells[k]? = some u∧RRep x.w x.S d u:=by
 obtain ⟨h1,h2⟩:=YL1 h
 have hone : ∀ b∈YAc a,b.one=true:=by
  intro b hb
  obtain ⟨j,hj⟩:=List.mem_iff_getElem?.1 hb
  have hjl:j<row.length:=by rw [h1]; exact (List.getElem?_eq_some_iff.1 hj).1
  obtain ⟨a',k1,k2⟩:=h2 j _ (List.getElem?_eq_getElem hjl)
  rw [hj] at k1; cases k1
  exact YJw k2
 obtain ⟨k1,k2,_⟩:=YFv hv hone
 refine ⟨by rw [k1,h1],fun k d hd=>?_⟩
 obtain ⟨b,k3,k4⟩:=h2 k d hd
 obtain ⟨u,k5,_,k6⟩:=k2 k b k3
 exact ⟨u,k5,YJv k4 k6⟩
def YHD (c:Bool) (R:Env):Nat→List (Nat × Operand)→List (List RV)→Prop
 | _,[],[]=>True
 | i,(j,x) :: r,row :: rows=>j=i∧(∃ a,Ev c R x a∧YMX a=some row)∧YHD c R (i+1) r rows
 | _,_,_=>False
theorem YHD.get {ps:List (Nat × Operand)} {rows:List (List RV)} : ∀ {i:Nat},YHD c R i ps rows→ps.length=rows.length ∧ ∀ (j:Nat) (p:Nat × Operand),ps[j]? = some p→p.1=i+j ∧ ∃ row a,rows[j]? = some row∧Ev c R p.2 a∧YMX a=some row:=by
 induction ps generalizing rows with
 | nil=>intro i h; cases rows with | nil=>exact ⟨rfl,by simp⟩ | cons _ _=>exact h.elim
 | cons p ps ih=>
  intro i h
  cases rows with
  | nil=>exact h.elim
  | cons row rows=>
   obtain ⟨h1,⟨a,h2,h3⟩,h4⟩:=h
   obtain ⟨k1,k2⟩:=ih h4
   refine ⟨by simp [k1],fun j q hq=>?_⟩
   cases j with
   | zero=>simp at hq; subst hq; exact ⟨by omega,row,a,rfl,h2,h3⟩
   | succ j=>
    obtain ⟨k3,k4⟩:=k2 j q (by simpa using hq)
    exact ⟨by omega,by simpa using k4⟩
theorem YGx {x:Cx} (hok:x.ok) (id:Nat) (e:TypeId) (sz:Nat) (xs:List (List RV)) (cells:Array Value) (h0:0<sz) (hrow : ∀ row∈xs,row.length=sz) (hl:cells.size=xs.length * sz) (hm:xs.length≤maxLen)
  (hc : ∀ i row k d,xs[i]? = some row→row[k]? = some d → ∃ u,cells[i * sz+k]? = some u∧RRep x.w x.S d u) :
  ∃ y:Cx,x.le y∧y.ok∧y.w=x.w.alloc (.cells cells e)∧y.H=(fun i=>if id=i then some (.arr x.n e sz xs) else x.H i)∧y.n=x.n+1 ∧
   YAN y (.own id x.n) (.slice (some ⟨x.w.heap.size,0,none⟩) xs.length xs.length):=by
 have hup:=Cx.upd hok id (.arr x.n e sz xs) (x.w.alloc (.cells cells e)) (some (x.w.heap.size,xs.length)) (x.n+1) (by simp) rfl rfl rfl
  (fun b hb _=>heap_alloc_old _ _ hb) (fun b k hb=>by cases hb; simp) (by omega) (by simp [AObj.gen]) (fun hg=>absurd hg (by simp [AObj.gen]))
  (fun hle=>⟨h0,hrow,_,cells.toList,rfl,⟨by simpa using hl,.inr ⟨x.w.heap.size,xs.length,cells,rfl,Nat.zero_le _,heap_alloc_new _ _,Nat.le_refl _,hm,hl,by rw [← hl,← Array.length_toList]; exact List.take_length⟩⟩,fun i row k d h1 h2=>by
   obtain ⟨u,k1,k2⟩:=hc i row k d h1 h2
   exact ⟨u,by simpa using k1,k2.mono (fun b hb=>hle.blk b (.inl hb)) (fun _ h=>h)⟩⟩)
 refine ⟨_,hup.1,hup.2,rfl,rfl,rfl,.own (by simp) rfl fun o' ho' _=>?_⟩
 simp only [if_pos] at ho'
 cases ho'
 show YFz (if id=id then _ else _) _ _
 rw [if_pos rfl]
 rfl
theorem YGq {t e:TypeId} {sz by_ len:Nat} {parts:Array (Nat × Operand)} (id:Nat) {rows:List (List RV)} (ho:o.op = .buildSlice t len parts) (ht:YAr P t e sz by_)
  (hp:YHD c R 0 parts.toList rows) (hlen:rows.length=len) (hrow : ∀ row∈rows,row.length=sz) (hsmall:Nat.ble (len * sz) 16777216=true) :
  YAV P c o R h n (.own id n) ((id,some (.arr n e sz rows)) :: h) (n+1):=by
 intro hc z w hok hH hn he K Q hK
 obtain ⟨ht1,ii,zv,hi,hisz,_,hz,hzs,_,h0⟩:=ht
 have hsm:len * sz≤16777216:=Nat.le_of_ble_eq_true hsmall
 have hlm:len≤len * sz:=Nat.le_mul_of_pos_right _ h0
 obtain ⟨hpl,hpg⟩:=hp.get
 have hinit : ∃ init:Array Value,init.size=len * sz ∧ ∀ W,(Instr.buildSlice t len (parts.map fun (i,x)=>(i,w.eval x))).run P W =
   match Instr.fill (fun i=>some (i * sz,sz)) init (parts.toList.map fun (i,x)=>(i,w.eval x)) with
   | some cells=>.ok (.slice (some ⟨W.heap.size,0,none⟩) len len) (W.alloc (.cells cells e))
   | none => .halt (.stuck "buildSlice: a part of the wrong size") W := by
  refine ⟨(Array.range (len * sz)).map (fun i=>(if len * sz=0 then #[] else zv.cells)[i % (if len * sz=0 then #[] else zv.cells).size]!),by simp,fun W=>?_⟩
  have hnot : ¬ 2 ^ 24<len * sz:=by omega
  by_cases hl0:len * sz=0
  ·simp only [Instr.buildSlice,Sem.run_bind,run_underlying ht1,Result.andThen_ok,YA3 hi,hisz,hl0]
   simp
   split <;> simp_all [newRow,Instr.fill]
  ·simp only [Instr.buildSlice,Sem.run_bind,run_underlying ht1,Result.andThen_ok,YA3 hi,hisz]
   simp only [hnot,hl0,zeroValue,typeInfo,if_false,Sem.run_bind,run_program,Result.andThen_ok,hi,hz,Sem.run_pure,Array.toList_map]
   generalize Instr.fill _ _ _=r
   cases r <;> simp [newRow]
 obtain ⟨init,hisize,hrun⟩:=hinit
 obtain ⟨us',f1,f2,_,f4⟩:=YJL sz (parts.toList.map fun (i,x)=>(i,w.eval x)) 0 init (fun j p hj=>by
  simp only [List.getElem?_map,Option.map_eq_some_iff] at hj
  obtain ⟨q,hq,rfl⟩:=hj
  obtain ⟨h1,row,a,h2,h3,h4⟩:=hpg j q hq
  refine ⟨by simpa using h1,?_⟩
  rw [(YFf h4 (h3.rep he hc)).1]
  exact hrow row (List.mem_of_getElem? h2)) (by rw [hisize]; simp only [List.length_map,hpl,hlen,Nat.zero_add]; exact Nat.le_refl _)
 obtain ⟨y,k1,k2,k3,k4,k5,k6⟩:=YGx hok id e sz rows us' h0 hrow (by rw [f2,hisize,hlen]) (by unfold maxLen; omega) (fun i row k d h1 h2=>by
  have hi':i<parts.toList.length:=by rw [hpl]; exact (List.getElem?_eq_some_iff.1 h1).1
  obtain ⟨_,row',a,h3,h4,h5⟩:=hpg i _ (List.getElem?_eq_getElem hi')
  rw [h1] at h3; cases h3
  obtain ⟨u,h6,h7⟩:=(YFf h5 (h4.rep he hc)).2 k d h2
  refine ⟨u,?_,h7⟩
  have hk:k<sz:=by rw [← hrow row (List.mem_of_getElem? h1)]; exact (List.getElem?_eq_some_iff.1 h2).1
  have:=f4 i (parts.toList[i].1,w.eval parts.toList[i].2) k (by simp [List.getElem?_map,List.getElem?_eq_getElem hi']) hk
  rw [Nat.zero_add] at this
  rw [this]; exact h6)
 unfold Oper.wp execOp
 simp only [ho,Sem.run_bind,hrun,f1,Result.andThen_ok,Sem.run_pure]
 have:=hK _ y k1 k2 (by rw [k4,hH,hn,YB2]) (by rw [k5,hn]) (by rw [← hn]; exact k6)
 rw [k3,hlen] at this
 exact this
end
section
variable {P:Program} {c:Bool} {o:Oper} {R:Env} {h:Heap} {n:Nat}
def ZRow (P:Program) (e:TypeId) (zrow:List RV):Prop:=∃ i zv,P.info? e=some i∧i.zero=some zv∧YMX (YHI zv)=some zrow
theorem YKA {t e:TypeId} {sz by_:Nat} {l k:Operand} (id:Nat) {m:Int} {zrow:List RV} (ho:o.op = .makeSlice t l k) (ht:YAr P t e sz by_) (hz:ZRow P e zrow)
  (hl:Ev c R l (.r (.int .i64 m))) (hk:Ev c R k (.r (.int .i64 m))) (h0:0≤m) (hb:m * by_≤281474976710656) (hm:m≤9223372036854775807) :
  YAV P c o R h n (.own id n) ((id,some (.arr n e sz (List.replicate m.toNat zrow))) :: h) (n+1):=by
 intro hc z w hok hH hn he K Q hK
 obtain ⟨ht1,ii,zv,hi,hisz,hiby,hiz,hzs,_,hpos⟩:=ht
 obtain ⟨i2,zv2,hi2,hz2,hzr⟩:=hz
 rw [hi] at hi2; cases hi2
 rw [hiz] at hz2; cases hz2
 have hrun:=run_make (P:=P) z.w t e ii zv ht1 hi hiz .i64 .i64 m m h0 (Int.le_refl _) (by rw [hiby,Int.mul_comm]; exact hb) hm
 obtain ⟨k1,k2⟩:=YFf hzr (YMn z zv)
 have hzl:zrow.length=sz:=by rw [← k1,hzs]
 obtain ⟨y,e1,e2,e3,e4,e5,e6⟩:=YGx hok id e sz (List.replicate m.toNat zrow) (madeCells zv.cells (m.toNat * ii.size)) hpos (fun row hr=>by rw [(List.mem_replicate.1 hr).2]; exact hzl)
  (by rw [size_madeCells,hisz]; simp) (by unfold maxLen; simp; omega) (fun i row k d h1 h2=>by
   obtain ⟨hi',hrow⟩:=List.getElem?_eq_some_iff.1 h1
   simp only [List.length_replicate] at hi'
   rw [List.getElem_replicate] at hrow
   subst hrow
   have hkl:k<sz:=by rw [← hzl]; exact (List.getElem?_eq_some_iff.1 h2).1
   obtain ⟨u,h3,h4⟩:=k2 k d h2
   refine ⟨u,?_,h4⟩
   have hlt:i * sz+k<m.toNat * sz:=by
    calc i * sz+k<i * sz+sz:=by omega
     _=(i+1) * sz:=by rw [Nat.add_mul,Nat.one_mul]
     _≤m.toNat * sz:=Nat.mul_le_mul_right _ hi'
   have hmod:(i * sz+k) % zv.cells.size=k:=by rw [hzs,Nat.mul_comm,Nat.mul_add_mod,Nat.mod_eq_of_lt hkl]
   simp only [madeCells,hisz]
   rw [Array.getElem?_map,Array.getElem?_range,if_pos hlt]
   simp only [Option.map_some,hmod]
   rw [← h3]
   have hks:k<zv.cells.size:=by omega
   rw [getElem!_pos zv.cells k hks,Array.getElem?_eq_getElem hks])
 unfold Oper.wp execOp
 simp only [ho,YBK (hl.rep he hc),YBK (hk.rep he hc),Sem.run_bind,hrun,Result.andThen_ok,Sem.run_pure]
 have:=hK _ y e1 e2 (by rw [e4,hH,hn,YB2]) (by rw [e5,hn]) (by rw [← hn]; exact e6)
 rw [e3,List.length_replicate] at this
 exact this
theorem YOu {t:TypeId} {x y:Operand} {id g i k:Nat} {e:TypeId} {sz:Nat} {xs:List (List RV)} {row:List RV} {a:AV} {d:RV} (ho:o.op = .store t x y) (ht : ∃ i,P.info? t=some i∧i.size=1)
  (hx:Ev c R x (.ptr id g i k)) (hh:hget h id=some (.arr g e sz xs)) (hrow:xs[i]? = some row) (hk:k<row.length) (hy:Ev c R y a) (hd:YKO a=some d) (h1:(YAc a).length=1) :
  YAV P c o R h n .any ((id,some (.arr g e sz (xs.set i (row.set k d)))) :: h) n:=by
 intro hc z w hok hH hn he K Q hK
 obtain ⟨ii,hi,hisz⟩:=ht
 have hHid:z.H id=some (.arr g e sz xs):=by rw [hH]; exact hh
 have hil:i<xs.length:=(List.getElem?_eq_some_iff.1 hrow).1
 obtain ⟨b,cap,us,hβ,hx2,hown,hrows,hcells⟩:=YKh hok hHid hil (hx.rep he hc)
 have hgn:=(hok.obj _ _ hHid).1
 obtain ⟨hus,hown2⟩:=hown
 rcases hown2 with ⟨hv,_⟩ | ⟨b',cap',cur,hv,_,hcur,hnc,hcm,hcs,htake⟩
 ·cases hv
 simp only [Value.slice.injEq,Option.some.injEq,Addr.mk.injEq,true_and,and_true] at hv
 obtain ⟨rfl,rfl⟩:=hv
 have hsz:0<sz:=(hok.obj _ _ hHid).2.1
 have hrl:=hrows row (List.mem_of_getElem? hrow)
 have hone:a.one=true:=YJw hd
 have hcl:YAc a=[a]:=by cases a <;> first | rfl | (simp [AV.one] at hone)
 have hvr:=hy.rep he hc
 have hvc:(w.eval y).cells = #[w.eval y]:=by
  have h2:=hvr.one hone
  generalize w.eval y=v at h2 ⊢
  cases v <;> first | rfl | (simp [Value.oneCell'] at h2)
 have hbase:i * sz+sz≤xs.length * sz:=by
  have:(i+1) * sz≤xs.length * sz:=Nat.mul_le_mul_right _ hil
  rwa [Nat.add_mul,Nat.one_mul] at this
 have hcap:xs.length * sz≤cur.size:=by rw [hcs]; exact Nat.mul_le_mul_right _ hnc
 have hrun:=YId (P:=P) (k:=i * sz+k) hi hcur (v:=w.eval y) (by rw [hvc,hisz]; rfl) (by rw [hvc]; simpa using hvr.one hone) (by rw [hvc]; simp; omega)
 rw [hvc] at hrun
 simp only [List.size_toArray,List.length_singleton] at hrun
 have hsp2:=fun j=>YFP cur.toList [w.eval y] (i * sz+k) j (by simp; omega)
 simp only [List.length_singleton] at hsp2
 let cur':Array Value:=(cur.toList.take (i * sz+k)++[w.eval y]++cur.toList.drop (i * sz+k+1)).toArray
 have hcur's:cur'.size=cur.size:=by simp [cur']; omega
 have hup:=Cx.upd hok id (.arr g e sz (xs.set i (row.set k d))) (z.w.setRow b cur') (some (b,cap)) z.n (by simp [World.setRow]) rfl rfl rfl
  (fun b' _ hne=>setRow_other _ _ _ _ (fun e=>hne _ cap hHid (by rw [e]; exact hβ))) (fun b' k' hb=>by
   cases hb
   exact ⟨by simpa [World.setRow] using (hok.own id _ b cap hHid hβ).1,.inr ⟨_,_,hHid,hβ⟩⟩) (Nat.le_refl _) hgn
  (fun _=>⟨_,hHid,rfl,by simp [AObj.shape],hβ.symm⟩)
  (fun hle=>by
   have hbs : ∀ b',z.S b'→(z.w.setRow b cur').heap[b']? = z.w.heap[b']?:=fun b' hb=>hle.blk b' (.inl hb)
   refine ⟨hsz,fun r hr=>?_,.slice (some ⟨b,0,none⟩) xs.length cap,cur'.toList.take (xs.length * sz),by simp [YFz],⟨by simp [hcur's]; omega,.inr ⟨b,cap,cur',by simp,Nat.zero_le _,setRow_heap _ _ _ _ _ _ hcur,by simpa using hnc,hcm,by rw [hcur's,hcs],by simp⟩⟩,fun i' row' c' d' k1 k2=>?_⟩
   ·rcases List.mem_or_eq_of_mem_set hr with hr | rfl
    ·exact hrows r hr
    ·simpa using hrl
   ·have hi'l:i'<xs.length:=by simpa using (List.getElem?_eq_some_iff.1 k1).1
    have hc'l:c'<sz:=by
     have:=(List.getElem?_eq_some_iff.1 k2).1
     rw [List.getElem?_set] at k1
     split at k1
     ·cases k1; simpa [hrl] using this
     ·rw [← hrows row' (List.mem_of_getElem? k1)]; exact this
    have hlt:i' * sz+c'<xs.length * sz:=by
     calc i' * sz+c'<i' * sz+sz:=by omega
      _=(i'+1) * sz:=by rw [Nat.add_mul,Nat.one_mul]
      _≤xs.length * sz:=Nat.mul_le_mul_right _ hi'l
    have hget:(cur'.toList.take (xs.length * sz))[i' * sz+c']? = if i * sz+k≤i' * sz+c'∧i' * sz+c'<i * sz+k+1 then [w.eval y][i' * sz+c' - (i * sz+k)]? else cur.toList[i' * sz+c']?:=by
     rw [List.getElem?_take,if_pos hlt]
     simp only [cur']
     exact hsp2 _
    have huniq:i * sz+k=i' * sz+c'→i=i'∧k=c':=by
     intro heq
     have e1:(i * sz+k) / sz=i:=by rw [Nat.mul_comm,Nat.mul_add_div hsz,Nat.div_eq_of_lt (by omega),Nat.add_zero]
     have e2:(i' * sz+c') / sz=i':=by rw [Nat.mul_comm,Nat.mul_add_div hsz,Nat.div_eq_of_lt (by omega),Nat.add_zero]
     have:i=i':=by rw [← e1,← e2,heq]
     subst this
     exact ⟨rfl,by omega⟩
    by_cases heq:i * sz+k=i' * sz+c'
    ·obtain ⟨rfl,rfl⟩:=huniq heq
     rw [List.getElem?_set,if_pos rfl,if_pos hil] at k1
     cases k1
     rw [List.getElem?_set,if_pos rfl,if_pos hk] at k2
     cases k2
     refine ⟨w.eval y,by rw [hget,if_pos (by omega)]; simp,(YJv hd hvr).mono hbs (fun _ h=>h)⟩
    ·have hold : ∃ row0,xs[i']? = some row0∧row0[c']? = some d':=by
      rw [List.getElem?_set] at k1
      split at k1
      ·rename_i hii; subst hii
       cases k1
       rw [List.getElem?_set] at k2
       split at k2
       ·rename_i hkk; subst hkk; exact absurd rfl heq
       ·exact ⟨row,hrow,k2⟩
      ·exact ⟨row',k1,k2⟩
     obtain ⟨row0,k3,k4⟩:=hold
     obtain ⟨u,k5,k6⟩:=hcells _ _ _ _ k3 k4
     refine ⟨u,?_,k6.mono hbs (fun _ h=>h)⟩
     rw [hget,if_neg (by omega),← k5,← htake,List.getElem?_take,if_pos hlt])
 unfold Oper.wp execOp
 rw [ho]
 simp only [hx2,Sem.run_bind,hrun,Result.andThen_ok,Sem.run_pure]
 exact hK undef _ hup.1 hup.2 (by simp only [hH]; exact YB2 _ _ _) hn (.any _)
end
section
variable {P:Program} {c:Bool} {o:Oper} {R:Env} {h:Heap} {n:Nat}
def YU7 (c:Bool) (R:Env) (dflt:Nat):Option Operand→Nat→Prop
 | none,m=>m=dflt
 | some x,m=>∃ k z,Ev c R x (.r (.int k z))∧(c=true→0≤z)∧z.toNat=m
theorem YHc {k:IntKind} {z:Int} {y:Nat} (h0:0≤z) (h1:z≤y) (code:BoundsCode) (w:World):(Instr.sliceBound (.int k z) y code).run P w = .ok z.toNat w:=by
 simp [Instr.sliceBound,asIntOf,h0,h1]
theorem YLS {t e:TypeId} {sz:Nat} {x:Operand} {lo hi:Option Operand} {xs:List (List RV)} {l m:Nat} (ho:o.op = .slice t x lo hi none) (ht:YEU P t e sz) (hx:Ev c R x (.r (.sl xs)))
  (hlo:YU7 c R 0 lo l) (hhi:YU7 c R xs.length hi m) (h1:c=true→l≤m) (h2:c=true→m≤xs.length) (hrow : ∀ row∈xs,row.length=sz):OpQ P c o R h (.r (.sl ((xs.drop l).take (m-l)))):=by
 intro hc z w _ _ he
 obtain ⟨ht1,ii,ht2,ht3⟩:=ht
 have h1':=h1 hc
 have h2':=h2 hc
 have hbnd : ∀ (len cap:Nat),len=xs.length→xs.length≤cap → ∀ W,(Instr.sliceBounds true len cap (lo.map w.eval) (hi.map w.eval) none).run P W = .ok (l,m,cap) W:=by
  intro len cap hlen hcap W
  have hL : ∀ W,(∃ y,lo=some y∧(Instr.sliceBound (w.eval y) m .sliceB).run P W = .ok l W)∨lo=none∧l=0:=by
   intro W
   cases lo with
   | none=>exact .inr ⟨rfl,hlo⟩
   | some v=>
    obtain ⟨k,zz,e1,e2,e3⟩:=hlo
    refine .inl ⟨v,rfl,?_⟩
    rw [YBK (e1.rep he hc),YHc (e2 hc) (by have:=e2 hc; omega),e3]
  cases hi with
  | none=>
   simp only [YU7] at hhi
   rcases hL W with ⟨y,rfl,hr⟩ | ⟨rfl,rfl⟩
   ·rw [hhi] at hr; simp [Instr.sliceBounds,hlen,hr,hhi]
   ·simp [Instr.sliceBounds,hlen,hhi]
  | some v=>
   obtain ⟨k,zz,e1,e2,e3⟩:=hhi
   have hH:(Instr.sliceBound (w.eval v) cap .sliceAcap).run P W = .ok m W:=by
    rw [YBK (e1.rep he hc),YHc (e2 hc) (by have:=e2 hc; omega),e3]
   rcases hL W with ⟨y,rfl,hr⟩ | ⟨rfl,rfl⟩
   ·simp [Instr.sliceBounds,hH,hr]
   ·simp [Instr.sliceBounds,hH]
 rcases YRP (hx.rep he hc) with ⟨rfl,hv⟩ | ⟨b,off,cap,size,u,hv,hS,hcap,hm,hsz,hcell,hrep⟩
 ·simp only [List.length_nil,Nat.le_zero] at h2'
  subst h2'
  have hl0:l=0:=by omega
  subst hl0
  rcases hv with hv | ⟨a0,hv⟩
  ·refine ⟨.slice none 0 0,fun w2 hag=>?_,by simpa using YAN.r .snil⟩
   unfold execOp
   rw [ho]
   simp [hv,Instr.sliceAt,Instr.slice,run_underlying ht1,YA3 ht2,hbnd 0 0 rfl (Nat.le_refl _)]
  ·refine ⟨.slice (some a0) 0 0,fun w2 hag=>?_,by simpa using YAN.r (.sl0 a0)⟩
   unfold execOp
   rw [ho]
   simp [hv,Instr.sliceAt,Instr.slice,run_underlying ht1,YA3 ht2,hbnd 0 0 rfl (Nat.le_refl _)]
 ·let k0:=if cap=l then 0 else l * sz
  refine ⟨.slice (some ⟨b,off+k0,none⟩) ((xs.drop l).take (m-l)).length (cap-l),fun w2 hag=>?_,.r (.sl b (off+k0) _ (cap-l) size (fun i k=>u (l+i) k) (fun hne=>hS (by rintro rfl; simp at hne)) ?_ (by omega) ?_ (fun i row k d k1 k2=>?_) (fun i row k d k1 k2=>?_))⟩
  ·unfold execOp
   rw [ho]
   have hlen:((xs.drop l).take (m-l)).length=m-l:=by simp; omega
   by_cases hcl:cap=l
   ·have hk0:k0=0:=if_pos hcl
    have hb2:=hbnd _ cap rfl hcap w2
    rw [hk0,hlen]
    simp only [hv,Instr.sliceAt,Instr.slice,Sem.run_bind,run_underlying ht1,Result.andThen_ok,Option.map_none,hb2,YA3 ht2,Sem.run_pure,if_pos hcl,Nat.add_zero]
   ·simp [hv,Instr.sliceAt,Instr.slice,run_underlying ht1,YA3 ht2,ht3,hbnd _ cap rfl hcap,hcl,k0,Addr.add_lit]
    omega
  ·simp; omega
  ·exact fun row hr=>hsz row (List.mem_of_mem_drop (List.mem_of_mem_take hr))
  ·have hx1:xs[l+i]? = some row:=by
    rw [List.getElem?_take] at k1
    split at k1
    ·rwa [List.getElem?_drop] at k1
    ·cases k1
   have hcl:cap≠l:=by have:=(List.getElem?_eq_some_iff.1 hx1).1; omega
   have hss:size=sz:=by rw [← hsz row (List.mem_of_getElem? hx1),hrow row (List.mem_of_getElem? hx1)]
   rw [← hcell _ _ _ _ hx1 k2]
   simp only [k0,if_neg hcl,hss,Nat.add_mul,Nat.add_assoc]
  ·have hx1:xs[l+i]? = some row:=by
    rw [List.getElem?_take] at k1
    split at k1
    ·rwa [List.getElem?_drop] at k1
    ·cases k1
   exact hrep _ _ _ _ hx1 k2
theorem Weak.adopt {s:St} (t id:Nat) (e:TypeId) (sz:Nat) (h0:0<sz) (ht:get s.e t = .cst (.slice none 0 0)):Weak s ⟨(t,.own id s.n) :: s.e,(id,some (.arr s.n e sz [])) :: s.h,s.n+1,s.N⟩:=by
 intro c0 a w ⟨_,hdef,hsz,y,hyw,hle,hok,hH,hyn,henv⟩
 have hup:=Cx.upd hok id (.arr s.n e sz []) y.w none (y.n+1) (Nat.le_refl _) rfl rfl rfl (fun _ _ _=>rfl) (fun b k hb=>by cases hb) (by omega) (by simp [AObj.gen,hyn]) (fun hg=>absurd hg (by simp [AObj.gen,hyn]))
  (fun hle=>⟨h0,by simp,.slice none 0 0,[],⟨rfl,rfl⟩,World.ownsRow_nil _ _ _ _,by simp⟩)
 refine ⟨_,hdef,hsz,{ y with H:=fun i=>if id=i then some (.arr s.n e sz []) else y.H i,β:=fun i=>if id=i then none else y.β i,n:=y.n+1 },hyw,hle.trans hup.1,hup.2,by simp only [hH]; exact YB2 _ _ _,by simp [hyn],fun t'=>?_⟩
 rw [YBL]
 split
 ·rename_i htt; subst htt
  have h1:=henv t
  rw [ht] at h1
  generalize a.tmps.getD t undef=u at h1 ⊢
  cases h1
  refine .own (by simp [hyn]) rfl fun o ho _=>?_
  simp only [if_pos] at ho ⊢
  cases ho
  exact ⟨rfl,rfl⟩
 ·exact (henv t').mono hup.1
theorem YGS {y:Cx} (hok:y.ok) {id g:Nat} {e:TypeId} {sz:Nat} {xs:List (List RV)} {v:Value} (hH:y.H id=some (.arr g e sz xs)) (hv:YAN y (.own id g) v) {S':Nat→Prop}
  (hS : ∀ b,y.S b→S' b) (hS' : ∀ b k,y.β id=some (b,k)→S' b):RRep y.w S' (.sl xs) v:=by
 obtain ⟨h0,hrow,us,hd,hown,hc⟩:=YLe hok hH hv
 unfold YFz at hd
 split at hd
 ·have:xs=[]:=List.eq_nil_of_length_eq_zero hd.1
  subst this
  rw [hd.2]; exact .snil
 ·rename_i b cap heq
  subst hd
  have hnc:xs.length≤cap∧cap≤maxLen:=by
   rcases hown.2 with ⟨h1,_⟩ | ⟨g',cap',cur,h1,_,_,h2,h3,_⟩
   ·cases h1
   ·simp only [Value.slice.injEq] at h1; rw [h1.2.2]; exact ⟨h2,h3⟩
  have hch : ∀ i row k d,xs[i]? = some row→row[k]? = some d→us[i * sz+k]? = some (us.getD (i * sz+k) undef)∧RRep y.w y.S d (us.getD (i * sz+k) undef):=by
   intro i row k d h1 h2
   obtain ⟨u,h3,h4⟩:=hc i row k d h1 h2
   simp only [List.getD,h3,Option.getD_some]
   exact ⟨trivial,h4⟩
  refine .sl b 0 xs cap sz (fun i k=>us.getD (i * sz+k) undef) (fun _=>hS' b cap heq) hnc.1 hnc.2 hrow (fun i row k d h1 h2=>?_) (fun i row k d h1 h2=>(hch i row k d h1 h2).2.mono (fun _ _=>rfl) hS)
  rw [Nat.zero_add]
  exact YHm hown (hch i row k d h1 h2).1
theorem AOps.weak {ops:Array Oper} {rest:List Oper} {s s':St} {K:St→Prop} (hw:Weak s s') (h:AOps P ops rest s' K):AOps P ops rest s K:=fun c0 a w hs=>h c0 a w (hw _ _ _ hs)
def YID (P : Program) (f : FuncId) : Prop := ∃ fn, P.funcs[f]? = some fn ∧ fn.body.isNone = false ∧ (fn.name == "runtime.NumGoroutine") = false
mutual
def AV.closed:AV→Bool
 | .r _=>true
 | .cst _=>true
 | .any=>true
 | .rop _ _=>true
 | .agg cs=>YBp cs
 | .tup cs=>YBp cs
 | .fn _ cs=>YBp cs
 | .own _ _=>false
 | .ptr _ _ _ _=>false
 | .mref _ _=>false
 | .yld _ _=>false
 | .full _=>false
 | .whn _ _=>false
def YBp:List AV→Bool
 | []=>true
 | a :: l=>a.closed && YBp l
end
theorem YDl {cs:List AV} (h:YBp cs=true) {i:Nat} {a:AV} (hi:cs[i]? = some a):a.closed=true:=by
 induction cs generalizing i with
 | nil=>simp at hi
 | cons b l ih=>
  simp only [YBp,Bool.and_eq_true] at h
  cases i with
  | zero=>simp at hi; subst hi; exact h.1
  | succ i=>exact ih h.2 (by simpa using hi)
theorem YOT (row:List RV):YBp (row.map AV.r)=true:=by
 induction row with
 | nil=>rfl
 | cons d l ih=>simp [YBp,AV.closed,ih]
theorem YPm (row:List RV):(AV.agg (row.map AV.r)).closed=true:=by simp [AV.closed,YOT]
theorem YDw {x y:Cx} (hw:y.w=x.w) (hS : ∀ b,x.S b→y.S b) {a:AV} {v:Value} (hv:YAN x a v) (ha:a.closed=true):YAN y a v:=by
 have hb : ∀ b,x.S b→y.w.heap[b]? = x.w.heap[b]?:=fun _ _=>by rw [hw]
 induction hv with
 | r h=>exact .r (h.mono hb hS)
 | cst v=>exact .cst v
 | any v=>exact .any v
 | rop u h1 h2 h3=>exact .rop u (fun h=>hS _ (h1 h)) (fun j d hj=>by rw [hw]; exact h2 j d hj) (fun j d hj=>(h3 j d hj).mono hb hS)
 | agg hl _ ih=>simp only [AV.closed] at ha; exact .agg hl fun i c u h1 h2=>ih i c u h1 h2 (YDl ha h1)
 | tup hl _ ih=>simp only [AV.closed] at ha; exact .tup hl fun i c u h1 h2=>ih i c u h1 h2 (YDl ha h1)
 | fn hl _ ih=>simp only [AV.closed] at ha; exact .fn hl fun i c u h1 h2=>ih i c u h1 h2 (YDl ha h1)
 | _=>simp [AV.closed] at ha
def YGF (x:Cx) (ars:List AV) (vs:List Value):Prop:=vs.length=ars.length ∧ ∀ (i:Nat) (a:AV) (u:Value),ars[i]? = some a→vs[i]? = some u→YAN x a u
def ARO (P:Program) (f:FuncId) (args:List AV) (r:AV):Prop:=
 YID P f∧r.closed=true ∧ ∀ (x:Cx) (vs:Array Value),x.ok→(x.H=fun _=>none)→YGF x args vs.toList →
  Calls P f vs x.w fun e w'=>∃ u y,e = .returned u∧y.w=w'∧x.le y∧y.ok∧YAN y r u
inductive Fz1 (h:Heap):AV→AV→Prop
 | closed (a:AV) (ha:a.closed=true):Fz1 h a a
 | own {id g:Nat} {e:TypeId} {sz:Nat} {xs:List (List RV)} (hh:hget h id=some (.arr g e sz xs)):Fz1 h (.own id g) (.r (.sl xs))
 | nil:Fz1 h (.cst (.slice none 0 0)) (.r (.sl []))
 | full {xs:List (List RV)} : Fz1 h (.full xs) (.r (.sl xs))
def FzL (h:Heap):List AV→List AV→Prop
 | [],[]=>True
 | a :: l,b :: m=>Fz1 h a b∧FzL h l m
 | _,_=>False
inductive Fz (h:Heap):AV→AV→Prop
 | one {a b:AV} (h1:Fz1 h a b):Fz h a b
 | agg {cs ds:List AV} (h1:FzL h cs ds):Fz h (.agg cs) (.agg ds)
def Cx.frozen (y:Cx):Cx:={ w:=y.w,S:=fun b=>y.S b ∨ ∃ id o k,y.H id=some o∧y.β id=some (b,k),F:=y.F,H:=fun _=>none,β:=fun _=>none,n:=y.n }
theorem Cx.frozen_le {y:Cx} : y.le y.frozen:=⟨Nat.le_refl _,rfl,rfl,rfl,fun _ _=>rfl,fun _ h=>.inl h,rfl,Nat.le_refl _,fun _ _ h=>by cases h⟩
theorem Cx.frozen_ok {y:Cx} (hok:y.ok):y.frozen.ok:=by
 refine ⟨fun b hb=>?_,hok.F_lt,fun b hb=>?_,(fun _ _ h=>by cases h),(fun _ _ _ _ h=>by cases h),(fun _ _ _ _ _ _ _ h=>by cases h),hok.tabs.le Cx.frozen_le⟩
 ·rcases hb with hb | ⟨id,o,k,h1,h2⟩
  ·exact hok.S_lt b hb
  ·exact (hok.own id o b k h1 h2).1
 ·rcases hb with hb | ⟨id,o,k,h1,h2⟩
  ·exact hok.SF b hb
  ·exact (hok.own id o b k h1 h2).2.2
theorem Fz1.rep {y:Cx} (hok:y.ok) {h:Heap} (hH:y.H=hget h) {a b:AV} (hf:Fz1 h a b) {v:Value} (hv:YAN y a v):YAN y.frozen b v:=by
 cases hf with
 | closed _ ha=>exact YDw (x:=y) (y:=y.frozen) rfl (fun b h=>Or.inl h) hv ha
 | @own id g e sz xs hh=>
  have hHid:y.H id=some (.arr g e sz xs):=by rw [hH]; exact hh
  exact .r (YGS hok hHid hv (fun _ h=>.inl h) fun b k hb=>.inr ⟨_,_,k,hHid,hb⟩)
 | nil=>cases hv; exact .r .snil
 | full=>cases hv with | full h _=>exact (YAN.r h).mono Cx.frozen_le
theorem FzL.get {h:Heap} {cs ds:List AV} (hf:FzL h cs ds):cs.length=ds.length ∧ ∀ (i:Nat) (b:AV),ds[i]? = some b → ∃ a,cs[i]? = some a∧Fz1 h a b:=by
 induction cs generalizing ds with
 | nil=>cases ds with | nil=>exact ⟨rfl,by simp⟩ | cons _ _=>exact hf.elim
 | cons a l ih=>
  cases ds with
  | nil=>exact hf.elim
  | cons b m=>
   obtain ⟨h1,h2⟩:=ih hf.2
   refine ⟨by simp [h1],fun i c hi=>?_⟩
   cases i with
   | zero=>simp at hi; subst hi; exact ⟨a,rfl,hf.1⟩
   | succ i=>simpa using h2 i c (by simpa using hi)
theorem Fz.rep {y:Cx} (hok:y.ok) {h:Heap} (hH:y.H=hget h) {a b:AV} (hf:Fz h a b) {v:Value} (hv:YAN y a v):YAN y.frozen b v:=by
 cases hf with
 | one h1=>exact h1.rep hok hH hv
 | agg h1=>
  obtain ⟨h2,h3⟩:=h1.get
  cases hv with
  | agg hl hall=>
   refine .agg (by omega) fun i c u k1 k2=>?_
   obtain ⟨a',k3,k4⟩:=h3 i c k1
   exact k4.rep hok hH (hall i a' u k3 k2)
end
section
variable {P:Program} {c:Bool} {o:Oper} {R:Env} {h:Heap} {n:Nat}
theorem YHb {f:FuncId} (hf:YID P f) {fo:Operand} {xs:Array Operand} {ats:Array TypeId} (ho:o.op = .call { callee:=.value fo,args:=xs,argTypes:=ats }) {ρ:Operand→Value} {us:Array Value}
  (hfo:ρ fo = .func (.func f) #[] us) (w:World):(execOp ρ o).run P w = .ok (.enter f (xs.map ρ++us)) w:=by
 obtain ⟨fn,h1,h2,h3⟩:=hf
 unfold execOp
 rw [ho]
 simp only [resolve,hfo,Deferred.ofValue,Sem.run_bind,Sem.run_pure,Result.andThen_ok,invoke,callFunc,run_program,h1,h3,h2]
 simp
def YIS (c:Bool) (R:Env) (h:Heap):List Operand→List AV→Prop
 | [],[]=>True
 | x :: xs,b :: bs=>(∃ a,Ev c R x a∧Fz h a b)∧YIS c R h xs bs
 | _,_=>False
theorem YIS.get {xs:List Operand} {bs:List AV} (hx:YIS c R h xs bs):xs.length=bs.length ∧ ∀ (i:Nat) (b:AV),bs[i]? = some b → ∃ x a,xs[i]? = some x∧Ev c R x a∧Fz h a b:=by
 induction xs generalizing bs with
 | nil=>cases bs with | nil=>exact ⟨rfl,by simp⟩ | cons _ _=>exact hx.elim
 | cons x l ih=>
  cases bs with
  | nil=>exact hx.elim
  | cons b m=>
   obtain ⟨h1,h2⟩:=ih hx.2
   obtain ⟨a,k1,k2⟩:=hx.1
   refine ⟨by simp [h1],fun i c hi=>?_⟩
   cases i with
   | zero=>simp at hi; subst hi; exact ⟨x,a,rfl,k1,k2⟩
   | succ i=>simpa using h2 i c (by simpa using hi)
def AV.flat:AV→Bool
 | .r (.int _ _) | .r (.bool _) | .r (.str _)=>true
 | .tup cs=>cs.all fun | .r (.int _ _) | .r (.bool _) | .r (.str _)=>true | _=>false
 | _=>false
theorem YPY {x y:Cx} {d:RV} (hd:(AV.r d).flat=true) {v:Value} (hv:YAN x (.r d) v):YAN y (.r d) v:=by
 cases hv with
 | r h=>cases h <;> first | exact .r (.int _ _) | exact .r (.bool _) | exact .r (.str _) | (simp [AV.flat] at hd)
theorem YWB {x y:Cx} {a:AV} (ha:a.flat=true) {v:Value} (hv:YAN x a v):YAN y a v:=by
 cases a with
 | r d=>exact YPY ha hv
 | tup cs=>
  cases hv with
  | tup hl hall=>
   refine .tup hl fun i c u h1 h2=>?_
   have h3:=List.all_eq_true.1 ha c (List.mem_of_getElem? h1)
   cases c with
   | r d=>exact YPY (by cases d <;> simp_all [AV.flat]) (hall i _ u h1 h2)
   | _=>simp at h3
 | _=>simp [AV.flat] at ha
theorem YBb {f:FuncId} {fo:Operand} {xs:Array Operand} {ats:Array TypeId} {caps bs:List AV} {r:AV} (ho:o.op = .call { callee:=.value fo,args:=xs,argTypes:=ats }) (hfo:Ev c R fo (.fn f caps)) (hcaps:YBp caps=true)
  (hx:YIS c R h xs.toList bs) (hr:c=true→ARO P f (bs++caps) r) (hfl:r.flat=true):YAV P c o R h n r h n:=by
 intro hc z w hok hH hn he K Q hK
 obtain ⟨hcall,_,hcon⟩:=hr hc
 obtain ⟨hlen,hget⟩:=hx.get
 have hv:=hfo.rep he hc
 generalize hfv:w.eval fo=v at hv
 cases hv with
 | @fn _ _ us hl hall=>
  have hrun:=YHb hcall ho hfv z.w
  have hargs:YGF z.frozen (bs++caps) (xs.map w.eval++us).toList:=by
   refine ⟨by simp [hl]; simpa using hlen,fun i a u h1 h2=>?_⟩
   have h2':((xs.toList.map w.eval)++us.toList)[i]? = some u:=by simpa using h2
   by_cases hi:i<bs.length
   ·rw [List.getElem?_append_left hi] at h1
    obtain ⟨x,b,k1,k2,k3⟩:=hget i a h1
    rw [List.getElem?_append_left (by simp at hlen ⊢; omega),List.getElem?_map,k1] at h2'
    simp only [Option.map_some,Option.some.injEq] at h2'
    subst h2'
    exact k3.rep hok hH (k2.rep he hc)
   ·rw [List.getElem?_append_right (by omega)] at h1
    rw [List.getElem?_append_right (by simp at hlen ⊢; omega)] at h2'
    have hxl:(xs.toList.map w.eval).length=bs.length:=by simpa using hlen
    rw [hxl] at h2'
    exact YDw (x:=z) (y:=z.frozen) rfl (fun b h=>Or.inl h) (hall _ a u h1 (by simpa using h2')) (YDl hcaps h1)
  unfold Oper.wp
  rw [hrun]
  refine (hcon z.frozen _ (Cx.frozen_ok hok) rfl hargs).mono fun e w' ⟨u,y,he',hyw,hle,hyok,hyr⟩=>?_
  subst he'
  subst hyw
  have hupd:z.le { y with S:=z.S,H:=z.H,β:=z.β,n:=z.n } ∧ ({ y with S:=z.S,H:=z.H,β:=z.β,n:=z.n } : Cx).ok:=by
   have hle2:z.le { y with S:=z.S,H:=z.H,β:=z.β,n:=z.n }:=
    ⟨hle.size,hle.os,hle.tape,hle.output,fun b hb=>hle.blk b (hb.imp (fun h=>Or.inl h) id),fun _ h=>h,hle.F,Nat.le_refl _,fun id o h _=>⟨o,h,rfl,rfl,rfl⟩⟩
   refine ⟨hle2,fun b hb=>Nat.lt_of_lt_of_le (hok.S_lt b hb) hle.size,hyok.F_lt,fun b hb=>?_,fun id ob hob=>?_,fun id ob b k h1 h2=>?_,hok.inj,hok.tabs.le hle2⟩
   ·rw [show ({ y with S:=z.S,H:=z.H,β:=z.β,n:=z.n } : Cx).F=z.F from hle.F]; exact hok.SF b hb
   ·obtain ⟨k1,k2⟩:=hok.obj id ob hob
    exact ⟨k1,k2.mono hle2 fun b k hb=>hle.blk b (.inl (.inr ⟨id,ob,k,hob,hb⟩))⟩
   ·obtain ⟨k1,k2,k3⟩:=hok.own id ob b k h1 h2
    exact ⟨Nat.lt_of_lt_of_le k1 hle.size,k2,by rw [show ({ y with S:=z.S,H:=z.H,β:=z.β,n:=z.n } : Cx).F=z.F from hle.F]; exact k3⟩
  exact hK u { y with S:=z.S,H:=z.H,β:=z.β,n:=z.n } hupd.1 hupd.2 hH hn (YWB hfl hyr)
def YPy (c:Bool) (R:Env):List Operand→List AV→Prop
 | [],[]=>True
 | x :: xs,b :: bs=>((Ev c R x b∧b.closed=true)∨(Ev c R x (.cst (.slice none 0 0))∧b = .r (.sl [])))∧YPy c R xs bs
 | _,_=>False
theorem YPy.get {xs:List Operand} {bs:List AV} (hx:YPy c R xs bs):xs.length=bs.length ∧ ∀ (i:Nat) (b:AV),bs[i]? = some b → ∃ x,xs[i]? = some x∧((Ev c R x b∧b.closed=true)∨(Ev c R x (.cst (.slice none 0 0))∧b = .r (.sl []))):=by
 induction xs generalizing bs with
 | nil=>cases bs with | nil=>exact ⟨rfl,by simp⟩ | cons _ _=>exact hx.elim
 | cons x l ih=>
  cases bs with
  | nil=>exact hx.elim
  | cons b m=>
   obtain ⟨h1,h2⟩:=ih hx.2
   refine ⟨by simp [h1],fun i c hi=>?_⟩
   cases i with
   | zero=>simp at hi; subst hi; exact ⟨x,rfl,hx.1⟩
   | succ i=>simpa using h2 i c (by simpa using hi)
def Cx.aside (z:Cx):Cx:={ w:=z.w,S:=z.S,F:=fun b=>z.F b ∨ ∃ id o k,z.H id=some o∧z.β id=some (b,k),H:=fun _=>none,β:=fun _=>none,n:=z.n }
theorem Cx.aside_ok {z:Cx} (hok:z.ok):z.aside.ok:=by
 refine ⟨hok.S_lt,fun b hb=>?_,fun b hb hf=>?_,(fun _ _ h=>by cases h),(fun _ _ _ _ h=>by cases h),(fun _ _ _ _ _ _ _ h=>by cases h),hok.tabs.same rfl (fun _ h=>h)⟩
 ·rcases hb with hb | ⟨id,o,k,h1,h2⟩
  ·exact hok.F_lt b hb
  ·exact (hok.own id o b k h1 h2).1
 ·rcases hf with hf | ⟨id,o,k,h1,h2⟩
  ·exact hok.SF b hb hf
  ·exact (hok.own id o b k h1 h2).2.1 hb
theorem YBX {f:FuncId} {fo:Operand} {xs:Array Operand} {ats:Array TypeId} {caps bs:List AV} {r:AV} (ho:o.op = .call { callee:=.value fo,args:=xs,argTypes:=ats }) (hfo:Ev c R fo (.fn f caps)) (hcaps:YBp caps=true)
  (hx:YPy c R xs.toList bs) (hr:c=true→ARO P f (bs++caps) r):YAV P c o R h n r h n:=by
 intro hc z w hok hH hn he K Q hK
 obtain ⟨hcall,hrcl,hcon⟩:=hr hc
 obtain ⟨hlen,hget⟩:=hx.get
 have hv:=hfo.rep he hc
 generalize hfv:w.eval fo=v at hv
 cases hv with
 | @fn _ _ us hl hall=>
  have hrun:=YHb hcall ho hfv z.w
  have hargs:YGF z.aside (bs++caps) (xs.map w.eval++us).toList:=by
   refine ⟨by simp [hl]; simpa using hlen,fun i a u h1 h2=>?_⟩
   have h2':((xs.toList.map w.eval)++us.toList)[i]? = some u:=by simpa using h2
   by_cases hi:i<bs.length
   ·rw [List.getElem?_append_left hi] at h1
    obtain ⟨x,k1,k2⟩:=hget i a h1
    rw [List.getElem?_append_left (by simp at hlen ⊢; omega),List.getElem?_map,k1] at h2'
    simp only [Option.map_some,Option.some.injEq] at h2'
    subst h2'
    rcases k2 with ⟨k2,k3⟩ | ⟨k2,rfl⟩
    ·exact YDw (x:=z) (y:=z.aside) rfl (fun b h=>h) (k2.rep he hc) k3
    ·have:=k2.rep he hc
     generalize w.eval x=v at this ⊢
     cases this; exact .r .snil
   ·rw [List.getElem?_append_right (by omega)] at h1
    rw [List.getElem?_append_right (by simp at hlen ⊢; omega)] at h2'
    have hxl:(xs.toList.map w.eval).length=bs.length:=by simpa using hlen
    rw [hxl] at h2'
    exact YDw (x:=z) (y:=z.aside) rfl (fun b h=>h) (hall _ a u h1 (by simpa using h2')) (YDl hcaps h1)
  unfold Oper.wp
  rw [hrun]
  refine (hcon z.aside _ (Cx.aside_ok hok) rfl hargs).mono fun e w' ⟨u,y,he',hyw,hle,hyok,hyr⟩=>?_
  subst he'
  subst hyw
  have hyF:y.F=z.aside.F:=hle.F
  have hupd:z.le { y with F:=z.F,H:=z.H,β:=z.β,n:=z.n } ∧ ({ y with F:=z.F,H:=z.H,β:=z.β,n:=z.n } : Cx).ok:=by
   have hle2:z.le { y with F:=z.F,H:=z.H,β:=z.β,n:=z.n }:=
    ⟨hle.size,hle.os,hle.tape,hle.output,fun b hb=>hle.blk b (hb.imp id (fun h=>Or.inl h)),fun b h=>hle.S b h,rfl,Nat.le_refl _,fun id o h _=>⟨o,h,rfl,rfl,rfl⟩⟩
   refine ⟨hle2,hyok.S_lt,fun b hb=>Nat.lt_of_lt_of_le (hok.F_lt b hb) hle.size,fun b hb hf=>?_,fun id ob hob=>?_,fun id ob b k h1 h2=>?_,hok.inj,hok.tabs.le hle2⟩
   ·exact hyok.SF b hb (by rw [hyF]; exact .inl hf)
   ·obtain ⟨k1,k2⟩:=hok.obj id ob hob
    exact ⟨k1,k2.mono hle2 fun b k hb=>hle.blk b (.inr (.inr ⟨id,ob,k,hob,hb⟩))⟩
   ·obtain ⟨k1,k2,k3⟩:=hok.own id ob b k h1 h2
    refine ⟨Nat.lt_of_lt_of_le k1 hle.size,fun hs=>?_,k3⟩
    exact hyok.SF b hs (by rw [hyF]; exact .inr ⟨id,ob,k,h1,h2⟩)
  exact hK u { y with F:=z.F,H:=z.H,β:=z.β,n:=z.n } hupd.1 hupd.2 hH hn (YDw (x:=y) (y:={ y with F:=z.F,H:=z.H,β:=z.β,n:=z.n }) rfl (fun _ h=>h) hyr hrcl)
def YCt:Nat→List AV→Env
 | _,[]=>[]
 | i,a :: l=>(i,a) :: YCt (i+1) l
theorem YIC (l:List AV) : ∀ (i t:Nat),get (YCt i l) t = .any ∨ ∃ j a,t=i+j∧l[j]? = some a∧get (YCt i l) t=a:=by
 induction l with
 | nil=>intro i t; exact .inl rfl
 | cons a l ih=>
  intro i t
  simp only [YCt,YBL]
  split
  ·rename_i ht; subst ht; exact .inr ⟨0,a,rfl,rfl,rfl⟩
  ·rcases ih (i+1) t with h1 | ⟨j,b,h1,h2,h3⟩
   ·exact .inl h1
   ·exact .inr ⟨j+1,b,by omega,by simpa using h2,h3⟩
end
section
variable {P:Program} {c:Bool} {o:Oper} {R:Env} {h:Heap} {n:Nat}
end
section
variable {P:Program} {ops:Array Oper} {rest:List Oper} {s:St} {K:St→Prop} {o:Oper}
def CC (y:Cx) (w2:World):Prop:=∃ z:Cx,z.w=w2∧y.le z∧z.ok∧z.H=y.H∧z.β=y.β∧z.n=y.n∧z.S=y.S∧YHy y w2
def AQ (P:Program) (ops:Array Oper) (rest:List Oper) (s:St) (K:St→Prop):Prop:=
 ∀ (y:Cx) (a:Act),y.ok→y.H=hget s.h→y.n=s.n→a.tmps.size=s.N→YCO y s.e a → ∀ Qa:Act→Prop,
  (∀ s' a',K s'→s'.h=s.h→s'.n=s.n→s'.N=s.N→a'.tmps.size=s.N→a'.defers=a.defers→YCO y s'.e a'→Qa a')→wpQuiet P ops (CC y) Qa rest a
theorem AQ.nil (h:K s):AQ P ops [] s K:=fun _ a _ _ _ hN he _ hQ=>wpQuiet_nil (hQ s a h rfl rfl rfl hN rfl he)
theorem YHy.trans_cc {y z:Cx} {w2:World} (hH:z.H=y.H) (hβ:z.β=y.β) (hS:z.S=y.S) (h1:YHy y z.w) (h2:YHy z w2):YHy y w2:=by
 intro b hb
 refine (h2 b ?_).trans (h1 b hb)
 rw [hH,hβ,hS]; exact hb
theorem AQ.step {d:Nat} {v:AV} (hg:o.guard=none) (hd:o.dst=some d) (hN:Nat.blt d s.N=true) (hs:OpQ P true o s.e s.h v)
  (hr:AQ P ops rest { e:=(d,v) :: s.e,h:=s.h,n:=s.n,N:=s.N } K):AQ P ops (o :: rest) s K:=by
 intro y a hok hH hn hsz he Qa hQ
 obtain ⟨u,hrun,hv⟩:=hs rfl y a hok hH he
 have hN':d<a.tmps.size:=by rw [hsz]; exact YAl hN
 refine wpQuiet_step fun K' hK'=>?_
 rw [if_pos (by simp [Region.wanted,hg])]
 refine ⟨u,fun w2 hw2=>?_,hK' _ ?_⟩
 ·obtain ⟨z,hz,_,_,_,_,_,_,hag⟩:=hw2
  unfold Oper.quietAt
  rw [hrun w2 hag]
  exact ⟨rfl,rfl⟩
 ·rw [hd]
  refine hr y (a.put (some d) u) hok hH hn (by simpa [Act.put] using hsz) (he.put hN' hv) Qa fun s' a' k1 k2 k3 k4 k5 k6 k7=>hQ s' a' k1 k2 k3 k4 k5 k6 k7
theorem YOc {a:Act} {j dj:Nat} {want b:Bool} (hg:o.guard=some (j,want)) (hj:(ops[j]?).bind (·.dst)=some dj) (hbv:a.tmps.getD dj undef = .bool b):Region.wanted o (yielded ops a.tmps)=(b == want):=by
 simp only [Region.wanted,hg,yielded]
 cases hoj:ops[j]? with
 | none=>rw [hoj] at hj; cases hj
 | some oj=>
  rw [hoj] at hj
  simp only [Option.bind_some] at hj
  simp only [hj,Option.bind_some]
  have:a.tmps[dj]? = some (.bool b):=by
   have hlt:dj<a.tmps.size:=by
    rcases Nat.lt_or_ge dj a.tmps.size with h | h
    ·exact h
    ·simp [Array.getD,Nat.not_lt.2 h] at hbv; cases hbv
   rw [Array.getElem?_eq_getElem hlt]
   simpa [Array.getD,hlt] using hbv
  simp [this]
def YJJ:AV→Option Value
 | .r (.int k n)=>some (.int k n)
 | .r (.bool b)=>some (.bool b)
 | .r (.str s)=>some (.string ⟨s.toArray⟩)
 | _=>none
def YKJ:List AV→Option (List Value)
 | []=>some []
 | a :: l=>match YJJ a,YKJ l with
  | some v,some r=>some (v :: r)
  | _,_=>none
def YUY:AV→Option Value
 | .tup vs=>(YKJ vs).map fun l=>.tuple l.toArray
 | a=>YJJ a
theorem YNK {x:Cx} {r:AV} {v u:Value} (h:YJJ r=some v) (hu:YAN x r u):u=v:=by
 unfold YJJ at h
 split at h
 ·cases h; exact YBK hu
 ·cases h; exact YEC hu
 ·cases h; exact YGC hu
 ·cases h
theorem YPZ {x:Cx} {r:AV} {v:Value} (h:YJJ r=some v):YAN x r v:=by
 unfold YJJ at h
 split at h
 ·cases h; exact .r (.int _ _)
 ·cases h; exact .r (.bool _)
 ·cases h; exact .r (.str ⟨_⟩)
 ·cases h
theorem YJq : ∀ {vs:List AV} {l:List Value},YKJ vs=some l→vs.length=l.length ∧ ∀ (i:Nat) (a:AV),vs[i]? = some a → ∃ v:Value,l[i]? = some v∧YJJ a=some v
 | [],l,h=>by cases h; exact ⟨rfl,by simp⟩
 | a :: vs,l,h=>by
  unfold YKJ at h
  split at h
  ·rename_i v r h1 h2
   cases h
   obtain ⟨k1,k2⟩:=YJq h2
   refine ⟨by simp [k1],fun i b hb=>?_⟩
   cases i with
   | zero=>cases hb; exact ⟨v,rfl,h1⟩
   | succ i=>simpa using k2 i b (by simpa using hb)
  ·cases h
theorem YUX {x:Cx} {r:AV} {v u:Value} (h:YUY r=some v) (hu:YAN x r u):u=v:=by
 cases r with
 | tup vs=>
  change (YKJ vs).map (fun l=>Value.tuple l.toArray)=some v at h
  cases hv:YKJ vs with
  | none=>rw [hv] at h; cases h
  | some l=>
   rw [hv] at h
   simp only [Option.map_some,Option.some.injEq] at h
   subst h
   obtain ⟨k1,k2⟩:=YJq hv
   cases hu with
   | @tup _ us hl hall=>
    congr 1
    apply Array.ext
    ·simp; omega
    ·intro i h1 h2
     obtain ⟨w,h3,h4⟩:=k2 i (vs[i]'(by omega)) (List.getElem?_eq_getElem (by omega))
     have h5:=hall i _ us[i] (List.getElem?_eq_getElem (by omega)) (Array.getElem?_eq_getElem h1)
     have h6:=YNK h4 h5
     have hil:i<l.length:=by simpa using h2
     rw [List.getElem?_eq_getElem hil] at h3
     cases h3
     simpa using h6
 | _=>first | exact YNK (show YJJ _=some v from h) hu | cases h
theorem YRl {x:Cx} {r:AV} {v:Value} (h:YUY r=some v):YAN x r v:=by
 cases r with
 | tup vs=>
  change (YKJ vs).map (fun l=>Value.tuple l.toArray)=some v at h
  cases hv:YKJ vs with
  | none=>rw [hv] at h; cases h
  | some l=>
   rw [hv] at h
   simp only [Option.map_some,Option.some.injEq] at h
   subst h
   obtain ⟨k1,k2⟩:=YJq hv
   refine .tup (by simpa using k1) fun i c u h1 h2=>?_
   obtain ⟨w,h3,h4⟩:=k2 i c h1
   have h2':l[i]? = some u:=by simpa using h2
   rw [h3] at h2'; cases h2'
   exact YPZ h4
 | _=>first | exact YPZ (show YJJ _=some v from h) | cases h
theorem AQ.call {c:Bool} {f:FuncId} {fo:Operand} {xs:Array Operand} {ats:Array TypeId} {caps bs:List AV} {r:AV} {v:Value} {a:Act} {y:Cx} {R:Env} {h:Heap} (ho:o.op = .call { callee:=.value fo,args:=xs,argTypes:=ats })
  (hfo:Ev c R fo (.fn f caps)) (hcaps:YBp caps=true) (hx:YIS c R h xs.toList bs) (hr:c=true→ARO P f (bs++caps) r) (hfl:YUY r=some v) (hc:c=true) (_hok:y.ok) (hH:y.H=hget h) (he:YCO y R a) :
  ∀ w2,CC y w2→o.quietAt P a (CC y) w2 v:=by
 rintro w2 ⟨z,rfl,hyz,hzok,hzH,hzβ,hzn,hzS,hzag⟩
 obtain ⟨hcall,_,hcon⟩:=hr hc
 obtain ⟨hlen,hget⟩:=hx.get
 have hez:=he.mono hyz
 have hHz:z.H=Al.hget h:=hzH.trans hH
 have hv:=hfo.rep hez hc
 generalize hfv:a.eval fo=vv at hv
 cases hv with
 | @fn _ _ us hl hall=>
  have hrun:=YHb hcall ho hfv z.w
  have hargs:YGF z.frozen (bs++caps) (xs.map a.eval++us).toList:=by
   refine ⟨by simp [hl]; simpa using hlen,fun i b u h1 h2=>?_⟩
   have h2':((xs.toList.map a.eval)++us.toList)[i]? = some u:=by simpa using h2
   by_cases hi:i<bs.length
   ·rw [List.getElem?_append_left hi] at h1
    obtain ⟨x,b',k1,k2,k3⟩:=hget i b h1
    rw [List.getElem?_append_left (by simp at hlen ⊢; omega),List.getElem?_map,k1] at h2'
    simp only [Option.map_some,Option.some.injEq] at h2'
    subst h2'
    exact k3.rep hzok hHz (k2.rep hez hc)
   ·rw [List.getElem?_append_right (by omega)] at h1
    rw [List.getElem?_append_right (by simp at hlen ⊢; omega)] at h2'
    have hxl:(xs.toList.map a.eval).length=bs.length:=by simpa using hlen
    rw [hxl] at h2'
    exact YDw (x:=z) (y:=z.frozen) rfl (fun b h=>Or.inl h) (hall _ b u h1 (by simpa using h2')) (YDl hcaps h1)
  unfold Oper.quietAt
  rw [hrun]
  refine ⟨rfl,(hcon z.frozen _ (Cx.frozen_ok hzok) rfl hargs).mono fun e w' ⟨u,q,he',hqw,hle,hqok,hqr⟩=>?_⟩
  subst hqw
  refine ⟨by rw [he',YUX hfl hqr],?_⟩
  have hle2:z.le { q with S:=z.S,H:=z.H,β:=z.β,n:=z.n }:=
   ⟨hle.size,hle.os,hle.tape,hle.output,fun b hb=>hle.blk b (hb.imp (fun h=>Or.inl h) id),fun _ h=>h,hle.F,Nat.le_refl _,fun id o h _=>⟨o,h,rfl,rfl,rfl⟩⟩
  have hFz:({ q with S:=z.S,H:=z.H,β:=z.β,n:=z.n } : Cx).F=z.F:=hle.F
  refine ⟨{ q with S:=z.S,H:=z.H,β:=z.β,n:=z.n },rfl,hyz.trans hle2,⟨fun b hb=>Nat.lt_of_lt_of_le (hzok.S_lt b hb) hle.size,hqok.F_lt,fun b hb=>?_,fun id ob hob=>?_,fun id ob b k h1 h2=>?_,hzok.inj,hzok.tabs.le hle2⟩,hzH,hzβ,hzn,hzS,?_⟩
  ·rw [hFz]; exact hzok.SF b hb
  ·obtain ⟨k1,k2⟩:=hzok.obj id ob hob
   exact ⟨k1,k2.mono hle2 fun b k hb=>hle.blk b (.inl (.inr ⟨id,ob,k,hob,hb⟩))⟩
  ·obtain ⟨k1,k2,k3⟩:=hzok.own id ob b k h1 h2
   exact ⟨Nat.lt_of_lt_of_le k1 hle.size,k2,by rw [hFz]; exact k3⟩
  ·refine YHy.trans_cc hzH hzβ hzS hzag fun b hb=>hle.blk b (.inl (hb.imp id ?_))
   exact fun ⟨id,o,k,h1,h2⟩=>⟨id,o,k,h1,h2⟩
theorem AQ.stepC {d:Nat} {f:FuncId} {fo:Operand} {xs:Array Operand} {ats:Array TypeId} {caps bs:List AV} {r:AV} {v:Value} (hg:o.guard=none) (hd:o.dst=some d) (hN:Nat.blt d s.N=true)
  (ho:o.op = .call { callee:=.value fo,args:=xs,argTypes:=ats }) (hfo:Ev true s.e fo (.fn f caps)) (hcaps:YBp caps=true) (hx:YIS true s.e s.h xs.toList bs) (hr:true=true→ARO P f (bs++caps) r) (hfl:YUY r=some v)
  (hk:AQ P ops rest { e:=(d,r) :: s.e,h:=s.h,n:=s.n,N:=s.N } K):AQ P ops (o :: rest) s K:=by
 intro y a hok hH hn hsz he Qa hQ
 have hN':d<a.tmps.size:=by rw [hsz]; exact YAl hN
 refine wpQuiet_step fun K' hK'=>?_
 rw [if_pos (by simp [Region.wanted,hg])]
 refine ⟨v,AQ.call ho hfo hcaps hx hr hfl rfl hok hH he,hK' _ ?_⟩
 rw [hd]
 exact hk y (a.put (some d) v) hok hH hn (by simpa [Act.put] using hsz) (he.put hN' (YRl hfl)) Qa fun s' a' k1 k2 k3 k4 k5 k6 k7=>hQ s' a' k1 k2 k3 k4 k5 k6 k7
theorem AW.regionQ {id:Nat} {l:List Oper} {Q:Exit→St→Prop} (hm:P.follows .mixedOrders=true) (hB:Region.lexB .any l.toArray=true) (h:AQ P l.toArray l s (Q .normal)):AW P (.region id l.toArray true) Q s:=by
 intro z0 hz0 c0 a w ⟨_,hdef,hsz,y,hyw,hle,hok,hH,hn,he⟩
 subst hyw
 have hcc : ∀ w2:World,w2.heap=y.w.heap→w2.os=y.w.os→w2.tape=y.w.tape→w2.output=y.w.output→CC y w2:=by
  intro w2 h1 h2 h3 h4
  have hle2:y.le { y with w:=w2 }:=⟨by rw [h1]; exact Nat.le_refl _,h2,h3,h4,fun b _=>by rw [h1],fun _ h=>h,rfl,Nat.le_refl _,fun id o h _=>⟨o,h,rfl,rfl,rfl⟩⟩
  refine ⟨{ y with w:=w2 },rfl,hle2,⟨fun b hb=>by rw [h1]; exact hok.S_lt b hb,fun b hb=>by rw [h1]; exact hok.F_lt b hb,hok.SF,fun id o ho=>?_,fun id o b k k1 k2=>by rw [h1]; exact hok.own id o b k k1 k2,hok.inj,hok.tabs.le hle2⟩,rfl,rfl,rfl,rfl,fun b _=>by rw [h1]⟩
  obtain ⟨k1,k2⟩:=hok.obj id o ho
  exact ⟨k1,k2.mono hle2 fun b k _=>by rw [h1]⟩
 refine YIT YGj.noOut (C:=CC y) hm hB hz0 (hcc _ rfl rfl rfl rfl) ?_
 refine h y a hok hH hn hsz he _ fun s' a' k1 k2 k3 k4 k5 k6 k7 w2 ⟨z,hz,hyz,hzok,hzH,_,hzn,_,_⟩=>?_
 subst hz
 exact ⟨by simp,s',k1,_,k6.trans hdef,by rw [k5,k4],z,rfl,hle.trans hyz,hzok,by rw [hzH,hH,k2],by rw [hzn,hn,k3],k7.mono hyz⟩
end
section
variable {P:Program} {c:Bool} {o:Oper} {R:Env} {h:Heap} {n:Nat}
theorem w64 {x:Int} (h1 : -9223372036854775808≤x) (h2:x≤9223372036854775807):IntKind.i64.wrap x=x:=by
 rw [IntKind.wrap_i64]; omega
def YCA (P:Program) (t:TypeId) (places:List (Nat × Nat)) (z:List Value):Prop:=
 ∃ fs:Array Field,P.underlying t=some (.struct fs)∧(∀ w,(fs.mapM (m:=Sem) fun f=>do pure (f.offset,← sizeOf f.type)).run P w = .ok places.toArray w) ∧ ∃ i,P.info? t=some i∧i.zero=some (.agg z.toArray)
def YPd:List AV→List (Nat × AV)→List AV
 | cs,[]=>cs
 | cs,(off,a) :: r=>YPd (YG8 cs off (YAc a)) r
def YOY (c:Bool) (R:Env) (places:List (Nat × Nat)) (len:Nat):List (Nat × Operand)→List (Nat × AV)→Prop
 | [],[]=>True
 | (i,x) :: r,(off,a) :: q=>places[i]? = some (off,(YAc a).length)∧Nat.ble (off+(YAc a).length) len=true∧(YAc a).all AV.one=true∧Ev c R x a∧YOY c R places len r q
 | _,_=>False
theorem YUd {x:Cx} {a:Act} {places:List (Nat × Nat)} (hc:c=true) (he:YCO x R a) : ∀ (ps:List (Nat × Operand)) (q:List (Nat × AV)) (us:Array Value) (cs:List AV),us.size=cs.length →
  (∀ (j:Nat) (b:AV) (u:Value),cs[j]? = some b→us[j]? = some u→YAN x b u)→YOY c R places cs.length ps q →
  ∃ us',Instr.fill (places[·]?) us (ps.map fun (i,y)=>(i,a.eval y))=some us'∧us'.size=(YPd cs q).length ∧ ∀ (j:Nat) (b:AV) (u:Value),(YPd cs q)[j]? = some b→us'[j]? = some u→YAN x b u
 | [],[],us,cs,hl,hcs,_=>⟨us,rfl,hl,hcs⟩
 | [],_ :: _,_,_,_,_,hp=>hp.elim
 | _ :: _,[],_,_,_,_,hp=>hp.elim
 | (i,y) :: ps,(off,b) :: q,us,cs,hl,hcs,hp=>by
  obtain ⟨h1,h2,h3,h4,h5⟩:=hp
  have h2':off+(YAc b).length≤cs.length:=Nat.le_of_ble_eq_true h2
  obtain ⟨k1,k2,_⟩:=YFv (h4.rep he hc) (fun d hd=>List.all_eq_true.1 h3 d hd)
  have hsl:(YG8 cs off (YAc b)).length=cs.length:=by simp [YG8]; omega
  obtain ⟨f1,f2⟩:=YRo off (a.eval y) us (by omega)
  obtain ⟨us',g1,g2,g3⟩:=YUd hc he ps q _ (YG8 cs off (YAc b)) (by rw [f1,hl,hsl]) (fun j d u hj hu=>by
   have hsp:=YFP cs (YAc b) off j h2'
   unfold YG8 at hj
   rw [hsp] at hj
   rw [f2] at hu
   rw [k1] at hu
   split at hj
   ·rename_i hcond
    rw [if_pos hcond] at hu
    obtain ⟨u',m1,_,m2⟩:=k2 _ _ hj
    rw [hu] at m1; cases m1; exact m2
   ·rename_i hcond
    rw [if_neg hcond] at hu
    exact hcs j d u hj hu) (by rw [hsl]; exact h5)
  refine ⟨us',?_,g2,g3⟩
  simp only [List.map_cons,Instr.fill,h1]
  rw [if_neg (by simp [k1]; omega)]
  exact g1
theorem YRI {t:TypeId} {parts:Array (Nat × Operand)} {places:List (Nat × Nat)} {z:List Value} {q:List (Nat × AV)} {cs:List AV} (ho:o.op = .build t parts) (ht:YCA P t places z)
  (hp:YOY c R places z.length parts.toList q) (hcs:YPd (z.map YIi) q=cs):OpQ P c o R h (.agg cs):=by
 intro hc y a _ _ he
 subst hcs
 obtain ⟨fs,h1,h2,i,h3,h4⟩:=ht
 obtain ⟨us',f1,f2,f3⟩:=YUd hc he parts.toList q z.toArray (z.map YIi) (by simp) (fun j b u k1 k2=>by
  have k2':z[j]? = some u:=by simpa using k2
  rw [List.getElem?_map,k2'] at k1
  simp only [Option.map_some,Option.some.injEq] at k1
  subst k1; exact YGw y u) (by rw [List.length_map]; exact hp)
 refine ⟨.agg us',fun w2 _=>?_,.agg f2.symm fun j b u k1 k2=>f3 j b u k1 k2⟩
 unfold execOp
 rw [ho]
 simp only [Instr.build,zeroValue,typeInfo,Sem.run_bind,run_program,Result.andThen_ok,h3,Sem.run_pure,h4,run_underlying h1,h2,Value.cells,Array.toList_map]
 have:(fun x:Nat=>places.toArray[x]?)=(places[·]?):=by funext x; simp
 rw [this,f1]
 rfl
def YL7 (P:Program) (t:TypeId) (f off:Nat):Prop:=∃ (fs:Array Field) (fl:Field) (d:TypeDesc),P.underlying t=some (.struct fs)∧fs[f]? = some fl∧fl.offset=off∧P.underlying fl.type=some d∧Scal d=true
theorem YVM {t:TypeId} {x:Operand} {f off:Nat} {cs:List AV} {a:AV} (ho:o.op = .field t x f) (ht:YL7 P t f off) (hx:Ev c R x (.agg cs)) (ha:cs[off]? = some a):OpQ P c o R h a:=by
 intro hc z w _ _ he
 obtain ⟨fs,fl,d,h1,h2,h3,h4,h5⟩:=ht
 have hv:=hx.rep he hc
 generalize hw:w.eval x=v at hv
 cases hv with
 | @agg _ us hl hall=>
  have hi:off<us.size:=by have:=(List.getElem?_eq_some_iff.1 ha).1; omega
  refine ⟨us[off],fun w2 _=>?_,hall off a us[off] ha (Array.getElem?_eq_getElem hi)⟩
  unfold execOp
  rw [ho]
  simp [hw,Instr.field,run_underlying h1,h2,asAgg,part,YFe h4,h5,h3,Array.getElem?_eq_getElem hi]
end
section
variable {P:Program} {t e:TypeId} {z:Value} {sz b:Nat}
theorem YHo (h:(P.info? t).map (fun i=>(i.zero,i.size,i.bytes))=some (some z,sz,b)) : ∃ i,P.info? t=some i∧i.zero=some z∧i.size=sz∧i.bytes=b:=by
 cases hi:P.info? t with
 | none=>rw [hi] at h; cases h
 | some i=>
  rw [hi] at h
  simp only [Option.map_some,Option.some.injEq,Prod.mk.injEq] at h
  exact ⟨i,rfl,h.1,h.2.1,h.2.2⟩
theorem YAr.of (h1:P.underlying t=some (.slice e)) (h2:(P.info? e).map (fun i=>(i.zero,i.size,i.bytes))=some (some z,sz,b)) (h3:z.cells.size=sz) (h4:z.cells.toList.all Value.oneCell'=true) (h5:0<sz):YAr P t e sz b:=by
 obtain ⟨i,k1,k2,k3,k4⟩:=YHo h2
 exact ⟨h1,i,z,k1,k3,k4,k2,h3,fun u hu=>List.all_eq_true.1 h4 u hu,h5⟩
theorem YAx.of {d:TypeDesc} (h1:P.underlying t=some d) (h2:Scal d=true) (h3:(P.info? t).map (fun i=>(i.zero,i.size,i.bytes))=some (some z,1,b)):YAx P t:=by
 obtain ⟨i,k1,_,k3,_⟩:=YHo h3
 exact ⟨d,i,h1,h2,k1,k3⟩
theorem YBq.of {d:TypeDesc} (h1:P.underlying t=some d) (h2:Scal d=false) (h3:(P.info? t).map (fun i=>(i.zero,i.size,i.bytes))=some (some z,sz,b)):YBq P t sz:=by
 obtain ⟨i,k1,_,k3,_⟩:=YHo h3
 exact ⟨d,i,h1,h2,k1,k3⟩
theorem YCW (h3:(P.info? t).map (fun i=>(i.zero,i.size,i.bytes))=some (some z,sz,b)) : ∃ i,P.info? t=some i∧i.size=sz:=by
 obtain ⟨i,k1,_,k3,_⟩:=YHo h3
 exact ⟨i,k1,k3⟩
theorem YCB.of (h3:(P.info? t).map (fun i=>(i.zero,i.size,i.bytes))=some (some z,sz,b)):YCB P t z:=by
 obtain ⟨i,k1,k2,_,_⟩:=YHo h3
 exact ⟨i,k1,k2⟩
theorem ZRow.of {zrow:List RV} (h3:(P.info? t).map (fun i=>(i.zero,i.size,i.bytes))=some (some z,sz,b)) (h:YMX (YHI z)=some zrow):ZRow P t zrow:=by
 obtain ⟨i,k1,k2,_,_⟩:=YHo h3
 exact ⟨i,z,k1,k2,h⟩
theorem YAF.of {fs:Array Field} {fl:Field} {f off:Nat} (h1:P.underlying t=some (.struct fs)) (h2:fs[f]? = some fl) (h3:fl.offset=off) (h4:(P.info? fl.type).map (fun i=>(i.zero,i.size,i.bytes))=some (some z,sz,b)) (h5:sz≠0):YAF P t f off:=by
 obtain ⟨i,k1,_,k3,_⟩:=YHo h4
 exact ⟨fs,fl,i,h1,h2,h3,k1,by rw [k3]; exact h5⟩
theorem YL7.of {fs:Array Field} {fl:Field} {d:TypeDesc} {f off:Nat} (h1:P.underlying t=some (.struct fs)) (h2:fs[f]? = some fl) (h3:fl.offset=off) (h4:P.underlying fl.type=some d) (h5:Scal d=true):YL7 P t f off:=⟨fs,fl,d,h1,h2,h3,h4,h5⟩
theorem YCA.of {fs:Array Field} {places:List (Nat × Nat)} {zs:List Value} (h1:P.underlying t=some (.struct fs)) (h2 : ∀ w,(fs.mapM (m:=Sem) fun f=>do pure (f.offset,← sizeOf f.type)).run P w = .ok places.toArray w)
  (h3:(P.info? t).map (fun i=>(i.zero,i.size,i.bytes))=some (some (.agg zs.toArray),sz,b)):YCA P t places zs:=by
 obtain ⟨i,k1,k2,_,_⟩:=YHo h3
 exact ⟨fs,h1,h2,i,k1,k2⟩
end
theorem YSM {P:Program} {c:Bool} {o:Oper} {R:Env} {h:Heap} {α:Type} {t:TypeId} {e:TypeId} {sz:Nat} {x:Operand} {l:List α} {f:α→List RV} (ho:o.op = .call { callee:=.builtin .len,args:=#[x],argTypes:=#[t] }) (ht:YEU P t e sz)
  (hx:Ev c R x (.r (.sl (l.map f)))):OpQ P c o R h (.r (.int .i64 l.length)):=by
 have:=YOz (h:=h) ho ht hx
 rwa [List.length_map] at this
theorem YQM {P:Program} {c:Bool} {o:Oper} {R:Env} {h:Heap} {α:Type} {t:TypeId} {e e':TypeId} {sz sz':Nat} {x:Operand} {id g:Nat} {l:List α} {f:α→List RV} (ho:o.op = .call { callee:=.builtin .len,args:=#[x],argTypes:=#[t] })
  (ht:YEU P t e sz) (hx:Ev c R x (.own id g)) (hh:hget h id=some (.arr g e' sz' (l.map f))):OpQ P c o R h (.r (.int .i64 l.length)):=by
 have:=YMz ho ht hx hh
 rwa [List.length_map] at this
theorem YO8 {x:Cx} {b:Bool} {v:Value} (h:YAN x (.r (.bool b)) v):v = .bool b:=by
 cases h with
 | r h=>cases h; rfl
theorem YO0 {P:Program} {c:Bool} {o:Oper} {R:Env} {h:Heap} {op:BinOp} {t t':TypeId} {x y:Operand} {m n:Bool} {v:RV} {u:Value} (ho:o.op = .binOp op t x y t') (hx:Ev c R x (.r (.bool m))) (hy:Ev c R y (.r (.bool n)))
  (hr : ∀ w,(binOp op t (.bool m) (.bool n)).run P w = .ok u w) (hu : ∀ w S,RRep w S v u):OpQ P c o R h (.r v):=by
 intro hc z a _ _ he
 refine ⟨u,fun w2 hag=>?_,.r (hu _ _)⟩
 unfold execOp
 rw [ho]
 simp only [YO8 (hx.rep he hc),YO8 (hy.rep he hc),eqGuard_at_bool]
 simp [hr]
theorem YTX {P:Program} {c:Bool} {o:Oper} {R:Env} {h:Heap} {t t':TypeId} {x y:Operand} {m n:Bool} (ho:o.op = .binOp .eql t x y t') (ht:P.underlying t=some .bool) (hx:Ev c R x (.r (.bool m))) (hy:Ev c R y (.r (.bool n))) :
  OpQ P c o R h (.r (.bool (m == n))):=YO0 ho hx hy (fun w=>by simp [binOp,run_equal_bool _ t m n ht]) (fun _ _=>.bool _)
theorem YQN {P:Program} {c:Bool} {o:Oper} {R:Env} {h:Heap} {t t':TypeId} {x y:Operand} {m n:Bool} (ho:o.op = .binOp .neq t x y t') (ht:P.underlying t=some .bool) (hx:Ev c R x (.r (.bool m))) (hy:Ev c R y (.r (.bool n))) :
  OpQ P c o R h (.r (.bool (!(m == n)))):=YO0 ho hx hy (fun w=>by simp [binOp,run_equal_bool _ t m n ht]) (fun _ _=>.bool _)
open Go.ChangeShapes Go.WideShapes Go.Deep Go.WideElems
def Cx.start (W:World):Cx:={ w:=W,S:=fun b=>b<W.heap.size,F:=fun _=>False,H:=fun _=>none,β:=fun _=>none,n:=0 }
theorem Cx.start_ok (W:World) (ht:YGi (Cx.start W)):(Cx.start W).ok:=
 ⟨fun _ h=>h,fun _ h=>h.elim,fun _ _ h=>h,(fun _ _ h=>by cases h),(fun _ _ _ _ h=>by cases h),(fun _ _ _ _ _ _ _ h=>by cases h),ht⟩
theorem YLR {W:World} {y:Cx} (h:(Cx.start W).le y) {b:Nat} (hb:b<W.heap.size):y.w.heap[b]? = W.heap[b]?:=h.blk b (.inl hb)
section
variable {H:Type} {enc:TypeId × Value→H} {P:Program} {W:World}
def YPu (W:World) (cs:List Value) (rs:List RV):Prop:=
 cs.length=rs.length ∧ ∀ (j:Nat) (d:RV) (u:Value),rs[j]? = some d→cs[j]? = some u→RRep W (· < W.heap.size) d u
theorem YPu.one {d:RV} {u:Value} (h:RRep W (· < W.heap.size) d u):YPu W [u] [d]:=by
 refine ⟨rfl,fun j d' u' h1 h2=>?_⟩
 cases j with
 | zero=>simp at h1 h2; subst h1; subst h2; exact h
 | succ j=>simp at h1
theorem YIq {α:Type} {Q:Nat→α→Prop} (n:Nat) (h : ∀ i,i<n → ∃ b,Q i b) : ∃ l:List α,l.length=n ∧ ∀ i b,l[i]? = some b→Q i b:=by
 induction n with
 | zero=>exact ⟨[],rfl,fun i b h=>by simp at h⟩
 | succ k ih=>
  obtain ⟨l,h1,h3⟩:=ih (fun i hi=>h i (by omega))
  obtain ⟨b,h4⟩:=h k (by omega)
  refine ⟨l++[b],by simp [h1],fun i b' hb'=>?_⟩
  rcases Nat.lt_or_ge i l.length with hil | hil
  ·rw [List.getElem?_append_left hil] at hb'; exact h3 i b' hb'
  ·rw [List.getElem?_append_right hil] at hb'
   have:i=l.length:=by
    have:=(List.getElem?_eq_some_iff.1 hb').1
    simp at this; omega
   subst this
   simp at hb'; subst hb'
   rw [h1]; exact h4
theorem YIx (hl:laidOutB P=true) {W':World} {sp':Nat→Bool} : ∀ {ts:List TypeId} {vs:List Value} {ds:List (DataW H)} {ps:List MemPlace},(∀ t∈ts,P.readableRec t=true∧t<P.types.size) →
  DataW.TrodAll enc P W 0 (fun _=>true) true ts vs ds ps→(∀ p∈ps,W.sameAt W' p)→(∀ p∈ps,sp' p.block=true)→DataW.TrodAll enc P W' 0 sp' true ts vs ds ps
 | [],[],[],_,_,h,_,_=>h
 | t :: _,_ :: _,_ :: _,_,hT,⟨p,q,h1,h2,e⟩,hs,hsp=>
  ⟨p,q,Trod_stays hl (hT t (List.mem_cons.2 (.inl rfl))).1 (hT t (List.mem_cons.2 (.inl rfl))).2 h1 (fun x hx=>hs x (by rw [e]; exact List.mem_append_left _ hx)) (fun x hx=>hsp x (by rw [e]; exact List.mem_append_left _ hx)),
   YIx hl (fun t ht=>hT t (List.mem_cons.2 (.inr ht))) h2 (fun x hx=>hs x (by rw [e]; exact List.mem_append_right _ hx)) (fun x hx=>hsp x (by rw [e]; exact List.mem_append_right _ hx)),e⟩
theorem YSK {y:Cx} (h:(Cx.start W).le y) {p:MemPlace} (hp:p.block<W.heap.size):W.sameAt y.w p:=by
 cases p with
 | cell b off=>exact World.cell?_of_block (YLR h hp)
 | map b=>exact YLR h hp
theorem YSL {y:Cx} (h:(Cx.start W).le y) (may:MemPlace→Prop):W.keptBut y.w may:=by
 refine ⟨h.os,h.output,fun i hi=>?_⟩
 have:=(World.keptBut_refl W may).2.2 i hi
 rw [YLR h hi]
 exact this
theorem YUv {f:Func} {s:ChangeSpec} {args:Array Value} {v:Value} {ds gs:List (DataW H)} {before:List MemPlace} {y:Cx} (hl:laidOutB P=true) (hts : ∀ t∈f.params.toList,P.readableRec t=true∧t<P.types.size) (hsv:s.vars=[])
  (hW:DataW.Whole enc P f.params.toList s.vars false W args.toList ds gs before) (hle:(Cx.start W).le y) (hargs:(s.fn H (ds++gs)).args=ds) (hvars:(s.fn H (ds++gs)).vars=[])
  (hres : ∀ (b:Nat) (sp:Nat→Bool) (hd:Bool),DataW.TrodAll enc P y.w b sp hd f.resultTypes.toList (v.resultList f.resultTypes.size) (s.fn H (ds++gs)).results []):s.post enc P f false true false false W args v y.w:=by
 have hW':=hW
 obtain ⟨p,q,hA,hV,rfl,_,_⟩:=hW
 rw [hsv] at hV
 obtain ⟨rfl,rfl⟩:=trodVars_none hV
 have hlt : ∀ x∈p,x.block<W.heap.size:=DataW.TrodAll.lt hA
 refine ⟨ds,[],p++[],[],p,[],hW',hres _ _ _,?_,?_,YSL hle _,fun h=>by cases h⟩
 ·rw [hargs]
  exact YIx hl hts hA (fun x hx=>YSK hle (hlt x hx)) (fun x hx=>by simpa using hlt x hx)
 ·rw [hsv,hvars]; rfl
end
end Go.Proofs.YtkefchjpggjibaaGreatDoor.Al

namespace Go.Proofs.YtkefchjpggjibaaGreatDoor.Al
def rid (L:List Nat) (i:Nat):Nat:=L.getD (i-1000) 0
mutual
def ren (L:List Nat):AV→AV
 | .own id g=>.own (rid L id) g
 | .ptr id g i k=>.ptr (rid L id) g i k
 | .mref id g=>.mref (rid L id) g
 | .yld id g=>.yld (rid L id) g
 | .full xs=>.full xs
 | .agg cs=>.agg (renL L cs)
 | .tup cs=>.tup (renL L cs)
 | .fn f cs=>.fn f (renL L cs)
 | .r d=>.r d
 | .rop row k=>.rop row k
 | .cst v=>.cst v
 | .whn b v=>.whn b v
 | .any=>.any
def renL (L:List Nat):List AV→List AV
 | []=>[]
 | a :: l=>ren L a :: renL L l
end
mutual
def AV.canon (k:Nat):AV→Bool
 | .own id _=>Nat.ble 1000 id && Nat.blt id (1000+k)
 | .ptr id _ _ _=>Nat.ble 1000 id && Nat.blt id (1000+k)
 | .agg cs=>YIR k cs
 | .tup cs=>YIR k cs
 | .fn _ cs=>YIR k cs
 | .whn _ _=>false
 | .mref _ _=>false
 | .yld _ _=>false
 | .full _=>false
 | .r _=>true
 | .rop _ _=>true
 | .cst _=>true
 | .any=>true
def YIR (k:Nat):List AV→Bool
 | []=>true
 | a :: l=>a.canon k && YIR k l
end
def AObj.ren (L:List Nat):AObj→AObj
 | .arr g e sz xs=>.arr g e sz xs
 | .box g e cs=>.box g e (renL L cs)
 | .hot g e xs k id g'=>.hot g e xs k id g'
 | .it g s pos=>.it g s pos
 | .mp g ks vs clock=>.mp g ks vs clock
 | .mi g mid mg since seen last=>.mi g mid mg since seen last
 | .lp g e N ps a b st p=>.lp g e N ps a b st p
def AObj.canon (k:Nat):AObj→Bool
 | .arr _ _ _ _=>true
 | .box _ _ cs=>YIR k cs
 | .hot _ _ _ _ _ _=>false
 | .it _ _ _=>false
 | .mp _ _ _ _=>false
 | .mi _ _ _ _ _ _=>false
 | .lp _ _ _ _ _ _ _ _=>false
theorem YB4 (L:List Nat) (l:List AV):(renL L l).length=l.length:=by
 induction l with
 | nil=>rfl
 | cons a l ih=>simp [renL,ih]
theorem YFH (L:List Nat) (l:List AV) (i:Nat):(renL L l)[i]? = (l[i]?).map (ren L):=by
 induction l generalizing i with
 | nil=>simp [renL]
 | cons a l ih=>cases i with
  | zero=>simp [renL]
  | succ i=>simp [renL,ih]
theorem YDS {k:Nat} {cs:List AV} (h:YIR k cs=true) {i:Nat} {a:AV} (hi:cs[i]? = some a):a.canon k=true:=by
 induction cs generalizing i with
 | nil=>simp at hi
 | cons b l ih=>
  simp only [YIR,Bool.and_eq_true] at h
  cases i with
  | zero=>simp at hi; subst hi; exact h.1
  | succ i=>exact ih h.2 (by simpa using hi)
theorem AObj.ren_gen (L:List Nat) (o:AObj):(o.ren L).gen=o.gen:=by cases o <;> rfl
theorem AObj.ren_shape (L:List Nat) (o:AObj):(o.ren L).shape=o.shape:=by cases o <;> simp [AObj.ren,AObj.shape,YB4]
def YJ0 (x:Cx) (i:Nat) (y:Cx) (j:Nat):Prop:=∀ o,x.H i=some o → ∃ o2,y.H j=some o2∧o2.gen=o.gen∧o2.shape=o.shape∧y.β j=x.β i
theorem YTn {x y:Cx} {L:List Nat} {k:Nat} (hw:y.w=x.w) (hS : ∀ b,x.S b→y.S b) (hn:x.n≤y.n) (hH : ∀ id,1000≤id→id<1000+k→YJ0 y (rid L id) x id) {a:AV} {v:Value} (hv:YAN x a v) (ha:a.canon k=true) :
  YAN y (ren L a) v:=by
 have hb : ∀ b,x.S b→y.w.heap[b]? = x.w.heap[b]?:=fun _ _=>by rw [hw]
 induction hv with
 | r h=>exact .r (h.mono hb hS)
 | cst v=>exact .cst v
 | any v=>exact .any v
 | rop u h1 h2 h3=>exact .rop u (fun h=>hS _ (h1 h)) (fun j d hj=>by rw [hw]; exact h2 j d hj) (fun j d hj=>(h3 j d hj).mono hb hS)
 | agg hl _ ih=>
  simp only [AV.canon] at ha
  refine .agg (by rw [YB4]; exact hl) fun i c u h1 h2=>?_
  rw [YFH,Option.map_eq_some_iff] at h1
  obtain ⟨c0,h3,rfl⟩:=h1
  exact ih i c0 u h3 h2 (YDS ha h3)
 | tup hl _ ih=>
  simp only [AV.canon] at ha
  refine .tup (by rw [YB4]; exact hl) fun i c u h1 h2=>?_
  rw [YFH,Option.map_eq_some_iff] at h1
  obtain ⟨c0,h3,rfl⟩:=h1
  exact ih i c0 u h3 h2 (YDS ha h3)
 | fn hl _ ih=>
  simp only [AV.canon] at ha
  refine .fn (by rw [YB4]; exact hl) fun i c u h1 h2=>?_
  rw [YFH,Option.map_eq_some_iff] at h1
  obtain ⟨c0,h3,rfl⟩:=h1
  exact ih i c0 u h3 h2 (YDS ha h3)
 | own hg h1 ho=>
  simp only [AV.canon,Bool.and_eq_true,Nat.ble_eq,Nat.blt_eq] at ha
  refine .own (Nat.lt_of_lt_of_le hg hn) h1 fun o hoo hgen=>?_
  obtain ⟨o2,k1,k2,k3,k4⟩:=hH _ ha.1 ha.2 o hoo
  rw [← k4,← k3]
  exact ho o2 k1 (k2.trans hgen)
 | ptr hg h1 ho=>
  simp only [AV.canon,Bool.and_eq_true,Nat.ble_eq,Nat.blt_eq] at ha
  refine .ptr (Nat.lt_of_lt_of_le hg hn) h1 fun o hoo hgen=>?_
  obtain ⟨o2,k1,k2,k3,k4⟩:=hH _ ha.1 ha.2 o hoo
  rw [← k4,← k3]
  exact ho o2 k1 (k2.trans hgen)
 | whn _ _ _=>simp [AV.canon] at ha
 | mref _ _ _=>simp [AV.canon] at ha
 | yld _ _ _=>simp [AV.canon] at ha
 | full _ _=>simp [AV.canon] at ha
theorem YWw {x y:Cx} {L:List Nat} {k:Nat} (hw:y.w=x.w) (hS : ∀ b,x.S b→y.S b) (hn:x.n≤y.n) (hH : ∀ id,1000≤id→id<1000+k→YJ0 y id x (rid L id)) {b:AV} {v:Value} (hv:YAN x b v) :
  ∀ a:AV,ren L a=b→a.canon k=true→YAN y a v:=by
 have hb : ∀ b,x.S b→y.w.heap[b]? = x.w.heap[b]?:=fun _ _=>by rw [hw]
 induction hv with
 | r h=>intro a he ha; cases a <;> simp only [ren,reduceCtorEq] at he <;> cases he; exact .r (h.mono hb hS)
 | cst v=>intro a he ha; cases a <;> simp only [ren,reduceCtorEq] at he <;> cases he; exact .cst v
 | any v=>intro a he ha; cases a <;> simp only [ren,reduceCtorEq] at he; exact .any v
 | rop u h1 h2 h3=>
  intro a he ha; cases a <;> simp only [ren,reduceCtorEq] at he <;> cases he
  exact .rop u (fun h=>hS _ (h1 h)) (fun j d hj=>by rw [hw]; exact h2 j d hj) (fun j d hj=>(h3 j d hj).mono hb hS)
 | agg hl _ ih=>
  intro a he ha; cases a <;> simp only [ren,reduceCtorEq] at he <;> cases he
  rename_i cs
  simp only [AV.canon] at ha
  rw [YB4] at hl
  exact .agg hl fun i c u h1 h2=>ih i _ u (by rw [YFH,h1]; rfl) h2 c rfl (YDS ha h1)
 | tup hl _ ih=>
  intro a he ha; cases a <;> simp only [ren,reduceCtorEq] at he <;> cases he
  rename_i cs
  simp only [AV.canon] at ha
  rw [YB4] at hl
  exact .tup hl fun i c u h1 h2=>ih i _ u (by rw [YFH,h1]; rfl) h2 c rfl (YDS ha h1)
 | fn hl _ ih=>
  intro a he ha; cases a <;> simp only [ren,reduceCtorEq] at he <;> cases he
  rename_i cs
  simp only [AV.canon] at ha
  rw [YB4] at hl
  exact .fn hl fun i c u h1 h2=>ih i _ u (by rw [YFH,h1]; rfl) h2 c rfl (YDS ha h1)
 | own hg h1 ho=>
  intro a he ha; cases a <;> simp only [ren,reduceCtorEq] at he <;> cases he
  simp only [AV.canon,Bool.and_eq_true,Nat.ble_eq,Nat.blt_eq] at ha
  refine .own (Nat.lt_of_lt_of_le hg hn) h1 fun o hoo hgen=>?_
  obtain ⟨o2,k1,k2,k3,k4⟩:=hH _ ha.1 ha.2 o hoo
  rw [← k4,← k3]
  exact ho o2 k1 (k2.trans hgen)
 | ptr hg h1 ho=>
  intro a he ha; cases a <;> simp only [ren,reduceCtorEq] at he <;> cases he
  simp only [AV.canon,Bool.and_eq_true,Nat.ble_eq,Nat.blt_eq] at ha
  refine .ptr (Nat.lt_of_lt_of_le hg hn) h1 fun o hoo hgen=>?_
  obtain ⟨o2,k1,k2,k3,k4⟩:=hH _ ha.1 ha.2 o hoo
  rw [← k4,← k3]
  exact ho o2 k1 (k2.trans hgen)
 | whn _ _ _=>intro a he ha; cases a <;> simp only [ren,reduceCtorEq] at he <;> cases he; simp [AV.canon] at ha
 | mref _ _ _=>intro a he ha; cases a <;> simp only [ren,reduceCtorEq] at he <;> cases he; simp [AV.canon] at ha
 | yld _ _ _=>intro a he ha; cases a <;> simp only [ren,reduceCtorEq] at he <;> cases he; simp [AV.canon] at ha
 | full _ _=>intro a he ha; cases a <;> simp only [ren,reduceCtorEq] at he <;> cases he; simp [AV.canon] at ha
def YJY (h:Heap) (L:List Nat):Heap→Prop
 | []=>True
 | (id,some o) :: r=>(Nat.ble 1000 id && Nat.blt id (1000+L.length))=true∧hget h (rid L id)=some (o.ren L)∧o.canon L.length=true∧YJY h L r
 | (_,none) :: _=>False
theorem YJY.get {h:Heap} {L:List Nat} {hc:Heap} (hs:YJY h L hc) {id:Nat} {o:AObj} (ho:hget hc id=some o):1000≤id∧id<1000+L.length∧hget h (rid L id)=some (o.ren L)∧o.canon L.length=true:=by
 induction hc with
 | nil=>cases ho
 | cons p r ih=>
  obtain ⟨d,v⟩:=p
  rw [YAb] at ho
  cases v with
  | none=>exact hs.elim
  | some o1=>
   obtain ⟨h1,h2,h3,h4⟩:=hs
   split at ho
   ·rename_i hd; subst hd; cases ho
    simp only [Bool.and_eq_true,Nat.ble_eq,Nat.blt_eq] at h1
    exact ⟨h1.1,h1.2,h2,h3⟩
   ·exact ih h4 ho
def YJS (k:Nat):Heap→Bool
 | []=>true
 | (id,some o) :: r=>Nat.ble 1000 id && Nat.blt id (1000+k) && o.canon k && YJS k r
 | (_,none) :: r=>YJS k r
theorem YSu {k:Nat} {h:Heap} (hs:YJS k h=true) {id:Nat} {o:AObj} (ho:hget h id=some o):1000≤id∧id<1000+k∧o.canon k=true:=by
 induction h with
 | nil=>cases ho
 | cons p r ih=>
  obtain ⟨d,v⟩:=p
  rw [YAb] at ho
  cases v with
  | none=>
   split at ho
   ·cases ho
   ·exact ih hs ho
  | some o1=>
   simp only [YJS,Bool.and_eq_true,Nat.ble_eq,Nat.blt_eq] at hs
   split at ho
   ·rename_i hd; subst hd; cases ho; exact ⟨hs.1.1.1,hs.1.1.2,hs.1.2⟩
   ·exact ih hs.2 ho
def AHC (P:Program) (f:FuncId) (k:Nat) (args:List AV) (h:Heap) (Post:AV→Heap→Prop):Prop:=
 YID P f ∧ ∀ (x:Cx) (vs:Array Value),x.ok→x.H=hget h→YGF x args vs.toList →
  Calls P f vs x.w fun e w'=>∃ u y r h',e = .returned u∧y.w=w'∧x.le y∧y.ok∧y.H=hget h'∧YAN y r u∧r.canon k=true∧YJS k h'=true∧Post r h'
def YMj (L:List Nat) (hc:Heap):Nat→List Nat→Heap
 | _,[]=>[]
 | j,id :: r=>(id,(hget hc j).map (AObj.ren L)) :: YMj L hc (j+1) r
theorem YPS (L:List Nat) (hc h:Heap) (M:List Nat) : ∀ (j i:Nat),hget (YMj L hc j M++h) i=if i∈M then (hget hc (j+M.idxOf i)).map (AObj.ren L) else hget h i:=by
 induction M with
 | nil=>intro j i; simp [YMj]
 | cons m M ih=>
  intro j i
  simp only [YMj,List.cons_append,YAb,List.mem_cons]
  by_cases hi:m=i
  ·subst hi; simp
  ·rw [if_neg hi,ih]
   have hi' : ¬ i=m:=fun e=>hi e.symm
   simp only [hi',false_or]
   split
   ·rw [List.idxOf_cons,show (m == i)=false from by simpa using hi,cond_false,show j+1+M.idxOf i=j+(M.idxOf i+1) by omega]
   ·rfl
def cid (L:List Nat) (i:Nat):Nat:=1000+L.idxOf i
theorem YNp {L:List Nat} {i:Nat} (h:i∈L):rid L (cid L i)=i:=by
 have hl:=List.idxOf_lt_length_of_mem h
 simp [rid,cid,List.getD,List.getElem?_eq_getElem hl]
theorem YTh {L:List Nat} {i:Nat} (h1:1000≤i) (h2:i<1000+L.length):rid L i∈L:=by
 have hl:i-1000<L.length:=by omega
 simp only [rid,List.getD,List.getElem?_eq_getElem hl,Option.getD_some]
 exact List.getElem_mem hl
theorem YOU {L:List Nat} (hnd:L.Nodup) {i:Nat} (h1:1000≤i) (h2:i<1000+L.length):cid L (rid L i)=i:=by
 have hl:i-1000<L.length:=by omega
 simp only [rid,List.getD,List.getElem?_eq_getElem hl,Option.getD_some,cid]
 rw [hnd.idxOf_getElem]
 omega
def Cx.view (z:Cx) (L:List Nat) (hc:Heap):Cx:=
 { w:=z.w,S:=z.S,F:=fun b=>z.F b ∨ ∃ id o k,id ∉ L∧z.H id=some o∧z.β id=some (b,k),H:=hget hc,β:=fun i=>z.β (rid L i),n:=z.n }
theorem YQ3 {x y:Cx} {L:List Nat} {k:Nat} (hw:y.w=x.w) (hS : ∀ b,x.S b→y.S b) (hn:x.n≤y.n) (hH : ∀ id,1000≤id→id<1000+k→YJ0 y id x (rid L id)) {β:Option (Nat × Nat)} {o:AObj} (ho:ORep x β (o.ren L)) (hc:o.canon k=true):ORep y β o:=by
 have hb : ∀ b,x.S b→y.w.heap[b]? = x.w.heap[b]?:=fun _ _=>by rw [hw]
 cases o with
 | arr g e sz xs=>
  obtain ⟨h0,h1,hdr,us,h2,h3,h4⟩:=ho
  exact ⟨h0,h1,hdr,us,h2,by rw [hw]; exact h3,fun i row c d k1 k2=>by obtain ⟨u,k3,k4⟩:=h4 i row c d k1 k2; exact ⟨u,k3,k4.mono hb hS⟩⟩
 | box g e cs=>
  obtain ⟨b,cur,h1,h2,h3,h4⟩:=ho
  refine ⟨b,cur,h1,by rw [hw]; exact h2,by rw [h3,YB4],fun j c hj=>?_⟩
  obtain ⟨u,k1,k2,k3⟩:=h4 j (ren L c) (by rw [YFH,hj]; rfl)
  exact ⟨u,k1,k2,YWw hw hS hn hH k3 c rfl (YDS hc hj)⟩
 | hot g e xs k id g'=>cases hc
 | it g s pos=>cases hc
 | mp g ks vs clock=>cases hc
 | mi g mid mg since seen last=>cases hc
 | lp g e N ps a b st p=>cases hc
theorem YPv {x y:Cx} {L:List Nat} {k:Nat} (hw:y.w=x.w) (hS : ∀ b,x.S b→y.S b) (hn:x.n≤y.n) (hH : ∀ id,1000≤id→id<1000+k→YJ0 y (rid L id) x id) {β:Option (Nat × Nat)} {o:AObj} (ho:ORep x β o) (hc:o.canon k=true):ORep y β (o.ren L):=by
 have hb : ∀ b,x.S b→y.w.heap[b]? = x.w.heap[b]?:=fun _ _=>by rw [hw]
 cases o with
 | arr g e sz xs=>
  obtain ⟨h0,h1,hdr,us,h2,h3,h4⟩:=ho
  exact ⟨h0,h1,hdr,us,h2,by rw [hw]; exact h3,fun i row c d k1 k2=>by obtain ⟨u,k3,k4⟩:=h4 i row c d k1 k2; exact ⟨u,k3,k4.mono hb hS⟩⟩
 | box g e cs=>
  obtain ⟨b,cur,h1,h2,h3,h4⟩:=ho
  refine ⟨b,cur,h1,by rw [hw]; exact h2,by rw [h3,YB4],fun j c hj=>?_⟩
  rw [YFH,Option.map_eq_some_iff] at hj
  obtain ⟨c0,hj,rfl⟩:=hj
  obtain ⟨u,k1,k2,k3⟩:=h4 j c0 hj
  exact ⟨u,k1,k2,YTn hw hS hn hH k3 (YDS hc hj)⟩
 | hot g e xs k id g'=>cases hc
 | it g s pos=>cases hc
 | mp g ks vs clock=>cases hc
 | mi g mid mg since seen last=>cases hc
 | lp g e N ps a b st p=>cases hc
theorem YOq {z:Cx} {h:Heap} {L:List Nat} {hc:Heap} (hH:z.H=hget h) (hs:YJY h L hc) : ∀ id,1000≤id→id<1000+L.length→YJ0 (z.view L hc) id z (rid L id):=by
 intro id _ _ o ho
 obtain ⟨_,_,h3,_⟩:=hs.get ho
 exact ⟨o.ren L,by rw [hH]; exact h3,AObj.ren_gen L o,AObj.ren_shape L o,rfl⟩
theorem YXF {z:Cx} {h:Heap} {L:List Nat} {hc:Heap} (hok:z.ok) (hH:z.H=hget h) (hs:YJY h L hc) (hnd:L.Nodup):(z.view L hc).ok:=by
 refine ⟨hok.S_lt,fun b hb=>?_,fun b hb hf=>?_,fun id o ho=>?_,fun id o b k ho hb=>?_,fun id id' o o' b k k' ho ho' hb hb'=>?_,hok.tabs.same rfl (fun _ h=>h)⟩
 ·rcases hb with hb | ⟨id,o,k,_,h1,h2⟩
  ·exact hok.F_lt b hb
  ·exact (hok.own id o b k h1 h2).1
 ·rcases hf with hf | ⟨id,o,k,_,h1,h2⟩
  ·exact hok.SF b hb hf
  ·exact (hok.own id o b k h1 h2).2.1 hb
 ·obtain ⟨h1,h2,h3,h4⟩:=hs.get ho
  obtain ⟨k1,k2⟩:=hok.obj _ _ (by rw [hH]; exact h3)
  exact ⟨by rwa [AObj.ren_gen] at k1,YQ3 (x:=z) (y:=z.view L hc) (k:=L.length) rfl (fun _ h=>h) (Nat.le_refl _) (YOq hH hs) k2 h4⟩
 ·obtain ⟨h1,h2,h3,h4⟩:=hs.get ho
  obtain ⟨k1,k2,k3⟩:=hok.own _ _ b k (by rw [hH]; exact h3) hb
  refine ⟨k1,k2,?_⟩
  rintro (hf | ⟨i2,o2,k',hn2,e1,e2⟩)
  ·exact k3 hf
  ·exact hn2 (hok.inj _ _ _ _ b k k' (by rw [hH]; exact h3) e1 hb e2 ▸ YTh h1 h2)
 ·obtain ⟨h1,h2,h3,_⟩:=hs.get ho
  obtain ⟨h1',h2',h3',_⟩:=hs.get ho'
  have:=hok.inj _ _ _ _ b k k' (by rw [hH]; exact h3) (by rw [hH]; exact h3') hb hb'
  rw [← YOU hnd h1 h2,this,YOU hnd h1' h2']
def Cx.back (z y:Cx) (L:List Nat) (hc h:Heap):Cx:=
 { w:=y.w,S:=y.S,F:=z.F,H:=hget (YMj L hc 1000 L++h),β:=fun i=>if i∈L then y.β (cid L i) else z.β i,n:=y.n }
theorem YPp {z y:Cx} {h hc:Heap} {L:List Nat} (hnd:L.Nodup) (hyH:y.H=hget hc) : ∀ id,1000≤id→id<1000+L.length→YJ0 (z.back y L hc h) (rid L id) y id:=by
 intro id h1 h2 o ho
 have hm:=YTh h1 h2
 have ho':hget (YMj L hc 1000 L++h) (rid L id)=some o:=ho
 rw [YPS,if_pos hm,show 1000+L.idxOf (rid L id)=cid L (rid L id) from rfl,YOU hnd h1 h2,Option.map_eq_some_iff] at ho'
 obtain ⟨o2,k1,rfl⟩:=ho'
 refine ⟨o2,by rw [hyH]; exact k1,(AObj.ren_gen L o2).symm,(AObj.ren_shape L o2).symm,?_⟩
 show y.β id=if rid L id∈L then y.β (cid L (rid L id)) else _
 rw [if_pos hm,YOU hnd h1 h2]
theorem YU3 {z y:Cx} {h hc hc':Heap} {L:List Nat} (hok:z.ok) (hH:z.H=hget h) (hs:YJY h L hc) (hnd:L.Nodup) (hle:(z.view L hc).le y) (hyok:y.ok) (hyH:y.H=hget hc') (hcan:YJS L.length hc'=true) :
  z.le (z.back y L hc' h)∧(z.back y L hc' h).ok:=by
 have hyF:y.F=(z.view L hc).F:=hle.F
 have hget' : ∀ i o,hget (YMj L hc' 1000 L++h) i=some o→(i∈L ∧ ∃ o2,hget hc' (cid L i)=some o2∧o=o2.ren L)∨(i ∉ L∧hget h i=some o):=by
  intro i o ho
  rw [YPS] at ho
  split at ho
  ·rename_i hi
   rw [Option.map_eq_some_iff] at ho
   obtain ⟨o2,k1,k2⟩:=ho
   exact .inl ⟨hi,o2,k1,k2.symm⟩
  ·rename_i hi; exact .inr ⟨hi,ho⟩
 have hble : ∀ id ob b k,id ∉ L→z.H id=some ob→z.β id=some (b,k)→y.F b:=fun id ob b k h1 h2 h3=>by rw [hyF]; exact .inr ⟨id,ob,k,h1,h2,h3⟩
 have hle2:z.le (z.back y L hc' h):=by
  refine ⟨hle.size,hle.os,hle.tape,hle.output,fun b hb=>hle.blk b (hb.imp id (fun h=>Or.inl h)),fun b h=>hle.S b h,rfl,hle.n,fun id o' ho' hg=>?_⟩
  rcases hget' id o' ho' with ⟨hi,o2,k1,rfl⟩ | ⟨hi,k1⟩
  ·rw [AObj.ren_gen] at hg
   obtain ⟨o,e1,e2,e3,e4⟩:=hle.H (cid L id) o2 (by rw [hyH]; exact k1) hg
   obtain ⟨_,_,e5,_⟩:=hs.get e1
   rw [YNp hi] at e5
   refine ⟨o.ren L,by rw [hH]; exact e5,by rw [AObj.ren_gen,AObj.ren_gen]; exact e2,by rw [AObj.ren_shape,AObj.ren_shape]; exact e3,?_⟩
   show (if id∈L then y.β (cid L id) else z.β id)=z.β id
   rw [if_pos hi,e4]
   show z.β (rid L (cid L id))=z.β id
   rw [YNp hi]
  ·refine ⟨o',by rw [hH]; exact k1,rfl,rfl,?_⟩
   show (if id∈L then y.β (cid L id) else z.β id)=z.β id
   rw [if_neg hi]
 refine ⟨hle2,hyok.S_lt,fun b hb=>Nat.lt_of_lt_of_le (hok.F_lt b hb) hle.size,fun b hb hf=>?_,fun id ob hob=>?_,fun id ob b k h1 h2=>?_,fun id id' o o' b k k' h1 h1' h2 h2'=>?_,hok.tabs.le hle2⟩
 ·exact hyok.SF b hb (by rw [hyF]; exact .inl hf)
 ·rcases hget' id ob hob with ⟨hi,o2,k1,rfl⟩ | ⟨hi,k1⟩
  ·obtain ⟨e1,e2⟩:=hyok.obj (cid L id) o2 (by rw [hyH]; exact k1)
   have hβ:(z.back y L hc' h).β id=y.β (cid L id):=if_pos hi
   rw [hβ,AObj.ren_gen]
   exact ⟨e1,YPv (x:=y) (y:=z.back y L hc' h) (k:=L.length) rfl (fun _ h=>h) (Nat.le_refl _) (YPp hnd hyH) e2 (YSu hcan k1).2.2⟩
  ·obtain ⟨e1,e2⟩:=hok.obj id ob (by rw [hH]; exact k1)
   have hβ:(z.back y L hc' h).β id=z.β id:=if_neg hi
   rw [hβ]
   exact ⟨Nat.lt_of_lt_of_le e1 hle.n,e2.mono hle2 fun b k hb=>hle.blk b (.inr (.inr ⟨id,ob,k,hi,by rw [hH]; exact k1,hb⟩))⟩
 ·rcases hget' id ob h1 with ⟨hi,o2,k1,rfl⟩ | ⟨hi,k1⟩
  ·have hβ:(z.back y L hc' h).β id=y.β (cid L id):=if_pos hi
   rw [hβ] at h2
   obtain ⟨e1,e2,e3⟩:=hyok.own (cid L id) o2 b k (by rw [hyH]; exact k1) h2
   exact ⟨e1,e2,fun hf=>e3 (by rw [hyF]; exact .inl hf)⟩
  ·have hβ:(z.back y L hc' h).β id=z.β id:=if_neg hi
   rw [hβ] at h2
   obtain ⟨e1,e2,e3⟩:=hok.own id ob b k (by rw [hH]; exact k1) h2
   exact ⟨Nat.lt_of_lt_of_le e1 hle.size,fun hs'=>hyok.SF b hs' (hble id ob b k hi (by rw [hH]; exact k1) h2),e3⟩
 ·have hβp : ∀ i,i∈L→(z.back y L hc' h).β i=y.β (cid L i):=fun i hi=>if_pos hi
  have hβn : ∀ i,i ∉ L→(z.back y L hc' h).β i=z.β i:=fun i hi=>if_neg hi
  rcases hget' id o h1 with ⟨hi,o2,k1,rfl⟩ | ⟨hi,k1⟩ <;> rcases hget' id' o' h1' with ⟨hi',o2',k1',rfl⟩ | ⟨hi',k1'⟩
  ·rw [hβp id hi] at h2; rw [hβp id' hi'] at h2'
   have:=hyok.inj _ _ _ _ b k k' (by rw [hyH]; exact k1) (by rw [hyH]; exact k1') h2 h2'
   rw [← YNp hi,this,YNp hi']
  ·rw [hβp id hi] at h2; rw [hβn id' hi'] at h2'
   exact absurd (hble id' o' b k' hi' (by rw [hH]; exact k1') h2') (hyok.own _ _ b k (by rw [hyH]; exact k1) h2).2.2
  ·rw [hβn id hi] at h2; rw [hβp id' hi'] at h2'
   exact absurd (hble id o b k hi (by rw [hH]; exact k1) h2) (hyok.own _ _ b k' (by rw [hyH]; exact k1') h2').2.2
  ·rw [hβn id hi] at h2; rw [hβn id' hi'] at h2'
   exact hok.inj _ _ _ _ b k k' (by rw [hH]; exact k1) (by rw [hH]; exact k1') h2 h2'
section
variable {P:Program} {ops:Array Oper} {rest:List Oper} {s:St} {K:St→Prop} {o:Oper}
def YNR (R:Env) (L:List Nat):List Operand→List AV→Prop
 | [],[]=>True
 | x :: xs,b :: bs=>((Ev true R x (ren L b)∧b.canon L.length=true)∨(Ev true R x (.cst (.slice none 0 0))∧b = .r (.sl [])))∧YNR R L xs bs
 | _,_=>False
theorem YNR.get {R:Env} {L:List Nat} {xs:List Operand} {bs:List AV} (hx:YNR R L xs bs) :
  xs.length=bs.length ∧ ∀ (i:Nat) (b:AV),bs[i]? = some b → ∃ x,xs[i]? = some x∧((Ev true R x (ren L b)∧b.canon L.length=true)∨(Ev true R x (.cst (.slice none 0 0))∧b = .r (.sl []))):=by
 induction xs generalizing bs with
 | nil=>cases bs with | nil=>exact ⟨rfl,by simp⟩ | cons _ _=>exact hx.elim
 | cons x l ih=>
  cases bs with
  | nil=>exact hx.elim
  | cons b m=>
   obtain ⟨h1,h2⟩:=ih hx.2
   refine ⟨by simp [h1],fun i c hi=>?_⟩
   cases i with
   | zero=>simp at hi; subst hi; exact ⟨x,rfl,hx.1⟩
   | succ i=>simpa using h2 i c (by simpa using hi)
theorem YU9 {f:FuncId} {fo:Operand} {xs:Array Operand} {ats:Array TypeId} {caps bs:List AV} {L:List Nat} {hc:Heap} {Post:AV→Heap→Prop} {R:Env} {h:Heap} {a:Act} {z:Cx}
  (ho:o.op = .call { callee:=.value fo,args:=xs,argTypes:=ats }) (hfo:Ev true R fo (.fn f (renL L caps))) (hcc:YIR L.length caps=true) (hx:YNR R L xs.toList bs) (hsh:YJY h L hc) (hnd:L.Nodup)
  (hcon:AHC P f L.length (bs++caps) hc Post) (hok:z.ok) (hH:z.H=hget h) (he:YCO z R a) (K:Act→World→Prop) (Q:Exit→Act→World→Prop)
  (hK : ∀ (u:Value) (y:Cx) (r:AV) (h':Heap),z.le y→y.ok→y.H=hget (YMj L h' 1000 L++h)→YAN y (ren L r) u→Post r h'→K (a.put o.dst u) y.w):o.wp P a z.w K Q:=by
 obtain ⟨hcall,hcon⟩:=hcon
 obtain ⟨hlen,hget'⟩:=hx.get
 have hv:=hfo.rep he rfl
 generalize hfv:a.eval fo=v at hv
 cases hv with
 | @fn _ _ us hl hall=>
  have hrun:=YHb hcall ho hfv z.w
  rw [YB4] at hl
  have hin : ∀ {b:AV} {u:Value},YAN z (ren L b) u→b.canon L.length=true→YAN (z.view L hc) b u:=fun {b u} h1 h2=>YWw (x:=z) (y:=z.view L hc) (L:=L) (k:=L.length) rfl (fun _ h=>h) (Nat.le_refl _) (YOq hH hsh) h1 b rfl h2
  have hargs:YGF (z.view L hc) (bs++caps) (xs.map a.eval++us).toList:=by
   refine ⟨by simp [hl]; simpa using hlen,fun i b u h1 h2=>?_⟩
   have h2':((xs.toList.map a.eval)++us.toList)[i]? = some u:=by simpa using h2
   by_cases hi:i<bs.length
   ·rw [List.getElem?_append_left hi] at h1
    obtain ⟨x,k1,k2⟩:=hget' i b h1
    rw [List.getElem?_append_left (by simp at hlen ⊢; omega),List.getElem?_map,k1] at h2'
    simp only [Option.map_some,Option.some.injEq] at h2'
    subst h2'
    rcases k2 with ⟨k2,k3⟩ | ⟨k2,rfl⟩
    ·exact hin (k2.rep he rfl) k3
    ·have:=k2.rep he rfl
     generalize a.eval x=v at this ⊢
     cases this; exact .r .snil
   ·rw [List.getElem?_append_right (by omega)] at h1
    rw [List.getElem?_append_right (by simp at hlen ⊢; omega)] at h2'
    have hxl:(xs.toList.map a.eval).length=bs.length:=by simpa using hlen
    rw [hxl] at h2'
    exact hin (hall _ (ren L b) u (by rw [YFH,h1]; rfl) (by simpa using h2')) (YDS hcc h1)
  unfold Oper.wp
  rw [hrun]
  refine (hcon (z.view L hc) _ (YXF hok hH hsh hnd) rfl hargs).mono fun e w' ⟨u,y,r,h',he',hyw,hle,hyok,hyH,hyr,hrc,hhc,hpost⟩=>?_
  subst he'
  subst hyw
  obtain ⟨k1,k2⟩:=YU3 hok hH hsh hnd hle hyok hyH hhc
  exact hK u (z.back y L h' h) r h' k1 k2 rfl (YTn (x:=y) (y:=z.back y L h' h) (L:=L) (k:=L.length) rfl (fun _ h=>h) (Nat.le_refl _) (YPp hnd hyH) hyr hrc) hpost
theorem AOps.stepH {d:Nat} {f:FuncId} {fo:Operand} {xs:Array Operand} {ats:Array TypeId} {caps bs:List AV} (L:List Nat) {hc:Heap} {Post:AV→Heap→Prop} (hg:o.guard=none) (hd:o.dst=some d) (hN:Nat.blt d s.N=true)
  (ho:o.op = .call { callee:=.value fo,args:=xs,argTypes:=ats }) (hfo:Ev true s.e fo (.fn f (renL L caps))) (hcc:YIR L.length caps=true) (hx:YNR s.e L xs.toList bs) (hsh:YJY s.h L hc) (hnd:L.Nodup)
  (hcon:AHC P f L.length (bs++caps) hc Post)
  (hr : ∀ r h' n',Post r h'→AOps P ops rest { e:=(d,ren L r) :: s.e,h:=YMj L h' 1000 L++s.h,n:=n',N:=s.N } K):AOps P ops (o :: rest) s K:=by
 intro c0 a w ⟨_,hdef,hsz,y,hyw,hle,hok,hH,hn,he⟩ Q hQ
 subst hyw
 refine wpList_plain hg fun K' hK'=>?_
 refine YU9 ho hfo hcc hx hsh hnd hcon hok hH he K' Q fun u z r h' hyz hzok hzH hzv hpost=>?_
 refine hK' _ _ ?_
 have hN':d<a.tmps.size:=by rw [hsz]; exact YAl hN
 rw [hd]
 exact hr r h' z.n hpost c0 (a.put (some d) u) z.w ⟨_,hdef,by simpa [Act.put] using hsz,z,rfl,hle.trans hyz,hzok,hzH,rfl,(he.mono hyz).put hN' hzv⟩ Q hQ
def ResV (P:Program):ResultVar→St→AV→Prop
 | .tmp t,s,r=>get s.e t=r
 | .cell a t,s,r=>(YAx P t ∧ ∃ id g e,get s.e a = .ptr id g 0 0∧hget s.h id=some (.box g e [r])) ∨ ∃ cs,r = .agg cs∧YBq P t cs.length ∧ ∃ id g e,get s.e a = .ptr id g 0 0∧hget s.h id=some (.box g e cs)
def YSx (P:Program):List ResultVar→St→List AV→Prop
 | [],_,[]=>True
 | x :: l,s,r :: rs=>ResV P x s r∧YSx P l s rs
 | _,_,_=>False
def YKQ (P:Program) (rs:List ResultVar) (s:St) (r:AV):Prop:=match rs with
 | [x]=>ResV P x s r
 | _=>∃ l,r = .tup l∧YSx P rs s l
def RetH (P:Program) (rs:List ResultVar) (k:Nat) (Post:AV→Heap→Prop):Exit→St→Prop
 | .normal,s | .ret,s=>∃ r h',YKQ P rs s r∧WkH h' s.h∧r.canon k=true∧YJS k h'=true∧Post r h'
 | _,_=>False
def YGL (tmps:Array Value):ResultVar→Sem Value
 | .tmp t=>pure (tmps.getD t undef)
 | .cell a t=>do loadVar t (← asAddr (tmps.getD a undef))
theorem YF3 {fn:Func} {tmps:Array Value} {w:World} (us:List Value) (ht : ∀ (i:Nat) (x:ResultVar),fn.results[i]? = some x → ∃ u,us[i]? = some u∧(YGL tmps x).run P w = .ok u w) (hl:us.length=fn.results.size) :
  (results fn tmps).run P w = .ok (if h:us.toArray.size=1 then us.toArray[0] else .tuple us.toArray) w:=by
 have key : ∀ (rs:List ResultVar) (us:List Value),us.length=rs.length→(∀ (i:Nat) (x:ResultVar),rs[i]? = some x → ∃ u,us[i]? = some u∧(YGL tmps x).run P w = .ok u w) →
   (rs.mapM (m:=Sem) (YGL tmps)).run P w = .ok us w:=by
  intro rs
  induction rs with
  | nil=>intro us hl _; simp at hl; subst hl; rfl
  | cons x rs ih=>
   intro us hl ht
   cases us with
   | nil=>simp at hl
   | cons u us=>
    obtain ⟨u',h2,h4⟩:=ht 0 x rfl
    simp at h2
    subst h2
    have h3:=ih us (by simpa using hl) (fun i y hy=>by simpa using ht (i+1) y (by simpa using hy))
    simp only [List.mapM_cons,Sem.run_bind,Sem.run_pure,Result.andThen_ok,h3,h4]
 have h1:=key fn.results.toList us (by simpa using hl) (fun i x hx=>ht i x (by simpa using hx))
 have h2:(results fn tmps)=(do
   let vs ← fn.results.mapM (m:=Sem) (YGL tmps)
   pure (if h:vs.size=1 then vs[0] else .tuple vs)):=by
  unfold results
  congr 1
 rw [h2,← Array.toArray_toList (xs:=fn.results),List.mapM_toArray]
 simp only [Sem.run_bind,Sem.run_map,h1]
 rfl
theorem ResV.rep {y:Cx} (hok:y.ok) {s:St} (hH:y.H=hget s.h) {a:Act} (he:YCO y s.e a) {x:ResultVar} {r:AV} (hr:ResV P x s r) : ∃ u,YAN y r u∧(YGL a.tmps x).run P y.w = .ok u y.w:=by
 cases x with
 | tmp t=>exact ⟨_,by have:=he t; rwa [show get s.e t=r from hr] at this,rfl⟩
 | cell c t=>
  rcases hr with ⟨ht,id,g,e,h1,h2⟩ | ⟨cs,rfl,ht,id,g,e,h1,h2⟩
  rotate_left
  ·have hHid:y.H id=some (.box g e cs):=by rw [hH]; exact h2
   have h0:=he c
   rw [h1] at h0
   obtain ⟨b,cur,k1,k2,k3,k4,k5⟩:=YHe hok hHid h0
   have hcell : ∀ j,j<cs.length→y.w.cell? ⟨b,0+j,none⟩=some ((fun j=>cur.getD j undef) j):=by
    intro j hj
    have hj':j<cur.size:=by omega
    rw [Nat.zero_add,cell_of_row _ b j cur e _ k3]
    simp [hj']
   refine ⟨.agg ((List.range cs.length).map fun j=>cur.getD j undef).toArray,YFX rfl _ fun j a hj=>?_,?_⟩
   ·obtain ⟨u,h6,_,h7⟩:=k5 _ _ hj
    obtain ⟨h8,h9⟩:=Array.getElem?_eq_some_iff.1 h6
    simpa [h8,h9] using h7
   ·have hrun:=YCu (P:=P) ht (w:=y.w) (b:=b) (k:=0) (fun j=>cur.getD j undef) hcell
    simp only [YGL,k2]
    simpa [asAddr,Instr.loadAt,Instr.sureAddr] using hrun
  have hHid:y.H id=some (.box g e [r]):=by rw [hH]; exact h2
  have h0:=he c
  rw [h1] at h0
  obtain ⟨b,cur,k1,k2,k3,k4,k5⟩:=YHe hok hHid h0
  obtain ⟨u,h6,_,h7⟩:=k5 0 r rfl
  refine ⟨u,h7,?_⟩
  obtain ⟨d,i,e1,e2,_,_⟩:=ht
  have hcell:=(cell_of_row _ b 0 cur e _ k3).trans h6
  simp only [YGL,k2]
  simp [asAddr,loadVar,YFe e1,e2,hcell]
theorem YSx.get {rs:List ResultVar} {s:St} {l:List AV} (h:YSx P rs s l):rs.length=l.length ∧ ∀ (i:Nat) (x:ResultVar),rs[i]? = some x → ∃ r,l[i]? = some r∧ResV P x s r:=by
 induction rs generalizing l with
 | nil=>cases l with | nil=>exact ⟨rfl,by simp⟩ | cons _ _=>exact h.elim
 | cons x rs ih=>
  cases l with
  | nil=>exact h.elim
  | cons r l=>
   obtain ⟨h1,h2⟩:=ih h.2
   refine ⟨by simp [h1],fun i y hi=>?_⟩
   cases i with
   | zero=>simp at hi; subst hi; exact ⟨r,rfl,h.1⟩
   | succ i=>simpa using h2 i y (by simpa using hi)
theorem YRO {fn:Func} {y:Cx} {s:St} {a:Act} {r:AV} (hok:y.ok) (hH:y.H=hget s.h) (he:YCO y s.e a) (hq:YKQ P fn.results.toList s r) : ∃ u,(results fn a.tmps).run P y.w = .ok u y.w∧YAN y r u:=by
 by_cases h1:fn.results.toList.length=1
 ·obtain ⟨x0,hx0⟩:=List.length_eq_one_iff.1 h1
  rw [hx0] at hq
  obtain ⟨u,hr,hrun0⟩:=ResV.rep (P:=P) hok hH he (show ResV P x0 s r from hq)
  have hrun:=YF3 (P:=P) (fn:=fn) (tmps:=a.tmps) (w:=y.w) [u] (fun i x hi=>by
   have hi':fn.results.toList[i]? = some x:=by simpa using hi
   rw [hx0] at hi'
   cases i with
   | zero=>simp at hi'; subst hi'; exact ⟨u,rfl,hrun0⟩
   | succ i=>simp at hi') (by rw [← Array.length_toList,h1]; rfl)
  exact ⟨_,hrun,hr⟩
 ·have hq' : ∃ l,r = .tup l∧YSx P fn.results.toList s l:=by
   revert hq h1
   generalize fn.results.toList=rs
   intro hq h1
   match rs,h1,hq with
   | [],_,hq=>exact hq
   | [_],h1,_=>exact absurd rfl h1
   | _ :: _ :: _,_,hq=>exact hq
  obtain ⟨l,rfl,hall⟩:=hq'
  obtain ⟨hl,hg⟩:=hall.get
  have hread : ∀ i,i<l.length → ∃ u,∀ x r,fn.results.toList[i]? = some x→l[i]? = some r→YAN y r u∧(YGL a.tmps x).run P y.w = .ok u y.w:=by
   intro i hi
   have hi2:i<fn.results.toList.length:=by omega
   obtain ⟨r,h2,h3⟩:=hg i _ (List.getElem?_eq_getElem hi2)
   obtain ⟨u,h4,h5⟩:=ResV.rep hok hH he h3
   refine ⟨u,fun x r' k1 k2=>?_⟩
   rw [List.getElem?_eq_getElem hi2] at k1; cases k1
   rw [h2] at k2; cases k2
   exact ⟨h4,h5⟩
  obtain ⟨us,hul,hut⟩:=YIq l.length hread
  have hsz:us.length=fn.results.size:=by rw [hul,← hl,Array.length_toList]
  have hrun:=YF3 (P:=P) (fn:=fn) (tmps:=a.tmps) (w:=y.w) us (fun i x hi=>by
   have hi':fn.results.toList[i]? = some x:=by simpa using hi
   obtain ⟨r,h2,_⟩:=hg i x hi'
   have hil:i<us.length:=by rw [hul]; exact (List.getElem?_eq_some_iff.1 h2).1
   exact ⟨us[i],List.getElem?_eq_getElem hil,(hut i _ (List.getElem?_eq_getElem hil) x r hi' h2).2⟩) hsz
  have hne : ¬ us.toArray.size=1:=by
   rw [List.size_toArray,hsz]
   exact fun e=>h1 (by rw [Array.length_toList]; exact e)
  rw [dif_neg hne] at hrun
  refine ⟨_,hrun,.tup (by rw [List.size_toArray,hul]) fun i c u k1 k2=>?_⟩
  have k3:us[i]? = some u:=by simpa using k2
  have hil:i<fn.results.toList.length:=by rw [hl]; exact (List.getElem?_eq_some_iff.1 k1).1
  exact (hut i u k3 _ c (List.getElem?_eq_getElem hil) k1).1
theorem AHC.mk {f : FuncId} {fn : Func} {code : Code} {args : List AV} {k N : Nat} {hc : Heap} {Post : AV → Heap → Prop} (hf : P.funcs[f]? = some fn) (hb : fn.body = some code) (hname : (fn.name == "runtime.NumGoroutine") = false) (hN : fn.ntmps = N)
  (hlen:args.length≤N) (hw : ∀ n0,AW P code (RetH P fn.results.toList k Post) ⟨YCt 0 args,hc,n0,N⟩):AHC P f k args hc Post:=by
 refine ⟨⟨fn,hf,by rw [hb]; rfl,hname⟩,fun x vs hok hH hargs=>?_⟩
 have hvl:vs.size=args.length:=by simpa using hargs.1
 have hsim:Sim x ⟨YCt 0 args,hc,x.n,N⟩ { tmps:=vs++Array.replicate (fn.ntmps-vs.size) undef,defers:=[] } x.w:=by
  refine ⟨_,rfl,by simp; omega,x,rfl,.refl x,hok,hH,rfl,fun t=>?_⟩
  rcases YIC args 0 t with h1 | ⟨j,a,h1,h2,h3⟩
  ·rw [h1]; exact .any _
  ·rw [h3]
   have hj:j<vs.size:=by rw [hvl]; exact (List.getElem?_eq_some_iff.1 h2).1
   have ht:t=j:=by omega
   subst ht
   have:(vs++Array.replicate (fn.ntmps-vs.size) undef).getD t undef=vs[t]:=by
    simp [Array.getD,hj]
    omega
   rw [this]
   exact hargs.2 t a vs[t] h2 (by simp [hj])
 have fin : ∀ {e:Exit} {a:Act} {y:Cx} {s:St},(∃ r h',YKQ P fn.results.toList s r∧WkH h' s.h∧r.canon k=true∧YJS k h'=true∧Post r h')→x.le y→y.ok→y.H=hget s.h→y.n=s.n→YCO y s.e a →
   ∃ u,(results fn a.tmps).run P y.w = .ok u y.w ∧ ∃ u' y' r h',Ending.returned u = .returned u'∧y'.w=y.w∧x.le y'∧y'.ok∧y'.H=hget h'∧YAN y' r u'∧r.canon k=true∧YJS k h'=true∧Post r h':=by
  intro e a y s ⟨r,h',h1,h2,h3,h4,h5⟩ hle hok' hH' _ he
  obtain ⟨u,hrun,hu⟩:=YRO (P:=P) hok' hH' he h1
  have hsub : ∀ id o,hget h' id=some o→y.H id=some o:=by
   intro id o ho
   rw [hH']
   rcases h2.get id with e1 | e1
   ·rw [e1] at ho; cases ho
   ·rw [← e1]; exact ho
  obtain ⟨k1,k2⟩:=Cx.forget hok' (hget h') hsub y.n (Nat.le_refl _)
  exact ⟨u,hrun,u,{ y with H:=hget h',n:=y.n },r,h',rfl,rfl,hle.trans k1,k2,rfl,hu.mono k1,h3,h4,h5⟩
 refine YG3 hf hb hok hsim (hw x.n) fun e s a y hq hle hok' hH' hn' he=>?_
 cases e with
 | normal=>exact ⟨.inl rfl,fin (e:=.normal) hq hle hok' hH' hn' he⟩
 | ret=>exact ⟨.inr rfl,fin (e:=.ret) hq hle hok' hH' hn' he⟩
 | exit id=>exact hq.elim
 | goto l=>exact hq.elim
 | panic ch=>exact hq.elim
 | outgrown=>exact hq.elim
end
section
variable {P:Program} {ops:Array Oper} {rest:List Oper} {s:St} {K:St→Prop} {o:Oper}
def AT (P:Program) (ops:Array Oper) (rest:List Oper) (s:St) (K:St→Prop):Prop:=
 ∀ (y:Cx) (a:Act),y.ok→y.H=hget s.h→y.n=s.n→a.tmps.size=s.N→YCO y s.e a → ∀ Qa:Act→Prop,
  (∀ s' a',K s'→s'.h=s.h→s'.n=s.n→s'.N=s.N→a'.tmps.size=s.N→a'.defers=a.defers→YCO y s'.e a'→Qa a')→wpStill P ops y.w Qa rest a
theorem AT.nil (h:K s):AT P ops [] s K:=fun _ a _ _ _ hN he _ hQ=>wpStill_nil (hQ s a h rfl rfl rfl hN rfl he)
theorem AT.step {d:Nat} {v:AV} (hg:o.guard=none) (hd:o.dst=some d) (hN:Nat.blt d s.N=true) (hs:OpQ P true o s.e s.h v)
  (hr:AT P ops rest { e:=(d,v) :: s.e,h:=s.h,n:=s.n,N:=s.N } K):AT P ops (o :: rest) s K:=by
 intro y a hok hH hn hsz he Qa hQ
 obtain ⟨u,hrun,hv⟩:=hs rfl y a hok hH he
 have hN':d<a.tmps.size:=by rw [hsz]; exact YAl hN
 refine wpStill_step fun K' hK'=>?_
 rw [if_pos (by simp [Region.wanted,hg])]
 unfold Oper.still
 rw [hrun y.w fun _ _=>rfl,Oper.stillUpon_value]
 refine hK' _ ?_
 rw [hd]
 exact hr y (a.put (some d) u) hok hH hn (by simpa [Act.put] using hsz) (he.put hN' hv) Qa fun s' a' k1 k2 k3 k4 k5 k6 k7=>hQ s' a' k1 k2 k3 k4 k5 k6 k7
theorem Cx.redraw {y:Cx} (hok:y.ok):y.le { y with w:={ y.w with drawn:=y.w.drawn+1 } } ∧ ({ y with w:={ y.w with drawn:=y.w.drawn+1 } } : Cx).ok:=by
 have hle:y.le { y with w:={ y.w with drawn:=y.w.drawn+1 } }:=⟨Nat.le_refl _,rfl,rfl,rfl,fun _ _=>rfl,fun _ h=>h,rfl,Nat.le_refl _,fun _ o h _=>⟨o,h,rfl,rfl,rfl⟩⟩
 refine ⟨hle,hok.S_lt,hok.F_lt,hok.SF,fun id o ho=>?_,hok.own,hok.inj,hok.tabs.le hle⟩
 obtain ⟨k1,k2⟩:=hok.obj id o ho
 exact ⟨k1,k2.mono hle fun _ _ _=>rfl⟩
end
theorem Weak.adoptBox {s:St} (bid j id:Nat) (e:TypeId) (sz:Nat) {g:Nat} {eb:TypeId} {cs:List AV} (h0:0<sz) (hb:hget s.h bid=some (.box g eb cs)) (hj:cs[j]? = some (.cst (.slice none 0 0))) (hne:id≠bid) :
  Weak s ⟨s.e,(bid,some (.box g eb (cs.set j (.own id s.n)))) :: (id,some (.arr s.n e sz [])) :: s.h,s.n+1,s.N⟩:=by
 intro c0 a w ⟨_,hdef,hsz,y,hyw,hle,hok,hH,hyn,henv⟩
 have hup:=Cx.upd hok id (.arr s.n e sz []) y.w none (y.n+1) (Nat.le_refl _) rfl rfl rfl (fun _ _ _=>rfl) (fun b k hb=>by cases hb) (by omega) (by simp [AObj.gen,hyn]) (fun hg=>absurd hg (by simp [AObj.gen,hyn]))
  (fun hle=>⟨h0,by simp,.slice none 0 0,[],⟨rfl,rfl⟩,World.ownsRow_nil _ _ _ _,by simp⟩)
 generalize hy1:({ y with H:=fun i=>if id=i then some (.arr s.n e sz []) else y.H i,β:=fun i=>if id=i then none else y.β i,n:=y.n+1 } : Cx)=y1 at hup
 have hy1H:y1.H=hget ((id,some (.arr s.n e sz [])) :: s.h):=by rw [← hy1]; simp only [hH]; exact YB2 _ _ _
 have hbid:y1.H bid=some (.box g eb cs):=by rw [hy1H,YAb,if_neg hne]; exact hb
 have hid:y1.H id=some (.arr s.n e sz []):=by rw [hy1H,YAb,if_pos rfl]
 have hβid:y1.β id=none:=by rw [← hy1]; simp
 have hy1n:y1.n=s.n+1:=by rw [← hy1]; simp [hyn]
 have hy1w:y1.w=y.w:=by rw [← hy1]
 obtain ⟨hg1,hrep1⟩:=hup.2.obj bid _ hbid
 have hup2:=Cx.upd hup.2 bid (.box g eb (cs.set j (.own id s.n))) y1.w (y1.β bid) y1.n (Nat.le_refl _) rfl rfl rfl (fun _ _ _=>rfl)
  (fun b k hbk=>⟨(hup.2.own bid _ b k hbid hbk).1,.inr ⟨_,k,hbid,hbk⟩⟩) (Nat.le_refl _) hg1 (fun _=>⟨_,hbid,rfl,by simp [AObj.shape],rfl⟩)
  (fun hle2=>by
   obtain ⟨b,cur,k1,k2,k3,k4⟩:=hrep1
   refine ⟨b,cur,k1,k2,by rw [k3]; simp,fun i c hi=>?_⟩
   by_cases hij:j=i
   ·subst hij
    obtain ⟨u,e1,e2,e3⟩:=k4 j _ hj
    have hjl:j<cs.length:=(List.getElem?_eq_some_iff.1 hj).1
    rw [List.getElem?_set_self hjl] at hi
    cases hi
    cases e3
    refine ⟨_,e1,e2,.own (by rw [hy1n]; omega) e2 fun o ho _=>?_⟩
    simp only [if_neg (Ne.symm hne)] at ho ⊢
    rw [hid] at ho; cases ho
    rw [hβid]
    exact ⟨rfl,rfl⟩
   ·rw [List.getElem?_set_ne hij] at hi
    obtain ⟨u,e1,e2,e3⟩:=k4 i c hi
    exact ⟨u,e1,e2,e3.mono hle2⟩)
 refine ⟨_,hdef,hsz,_,by show y1.w=w; rw [hy1w]; exact hyw,(hle.trans hup.1).trans hup2.1,hup2.2,?_,by show y1.n=s.n+1; exact hy1n,fun t=>((henv t).mono hup.1).mono hup2.1⟩
 simp only [hy1H]
 exact YB2 _ _ _
def YMm (c:Bool) (R:Env):List Operand→List AV→Prop
 | [],[]=>True
 | x :: xs,b :: bs=>Ev c R x b∧YMm c R xs bs
 | _,_=>False
theorem YMm.rep {c:Bool} {R:Env} {x:Cx} {a:Act} (hc:c=true) (he:YCO x R a) {xs:List Operand} {bs:List AV} (h:YMm c R xs bs):bs.length=xs.length ∧ ∀ (i:Nat) (b:AV) (u:Value),bs[i]? = some b→(xs.map a.eval)[i]? = some u→YAN x b u:=by
 induction xs generalizing bs with
 | nil=>cases bs with | nil=>exact ⟨rfl,by simp⟩ | cons _ _=>exact h.elim
 | cons y l ih=>
  cases bs with
  | nil=>exact h.elim
  | cons b m=>
   obtain ⟨h1,h2⟩:=ih h.2
   refine ⟨by simp [h1],fun i b' u k1 k2=>?_⟩
   cases i with
   | zero=>simp at k1 k2; subst k1; subst k2; exact h.1.rep he hc
   | succ i=>exact h2 i b' u (by simpa using k1) (by simpa using k2)
theorem YLT {P:Program} {c:Bool} {o:Oper} {R:Env} {h:Heap} {f:FuncId} {xs:Array Operand} {bs:List AV} (ho:o.op = .makeFunc (.func f) #[] xs) (hx:YMm c R xs.toList bs):OpQ P c o R h (.fn f bs):=by
 intro hc y a _ _ he
 obtain ⟨h1,h2⟩:=hx.rep hc he
 refine ⟨.func (.func f) #[] (xs.map a.eval),fun w2 _=>?_,.fn (by simpa using h1) fun i b u k1 k2=>h2 i b u k1 (by simpa using k2)⟩
 unfold execOp
 rw [ho]
 simp [show ∀ W,(Instr.makeFunc (Fn.func f) #[] (xs.map a.eval)).run P W = .ok (.func (.func f) #[] (xs.map a.eval)) W from fun _=>rfl]
section
variable {P:Program} {ops:Array Oper} {rest:List Oper} {s:St} {K:St→Prop} {o:Oper}
inductive YBi (R:Env) (ops:Array Oper) (o:Oper):Bool→Prop
 | one {j dj:Nat} {want b:Bool} (hg:o.guard=some (j,want)) (hj:(ops[j]?).bind (·.dst)=some dj) (hb:YBP R (.tmp dj) = .r (.bool b)):YBi R ops o (b == want)
 | two {j dj:Nat} {want b c1:Bool} (hg:o.guard=some (j,want)) (hj:(ops[j]?).bind (·.dst)=some dj) (hb:YBP R (.tmp dj) = .whn c1 (.r (.bool b))):YBi R ops o (c1 && (b == want))
theorem YOb {a:Act} {j dj:Nat} {want:Bool} (hg:o.guard=some (j,want)) (hj:(ops[j]?).bind (·.dst)=some dj) (hbv:a.tmps.getD dj undef=undef):Region.wanted o (yielded ops a.tmps)=false:=by
 simp only [Region.wanted,hg,yielded]
 rw [hj]
 simp only [Option.bind_some]
 by_cases hd:dj<a.tmps.size
 ·have:a.tmps[dj]? = some undef:=by
   rw [Array.getElem?_eq_getElem hd]
   simpa [Array.getD,hd] using hbv
  rw [this]; rfl
 ·rw [Array.getElem?_eq_none (Nat.not_lt.1 hd)]; rfl
theorem YBi.wanted {c:Bool} {y:Cx} {a:Act} (hG:YBi s.e ops o c) (he:YCO y s.e a):Region.wanted o (yielded ops a.tmps)=c:=by
 cases hG with
 | @one j dj want b hg hj hb=>
  have h0:=he dj
  rw [show get s.e dj = .r (.bool b) from hb] at h0
  exact YOc hg hj (YEC h0)
 | @two j dj want b c1 hg hj hb=>
  have h0:=he dj
  rw [show get s.e dj = .whn c1 (.r (.bool b)) from hb] at h0
  generalize hv:a.tmps.getD dj undef=v at h0
  cases h0 with
  | whn h1 h2=>
   cases c1 with
   | true=>rw [YOc hg hj (hv.trans (YEC (h1 rfl)))]; rfl
   | false=>rw [YOb hg hj (hv.trans (h2 rfl))]; rfl
theorem AOps.stepW {d:Nat} {c:Bool} {v:AV} (hG:YBi s.e ops o c) (hd:o.dst=some d) (hN:Nat.blt d s.N=true) (hs:YAV P c o s.e s.h s.n v s.h s.n)
  (hr:AOps P ops rest { e:=(d,.whn c v) :: s.e,h:=s.h,n:=s.n,N:=s.N } K):AOps P ops (o :: rest) s K:=by
 intro c0 a w ⟨_,hdef,hsz,y,hyw,hle,hok,hH,hn,he⟩ Q hQ
 subst hyw
 have hN':d<a.tmps.size:=by rw [hsz]; exact YAl hN
 refine wpList_step fun K' hK'=>?_
 rw [hG.wanted he]
 split
 ·rename_i hc
  refine hs hc y a hok hH hn he K' Q fun u z hyz hzok hzH hzn hzv=>?_
  refine hK' _ _ ?_
  rw [hd]
  exact hr c0 (a.put (some d) u) z.w ⟨_,hdef,by simpa [Act.put] using hsz,z,rfl,hle.trans hyz,hzok,hzH,hzn,(he.mono hyz).put hN' (.whn (fun _=>hzv) (fun h=>by rw [hc] at h; cases h))⟩ Q hQ
 ·rename_i hc
  refine hK' _ _ ?_
  rw [hd]
  exact hr c0 (a.put (some d) undef) y.w ⟨_,hdef,by simpa [Act.put] using hsz,y,rfl,hle,hok,hH,hn,he.put hN' (.whn (fun h=>absurd h hc) (fun _=>rfl))⟩ Q hQ
theorem AQ.stepW {d:Nat} {c:Bool} {v:AV} (hG:YBi s.e ops o c) (hd:o.dst=some d) (hN:Nat.blt d s.N=true) (hs:OpQ P c o s.e s.h v)
  (hr:AQ P ops rest { e:=(d,.whn c v) :: s.e,h:=s.h,n:=s.n,N:=s.N } K):AQ P ops (o :: rest) s K:=by
 intro y a hok hH hn hsz he Qa hQ
 have hN':d<a.tmps.size:=by rw [hsz]; exact YAl hN
 refine wpQuiet_step fun K' hK'=>?_
 rw [hG.wanted he]
 split
 ·rename_i hc
  obtain ⟨u,hrun,hv⟩:=hs hc y a hok hH he
  refine ⟨u,fun w2 hw2=>?_,hK' _ ?_⟩
  ·obtain ⟨z,hz,_,_,_,_,_,_,hag⟩:=hw2
   unfold Oper.quietAt
   rw [hrun w2 hag]
   exact ⟨rfl,rfl⟩
  ·rw [hd]
   exact hr y (a.put (some d) u) hok hH hn (by simpa [Act.put] using hsz) (he.put hN' (.whn (fun _=>hv) (fun h=>by rw [hc] at h; cases h))) Qa fun s' a' k1 k2 k3 k4 k5 k6 k7=>hQ s' a' k1 k2 k3 k4 k5 k6 k7
 ·rename_i hc
  refine hK' _ ?_
  rw [hd]
  exact hr y (a.put (some d) undef) hok hH hn (by simpa [Act.put] using hsz) (he.put hN' (.whn (fun h=>absurd h hc) (fun _=>rfl))) Qa fun s' a' k1 k2 k3 k4 k5 k6 k7=>hQ s' a' k1 k2 k3 k4 k5 k6 k7
theorem AQ.stepWC {d:Nat} {c:Bool} {f:FuncId} {fo:Operand} {xs:Array Operand} {ats:Array TypeId} {caps bs:List AV} {r:AV} {v:Value} (hG:YBi s.e ops o c) (hd:o.dst=some d) (hN:Nat.blt d s.N=true)
  (ho:o.op = .call { callee:=.value fo,args:=xs,argTypes:=ats }) (hfo:Ev c s.e fo (.fn f caps)) (hcaps:YBp caps=true) (hx:YIS c s.e s.h xs.toList bs) (hr:c=true→ARO P f (bs++caps) r)
  (hfl:YUY r=some v) (hk:AQ P ops rest { e:=(d,.whn c r) :: s.e,h:=s.h,n:=s.n,N:=s.N } K):AQ P ops (o :: rest) s K:=by
 intro y a hok hH hn hsz he Qa hQ
 have hN':d<a.tmps.size:=by rw [hsz]; exact YAl hN
 refine wpQuiet_step fun K' hK'=>?_
 rw [hG.wanted he]
 split
 ·rename_i hc
  refine ⟨v,AQ.call ho hfo hcaps hx hr hfl hc hok hH he,hK' _ ?_⟩
  rw [hd]
  exact hk y (a.put (some d) v) hok hH hn (by simpa [Act.put] using hsz) (he.put hN' (.whn (fun _=>YRl hfl) (fun h=>by rw [hc] at h; cases h))) Qa fun s' a' k1 k2 k3 k4 k5 k6 k7=>hQ s' a' k1 k2 k3 k4 k5 k6 k7
 ·rename_i hc
  refine hK' _ ?_
  rw [hd]
  exact hk y (a.put (some d) undef) hok hH hn (by simpa [Act.put] using hsz) (he.put hN' (.whn (fun h=>absurd h hc) (fun _=>rfl))) Qa fun s' a' k1 k2 k3 k4 k5 k6 k7=>hQ s' a' k1 k2 k3 k4 k5 k6 k7
theorem AT.stepW {d:Nat} {c:Bool} {v:AV} (hG:YBi s.e ops o c) (hd:o.dst=some d) (hN:Nat.blt d s.N=true) (hs:OpQ P c o s.e s.h v)
  (hr:AT P ops rest { e:=(d,.whn c v) :: s.e,h:=s.h,n:=s.n,N:=s.N } K):AT P ops (o :: rest) s K:=by
 intro y a hok hH hn hsz he Qa hQ
 have hN':d<a.tmps.size:=by rw [hsz]; exact YAl hN
 refine wpStill_step fun K' hK'=>?_
 rw [hG.wanted he]
 split
 ·rename_i hc
  obtain ⟨u,hrun,hv⟩:=hs hc y a hok hH he
  unfold Oper.still
  rw [hrun y.w fun _ _=>rfl,Oper.stillUpon_value]
  refine hK' _ ?_
  rw [hd]
  exact hr y (a.put (some d) u) hok hH hn (by simpa [Act.put] using hsz) (he.put hN' (.whn (fun _=>hv) (fun h=>by rw [hc] at h; cases h))) Qa fun s' a' k1 k2 k3 k4 k5 k6 k7=>hQ s' a' k1 k2 k3 k4 k5 k6 k7
 ·rename_i hc
  refine hK' _ ?_
  rw [hd]
  exact hr y (a.put (some d) undef) hok hH hn (by simpa [Act.put] using hsz) (he.put hN' (.whn (fun h=>absurd h hc) (fun _=>rfl))) Qa fun s' a' k1 k2 k3 k4 k5 k6 k7=>hQ s' a' k1 k2 k3 k4 k5 k6 k7
theorem AOps.stepGT {d:Nat} {c:Bool} {v:AV} {h':Heap} {n':Nat} (hG:YBi s.e ops o c) (hc:c=true) (hd:o.dst=some d)
  (hN:Nat.blt d s.N=true) (hs:YAV P true o s.e s.h s.n v h' n') (hr:AOps P ops rest { e:=(d,v) :: s.e,h:=h',n:=n',N:=s.N } K):AOps P ops (o :: rest) s K:=by
 intro c0 a w ⟨_,hdef,hsz,y,hyw,hle,hok,hH,hn,he⟩ Q hQ
 subst hyw
 have hN':d<a.tmps.size:=by rw [hsz]; exact YAl hN
 refine wpList_step fun K' hK'=>?_
 rw [hG.wanted he,if_pos hc]
 refine hs rfl y a hok hH hn he K' Q fun u z hyz hzok hzH hzn hzv=>?_
 refine hK' _ _ ?_
 rw [hd]
 exact hr c0 (a.put (some d) u) z.w ⟨_,hdef,by simpa [Act.put] using hsz,z,rfl,hle.trans hyz,hzok,hzH,hzn,(he.mono hyz).put hN' hzv⟩ Q hQ
end
inductive Ctl (β τ:Type) where
 | nrm (b:β)
 | ext (t:τ)
def idx {α:Type} (l:List α) (z:Int):Option α:=if 0≤z then l[z.toNat]? else none
def gd {α:Type} [Inhabited α] (c:Bool) (m:Option α):Option α:=if c then m else some default
def chk (k:IntKind) (z:Int):Option Int:=if k.wrap z=z then some z else none
def quoM (k:IntKind) (a b:Int):Option Int:=if b=0 then none else chk k (a.tdiv b)
def remM (a b:Int):Option Int:=if b=0 then none else some (a.tmod b)
def app {α:Type} (by_:Nat) (xs ys:List α):Option (List α):=if (xs.length+ys.length) * by_≤140737488355328∧xs.length+ys.length≤9223372036854775807 then some (xs++ys) else none
def mk {α:Type} (by_:Nat) (n:Int) (z:α):Option (List α):=if 0≤n∧n * by_≤281474976710656∧n≤9223372036854775807 then some (List.replicate n.toNat z) else none
def slc {α:Type} (l:List α) (lo hi:Int):Option (List α):=if 0≤lo∧lo≤hi∧hi≤l.length then some ((l.drop lo.toNat).take (hi.toNat-lo.toNat)) else none
def catM (a b:List UInt8):Option (List UInt8):=if a.length+b.length≤9223372036854775807 then some (a++b) else none
def YIF {σ ρ:Type} (f:σ→Option (σ ⊕ ρ)):Nat→σ→Option ρ
 | 0,_=>none
 | n+1,s=>match f s with
  | some (.inl s')=>YIF f n s'
  | some (.inr r)=>some r
  | none=>none
open Classical in
noncomputable def iter {σ ρ:Type} (f:σ→Option (σ ⊕ ρ)) (s:σ):Option ρ:=if h : ∃ n r,YIF f n s=some r then YIF f h.choose s else none
def bnd1 {a0 α:Type} (m:Option (a0)) (f:a0→Option α):Option α:=match m with | some x0=>f x0 | none=>none
def ctl1 {a0 α:Type} (m:Option (Ctl (a0) α)) (f:a0→Option α):Option α:=match m with | some (.nrm x0)=>f x0 | some (.ext t)=>some t | none=>none
def bnd2 {a0 a1 α:Type} (m:Option (a0 × a1)) (f:a0→a1→Option α):Option α:=match m with | some (x0,x1)=>f x0 x1 | none=>none
def ctl2 {a0 a1 α:Type} (m:Option (Ctl (a0 × a1) α)) (f:a0→a1→Option α):Option α:=match m with | some (.nrm (x0,x1))=>f x0 x1 | some (.ext t)=>some t | none=>none
def bnd3 {a0 a1 a2 α:Type} (m:Option (a0 × a1 × a2)) (f:a0→a1→a2→Option α):Option α:=match m with | some (x0,x1,x2)=>f x0 x1 x2 | none=>none
def ctl3 {a0 a1 a2 α:Type} (m:Option (Ctl (a0 × a1 × a2) α)) (f:a0→a1→a2→Option α):Option α:=match m with | some (.nrm (x0,x1,x2))=>f x0 x1 x2 | some (.ext t)=>some t | none=>none
def bnd4 {a0 a1 a2 a3 α:Type} (m:Option (a0 × a1 × a2 × a3)) (f:a0→a1→a2→a3→Option α):Option α:=match m with | some (x0,x1,x2,x3)=>f x0 x1 x2 x3 | none=>none
theorem jb1 {a0 α:Type} {m:Option (a0)} {f:a0→Option α} {r:α} (h:bnd1 m f=some r) : ∃ p,m=some p ∧ ∀ x0,p=x0→f x0=some r:=by
 cases m with
 | none=>cases h
 | some p=>exact ⟨p,rfl,fun x0 e=>by subst e; exact h⟩
theorem jc1 {a0 α:Type} {m:Option (Ctl (a0) α)} {f:a0→Option α} {r:α} (h:ctl1 m f=some r) : ∃ o,m=some o∧(∀ x0,o = .nrm x0→f x0=some r) ∧ ∀ t,o = .ext t→some t=some r:=by
 cases m with
 | none=>cases h
 | some o=>cases o with
  | nrm p=>exact ⟨_,rfl,(fun x0 e=>by cases e; exact h),(fun _ e=>by cases e)⟩
  | ext t=>exact ⟨_,rfl,(fun x0 e=>by cases e),(fun _ e=>by cases e; exact h)⟩
theorem ob2 {a0 a1 α:Type} {m:Option (a0 × a1)} {f:a0→a1→Option α} {r:α} (h:bnd2 m f=some r) : ∃ x0 x1,m=some (x0,x1)∧f x0 x1=some r:=by
 cases m with
 | none=>cases h
 | some p=>exact ⟨_,_,rfl,h⟩
theorem jb2 {a0 a1 α:Type} {m:Option (a0 × a1)} {f:a0→a1→Option α} {r:α} (h:bnd2 m f=some r) : ∃ p,m=some p ∧ ∀ x0 x1,p=(x0,x1)→f x0 x1=some r:=by
 cases m with
 | none=>cases h
 | some p=>exact ⟨p,rfl,fun x0 x1 e=>by subst e; exact h⟩
theorem jc2 {a0 a1 α:Type} {m:Option (Ctl (a0 × a1) α)} {f:a0→a1→Option α} {r:α} (h:ctl2 m f=some r) : ∃ o,m=some o∧(∀ x0 x1,o = .nrm (x0,x1)→f x0 x1=some r) ∧ ∀ t,o = .ext t→some t=some r:=by
 cases m with
 | none=>cases h
 | some o=>cases o with
  | nrm p=>exact ⟨_,rfl,(fun x0 x1 e=>by cases e; exact h),(fun _ e=>by cases e)⟩
  | ext t=>exact ⟨_,rfl,(fun x0 x1 e=>by cases e),(fun _ e=>by cases e; exact h)⟩
theorem jc3 {a0 a1 a2 α:Type} {m:Option (Ctl (a0 × a1 × a2) α)} {f:a0→a1→a2→Option α} {r:α} (h:ctl3 m f=some r) : ∃ o,m=some o∧(∀ x0 x1 x2,o = .nrm (x0,x1,x2)→f x0 x1 x2=some r) ∧ ∀ t,o = .ext t→some t=some r:=by
 cases m with
 | none=>cases h
 | some o=>cases o with
  | nrm p=>exact ⟨_,rfl,(fun x0 x1 x2 e=>by cases e; exact h),(fun _ e=>by cases e)⟩
  | ext t=>exact ⟨_,rfl,(fun x0 x1 x2 e=>by cases e),(fun _ e=>by cases e; exact h)⟩
theorem YDO {α:Type} {b:Bool} {x y z:α} (hc:b=true) (h:(if b=true then x else y)=z):x=z:=by rw [if_pos hc] at h; exact h
theorem YDP {α:Type} {b:Bool} {x y z:α} (hc:b=false) (h:(if b=true then x else y)=z):y=z:=by rw [if_neg (by rw [hc]; decide)] at h; exact h
theorem gdt {α:Type} [Inhabited α] {c:Bool} {m:Option α} {x:α} (h:gd c m=some x):c=true→m=some x:=by intro hc; subst hc; exact h
theorem YJR {k:IntKind} {z x:Int} (h:chk k z=some x):k.wrap z=z∧x=z:=by
 unfold chk at h; split at h
 ·exact ⟨‹_›,(Option.some.inj h).symm⟩
 ·cases h
theorem YDC {z:Int} (h1 : -9223372036854775808≤z) (h2:z≤9223372036854775807):chk .i64 z=some z:=if_pos (w64 h1 h2)
section
variable {σ ρ:Type} {f:σ→Option (σ ⊕ ρ)}
theorem YNF {n:Nat} {s:σ} {r:ρ} (h:YIF f n s=some r) (k:Nat):YIF f (n+k) s=some r:=by
 induction n generalizing s with
 | zero=>cases h
 | succ n ih=>
  rw [show n+1+k=(n+k)+1 by omega]
  unfold YIF at h ⊢
  split at h
  ·exact ih h
  ·exact h
  ·cases h
theorem YUO {n m:Nat} {s:σ} {r q:ρ} (h:YIF f n s=some r) (k:YIF f m s=some q):r=q:=by
 have h1:=YNF h m
 have h2:=YNF k n
 rw [Nat.add_comm] at h2
 rw [h1] at h2
 exact Option.some.inj h2
theorem YKj {s:σ} {r:ρ} : iter f s=some r ↔ ∃ n,YIF f n s=some r:=by
 unfold iter
 constructor
 ·intro h; split at h
  ·exact ⟨_,h⟩
  ·cases h
 ·rintro ⟨n,h⟩
  have hx : ∃ n r,YIF f n s=some r:=⟨n,r,h⟩
  rw [dif_pos hx]
  obtain ⟨q,hq⟩:=hx.choose_spec
  rw [hq,YUO hq h]
theorem YAX {s:σ} {r:ρ} (h:f s=some (.inr r)):iter f s=some r:=YKj.2 ⟨1,by unfold YIF; rw [h]⟩
theorem YBM {s s':σ} (h:f s=some (.inl s')):iter f s=iter f s':=by
 apply Option.ext
 intro r
 rw [YKj,YKj]
 constructor
 ·rintro ⟨n,hn⟩
  cases n with
  | zero=>cases hn
  | succ n=>unfold YIF at hn; rw [h] at hn; exact ⟨n,hn⟩
 ·rintro ⟨n,hn⟩; exact ⟨n+1,by unfold YIF; rw [h]; exact hn⟩
theorem AW.iter {P:Program} {Q:Exit→St→Prop} {s:St} {x:Code} {a0:σ} {o:ρ} (R:σ→St→Prop) (hit:Al.iter f a0=some o) (h0 : ∃ s',Weak s s'∧R a0 s')
  (round : ∀ a st v,R a st→f a=some v→(∀ q,v = .inr q→o=q)→AW P x (YIG (fun st'=>∃ a',v = .inl a' ∧ ∃ st'',Weak st' st''∧R a' st'') Q) st):AW P (.loop x) Q s:=by
 obtain ⟨n,hn⟩:=YKj.1 hit
 obtain ⟨s1,hw1,hR1⟩:=h0
 refine AW.loop (fun m st=>∃ a,R a st∧YIF f m a=some o) n ⟨s1,hw1,a0,hR1,hn⟩ ?_
 rintro m st ⟨a,hR,ha⟩
 cases m with
 | zero=>cases ha
 | succ m=>
  cases hf:f a with
  | none=>unfold YIF at ha; rw [hf] at ha; cases ha
  | some v=>
   unfold YIF at ha
   rw [hf] at ha
   refine (round a st v hR hf ?_).mono fun e st' hq=>?_
   ·rintro q rfl; exact (Option.some.inj ha).symm
   ·cases e with
    | normal=>
     obtain ⟨a',rfl,st'',hw,hR'⟩:=hq
     exact ⟨m,Nat.lt_succ_self m,st'',hw,a',hR',ha⟩
    | exit i=>exact hq
    | goto l=>exact hq
    | ret=>exact hq
    | panic ch=>exact hq
    | outgrown=>exact hq
end
@[reducible] def rInt (k:IntKind) (n:Int):List RV:=[.int k n]
@[reducible] def YNv (b:Bool):List RV:=[.bool b]
@[reducible] def rSl {α:Type} (f:α→List RV) (l:List α):List RV:=[.sl (l.map f)]
theorem YEj {α:Type} {l:List α} {z:Int} {a:α} (h:idx l z=some a):0≤z∧l[z.toNat]? = some a∧z<l.length:=by
 unfold idx at h
 split at h
 ·have:=(List.getElem?_eq_some_iff.1 h).1
  exact ⟨‹_›,h,by omega⟩
 ·cases h
theorem YRK {α:Type} {l l':List α} {lo hi:Int} (h:slc l lo hi=some l'):0≤lo∧lo≤hi∧hi≤l.length∧l'=(l.drop lo.toNat).take (hi.toNat-lo.toNat):=by
 unfold slc at h
 split at h
 ·rename_i hc; exact ⟨hc.1,hc.2.1,hc.2.2,(Option.some.inj h).symm⟩
 ·cases h
section
variable {P:Program} {c:Bool} {o:Oper} {R:Env} {h:Heap} {n:Nat} {α:Type} {f:α→List RV}
theorem ms_idx {t e:TypeId} {sz:Nat} {x y:Operand} {l:List α} {k:IntKind} {z:Int} {a:α} (ho:o.op = .indexAddr t x y) (ht:YEU P t e sz) (hx:Ev c R x (.r (.sl (l.map f)))) (hy:Ev c R y (.r (.int k z)))
  (hlen : ∀ a,(f a).length=sz) (hi:c=true→idx l z=some a):OpQ P c o R h (.rop (f a) 0):=
 YHY ho ht hx hy (fun hc=>(YEj (hi hc)).1) (fun hc=>by rw [List.getElem?_map,(YEj (hi hc)).2.1]; rfl) (hlen a)
theorem YCw {t e e':TypeId} {sz:Nat} {x y:Operand} {id g:Nat} {l:List α} {k:IntKind} {z:Int} {a:α} (ho:o.op = .indexAddr t x y) (ht:YEU P t e sz) (hx:Ev c R x (.own id g))
  (hh:hget h id=some (.arr g e' sz (l.map f))) (hy:Ev c R y (.r (.int k z))) (hi:c=true→idx l z=some a):OpQ P c o R h (.ptr id g z.toNat 0):=
 YG9 ho ht hx hh hy (fun hc=>(YEj (hi hc)).1) (fun hc=>by rw [List.length_map]; exact (YEj (hi hc)).2.2)
theorem YEd {t:TypeId} {x:Operand} {id g k:Nat} {e:TypeId} {sz:Nat} {l:List α} {z:Int} {a:α} {d:RV} (ho:o.op = .load t x) (ht:YAx P t) (hx:Ev c R x (.ptr id g z.toNat k))
  (hh:c=true→hget h id=some (.arr g e sz (l.map f))) (hi:c=true→idx l z=some a) (hd:(f a)[k]? = some d):OpQ P c o R h (.r d):=
 YLV ho ht hx hh (row:=f a) (fun hc=>by rw [List.getElem?_map,(YEj (hi hc)).2.1]; rfl) (fun _=>hd)
theorem YXn {t:TypeId} {x:Operand} {row:List RV} {k:Nat} {d:RV} (ho:o.op = .load t x) (ht:YAx P t) (hx:Ev c R x (.rop row k)) (hd:row[k]? = some d):OpQ P c o R h (.r d):=YMy ho ht hx fun _=>hd
theorem YVr {t:TypeId} {x:Operand} {row:List RV} {sz:Nat} {cs:List AV} (ho:o.op = .load t x) (ht:YBq P t sz) (hx:Ev c R x (.rop row 0)) (hd:row.length=sz) (hcs:row.map AV.r=cs):OpQ P c o R h (.agg cs):=by
 subst hcs; exact YLW ho ht hx hd
theorem YIj {t:TypeId} {x:Operand} {id g k:Nat} {e:TypeId} {cs:List AV} {a:AV} (ho:o.op = .load t x) (ht:YAx P t) (hx:Ev c R x (.ptr id g 0 k)) (hh:hget h id=some (.box g e cs)) (ha:cs[k]? = some a):OpQ P c o R h a:=
 YLU ho ht hx (fun _=>hh) (fun _=>ha)
theorem YPM {t:TypeId} {x:Operand} {id g:Nat} {e:TypeId} {sz:Nat} {cs:List AV} (ho:o.op = .load t x) (ht:YBq P t sz) (hx:Ev c R x (.ptr id g 0 0)) (hh:hget h id=some (.box g e cs)) (hl:cs.length=sz):OpQ P c o R h (.agg cs):=
 YOx ho ht hx (fun _=>hh) hl
theorem YSa {t:TypeId} {x y:Operand} {s:List UInt8} {k:IntKind} {z:Int} {ch:UInt8} (ho:o.op = .index t x y) (ht:P.underlying t=some .string) (hx:Ev c R x (.r (.str s)))
  (hy:Ev c R y (.r (.int k z))) (hi:c=true→idx s z=some ch):OpQ P c o R h (.r (.int .u8 ch.toNat)):=
 YKB ho ht hx hy (fun hc=>(YEj (hi hc)).1) (fun hc=>(YEj (hi hc)).2.1)
theorem ms_add {t t':TypeId} {x y:Operand} {k:IntKind} {a b r:Int} (ho:o.op = .binOp .add t x y t') (hx:Ev c R x (.r (.int k a))) (hy:Ev c R y (.r (.int k b))) (hr:c=true→chk k (a+b)=some r):OpQ P c o R h (.r (.int k r)):=by
 intro hc; obtain ⟨h1,rfl⟩:=YJR (hr hc); exact sp_add ho hx hy h1 hc
theorem YBg {t t':TypeId} {x y:Operand} {k:IntKind} {a b r:Int} (ho:o.op = .binOp .sub t x y t') (hx:Ev c R x (.r (.int k a))) (hy:Ev c R y (.r (.int k b))) (hr:c=true→chk k (a-b)=some r):OpQ P c o R h (.r (.int k r)):=by
 intro hc; obtain ⟨h1,rfl⟩:=YJR (hr hc); exact sp_sub ho hx hy h1 hc
theorem ms_neg {t:TypeId} {x:Operand} {k:IntKind} {a r:Int} (ho:o.op = .unOp .neg t x) (hx:Ev c R x (.r (.int k a))) (hr:c=true→chk k (-a)=some r):OpQ P c o R h (.r (.int k r)):=by
 intro hc; obtain ⟨h1,rfl⟩:=YJR (hr hc); exact YWp ho hx h1 hc
theorem ms_quo {t t':TypeId} {x y:Operand} {k:IntKind} {a b r:Int} (ho:o.op = .binOp .quo t x y t') (hx:Ev c R x (.r (.int k a))) (hy:Ev c R y (.r (.int k b))) (hr:c=true→quoM k a b=some r):OpQ P c o R h (.r (.int k r)):=by
 intro hc
 have h0:=hr hc
 unfold quoM at h0
 split at h0
 ·cases h0
 ·obtain ⟨h1,rfl⟩:=YJR h0; exact YWm ho hx hy ‹_› h1 hc
theorem YWz {t t':TypeId} {x y:Operand} {k:IntKind} {a b r:Int} (ho:o.op = .binOp .rem t x y t') (hx:Ev c R x (.r (.int k a))) (hy:Ev c R y (.r (.int k b))) (hr:c=true→remM a b=some r):OpQ P c o R h (.r (.int k r)):=by
 intro hc
 have h0:=hr hc
 unfold remM at h0
 split at h0
 ·cases h0
 ·cases h0; exact YWl ho hx hy ‹_› hc
theorem YN7 {t t':TypeId} {x y:Operand} {a b r:List UInt8} (ho:o.op = .binOp .add t x y t') (hx:Ev c R x (.r (.str a))) (hy:Ev c R y (.r (.str b))) (hr:c=true→catM a b=some r):OpQ P c o R h (.r (.str r)):=by
 intro hc
 have h0:=hr hc
 unfold catM at h0
 split at h0
 ·cases h0; exact YTV ho hx hy ‹_› hc
 ·cases h0
def BndI (c:Bool) (R:Env) (dflt:Int):Option Operand→Int→Prop
 | none,z=>z=dflt
 | some x,z=>∃ k,Ev c R x (.r (.int k z))
theorem YN6 {t e:TypeId} {sz:Nat} {x:Operand} {lo hi:Option Operand} {l l':List α} {zl zh:Int} (ho:o.op = .slice t x lo hi none) (ht:YEU P t e sz) (hx:Ev c R x (.r (.sl (l.map f))))
  (hlo:BndI c R 0 lo zl) (hhi:BndI c R l.length hi zh) (hlen : ∀ a,(f a).length=sz) (hs:c=true→slc l zl zh=some l'):OpQ P c o R h (.r (.sl (l'.map f))):=by
 intro hc
 obtain ⟨h1,h2,h3,rfl⟩:=YRK (hs hc)
 rw [List.map_take,List.map_drop]
 refine YLS ho ht hx (l:=zl.toNat) (m:=zh.toNat) ?_ ?_ (fun _=>by omega) (fun _=>by rw [List.length_map]; omega) (fun row hr=>by obtain ⟨a,_,rfl⟩:=List.mem_map.1 hr; exact hlen a) hc
 ·cases lo with
  | none=>simp only [BndI] at hlo; subst hlo; rfl
  | some v=>obtain ⟨k,hk⟩:=hlo; exact ⟨k,zl,hk,fun _=>h1,rfl⟩
 ·cases hi with
  | none=>simp only [BndI] at hhi; subst hhi; simp [YU7]
  | some v=>obtain ⟨k,hk⟩:=hhi; exact ⟨k,zh,hk,fun _=>by omega,rfl⟩
theorem YOW {by_:Nat} {xs ys zs:List α} (h:app by_ xs ys=some zs):(xs.length+ys.length) * by_≤140737488355328∧xs.length+ys.length≤9223372036854775807∧zs=xs++ys:=by
 unfold app at h
 split at h
 ·exact ⟨‹_∧_›.1,‹_∧_›.2,(Option.some.inj h).symm⟩
 ·cases h
def SrcM (R:Env) (h:Heap) (x:Operand) (e:TypeId) (sz:Nat) (f:α→List RV) (ys:List α):Prop:=
 (Ev true R x (.r (.sl (ys.map f))) ∧ ∀ a,(f a).length=sz)∨(∃ id g,Ev true R x (.own id g)∧hget h id=some (.arr g e sz (ys.map f)))∨(Ev true R x (.cst (.slice none 0 0))∧ys=[])
theorem SrcM.src {x:Operand} {e:TypeId} {sz:Nat} {ys:List α} (hx:SrcM R h x e sz f ys):YQ1 true R h x sz (ys.map f):=by
 rcases hx with ⟨h1,h2⟩ | ⟨id,g,h1,h2⟩ | ⟨h1,rfl⟩
 ·exact .inl ⟨h1,fun _ row hr=>by obtain ⟨a,_,rfl⟩:=List.mem_map.1 hr; exact h2 a⟩
 ·exact .inr (.inl ⟨id,g,e,h1,h2⟩)
 ·exact .inr (.inr ⟨h1,rfl⟩)
theorem YCr {t e:TypeId} {sz by_:Nat} {s x:Operand} {id g:Nat} {xs ys zs:List α} (ho:o.op = .call { callee:=.builtin .append,args:=#[s,x],argTypes:=#[t,t] }) (ht:YAr P t e sz by_)
  (hs:Ev true R s (.own id g)) (hh:hget h id=some (.arr g e sz (xs.map f))) (hx:SrcM R h x e sz f ys) (hz:app by_ xs ys=some zs):YAV P true o R h n (.own id n) ((id,some (.arr n e sz (zs.map f))) :: h) (n+1):=by
 obtain ⟨h1,h2,rfl⟩:=YOW hz
 rw [List.map_append]
 exact YO1 ho ht hs hh hx.src (by simpa using h1) (by simpa using h2)
theorem YGV {t e:TypeId} {sz by_:Nat} {s x:Operand} (id:Nat) {ys zs:List α} (ho:o.op = .call { callee:=.builtin .append,args:=#[s,x],argTypes:=#[t,t] }) (ht:YAr P t e sz by_)
  (hs:Ev true R s (.cst (.slice none 0 0))) (hx:SrcM R h x e sz f ys) (hz:app by_ [] ys=some zs):YAV P true o R h n (.own id n) ((id,some (.arr n e sz (zs.map f))) :: h) (n+1):=by
 obtain ⟨h1,h2,h3⟩:=YOW hz
 rw [List.nil_append] at h3
 subst h3
 exact YI4 id ho ht hs hx.src (by simpa using h1) (by simpa using h2)
theorem YVq {t e:TypeId} {sz by_:Nat} {l k:Operand} (id:Nat) {m:Int} {z0:α} {r:List α} (ho:o.op = .makeSlice t l k) (ht:YAr P t e sz by_) (hz:ZRow P e (f z0))
  (hl:Ev true R l (.r (.int .i64 m))) (hk:Ev true R k (.r (.int .i64 m))) (hr:mk by_ m z0=some r):YAV P true o R h n (.own id n) ((id,some (.arr n e sz (r.map f))) :: h) (n+1):=by
 unfold mk at hr
 split at hr
 ·rename_i hc
  cases hr
  rw [List.map_replicate]
  exact YKA id ho ht hz hl hk hc.1 hc.2.1 hc.2.2
 ·cases hr
theorem YA6 {t e:TypeId} {sz by_ len:Nat} {parts:Array (Nat × Operand)} (id:Nat) {l:List α} (ho:o.op = .buildSlice t len parts) (ht:YAr P t e sz by_)
  (hp:YHD true R 0 parts.toList (l.map f)) (hlen:l.length=len) (hrow : ∀ a,(f a).length=sz) (hsmall:Nat.ble (len * sz) 16777216=true) :
  YAV P true o R h n (.own id n) ((id,some (.arr n e sz (l.map f))) :: h) (n+1):=
 YGq id ho ht hp (by rw [List.length_map]; exact hlen) (fun row hr=>by obtain ⟨a,_,rfl⟩:=List.mem_map.1 hr; exact hrow a) hsmall
theorem YN5 {t:TypeId} {x y:Operand} {id g k:Nat} {e:TypeId} {sz:Nat} {l:List α} {z:Int} {a v:α} {b:AV} {d:RV} (ho:o.op = .store t x y) (ht : ∃ i,P.info? t=some i∧i.size=1)
  (hx:Ev true R x (.ptr id g z.toNat k)) (hh:hget h id=some (.arr g e sz (l.map f))) (hi:idx l z=some a) (hy:Ev true R y b) (hd:YKO b=some d) (h1:(YAc b).length=1) (hk:Nat.blt k (f a).length=true) (hv:(f a).set k d=f v) :
  YAV P true o R h n .any ((id,some (.arr g e sz ((l.set z.toNat v).map f))) :: h) n:=by
 have:=YOu (n:=n) ho ht hx hh (row:=f a) (by rw [List.getElem?_map,(YEj hi).2.1]; rfl) (YAl hk) hy hd h1
 rwa [hv,← List.map_set] at this
theorem ms_len {t:TypeId} {e:TypeId} {sz:Nat} {x:Operand} {l:List α} (ho:o.op = .call { callee:=.builtin .len,args:=#[x],argTypes:=#[t] }) (ht:YEU P t e sz) (hx:Ev c R x (.r (.sl (l.map f)))):OpQ P c o R h (.r (.int .i64 l.length)):=YSM ho ht hx
theorem YH4 {t:TypeId} {e e':TypeId} {sz sz':Nat} {x:Operand} {id g:Nat} {l:List α} (ho:o.op = .call { callee:=.builtin .len,args:=#[x],argTypes:=#[t] }) (ht:YEU P t e sz) (hx:Ev c R x (.own id g))
  (hh:hget h id=some (.arr g e' sz' (l.map f))):OpQ P c o R h (.r (.int .i64 l.length)):=YQM ho ht hx hh
theorem ms_box {t:TypeId} {x:Operand} {a:AV} (id:Nat) {cs:List AV} (ho:o.op = .box t x) (hx:Ev c R x a) (hcs:YAc a=cs) (h1:cs.all AV.one=true):YAV P c o R h n (.ptr id n 0 0) ((id,some (.box n t cs)) :: h) (n+1):=by
 subst hcs; exact YWt id ho hx h1
theorem YVs {t:TypeId} {zv:Value} (id:Nat) {cs:List AV} (ho:o.op = .alloc t) (hz:YCB P t zv) (hcs:YAc (YHI zv)=cs) (h1:cs.all AV.one=true) :
  YAV P c o R h n (.ptr id n 0 0) ((id,some (.box n t cs)) :: h) (n+1):=by
 subst hcs; exact YRJ id ho hz h1
theorem YPL {t:TypeId} {x y:Operand} {id g k:Nat} {e:TypeId} {cs ds:List AV} {a:AV} {sz:Nat} (ho:o.op = .store t x y) (ht : ∃ i,P.info? t=some i∧i.size=sz) (hx:Ev c R x (.ptr id g 0 k))
  (hh:hget h id=some (.box g e cs)) (hy:Ev c R y a) (hsz:(YAc a).length=sz) (h1:(YAc a).all AV.one=true) (hfit:Nat.ble (k+sz) cs.length=true) (hds:YG8 cs k (YAc a)=ds) :
  YAV P c o R h n .any ((id,some (.box g e ds)) :: h) n:=by
 subst hds; exact YJ9 ho ht hx hh hy hsz h1 hfit
end
def Cv1 (a b:AV):Prop:=a=b∨b = .any∨(a = .cst (.slice none 0 0)∧b = .r (.sl []))
def CvL:List AV→List AV→Prop
 | [],[]=>True
 | a :: l,b :: m=>Cv1 a b∧CvL l m
 | _,_=>False
def CvA (a b:AV):Prop:=Cv1 a b ∨ ∃ cs ds,a = .agg cs∧b = .agg ds∧CvL cs ds
def CvE:Env→Env→Prop
 | [],_=>True
 | (t,v) :: r,e=>CvA (get e t) v∧CvE r e
def CvO (a b:Option AObj):Prop:=a=b∨b=none ∨ ∃ g e cs ds,a=some (.box g e cs)∧b=some (.box g e ds)∧CvL cs ds
def CvH:Heap→Heap→Prop
 | [],_=>True
 | (id,o) :: r,h=>CvO (hget h id) o∧CvH r h
theorem Cv1.rep {x:Cx} {a b:AV} (h:Cv1 a b) {v:Value} (hv:YAN x a v):YAN x b v:=by
 rcases h with rfl | rfl | ⟨rfl,rfl⟩
 ·exact hv
 ·exact .any _
 ·cases hv; exact .r .snil
theorem CvL.get {cs ds:List AV} (h:CvL cs ds):cs.length=ds.length ∧ ∀ (i:Nat) (b:AV),ds[i]? = some b → ∃ a,cs[i]? = some a∧Cv1 a b:=by
 induction cs generalizing ds with
 | nil=>cases ds with | nil=>exact ⟨rfl,by simp⟩ | cons _ _=>exact h.elim
 | cons c l ih=>
  cases ds with
  | nil=>exact h.elim
  | cons d m=>
   obtain ⟨h1,h2⟩:=h
   obtain ⟨h3,h4⟩:=ih h2
   refine ⟨by simp [h3],fun i b hb=>?_⟩
   cases i with
   | zero=>cases hb; exact ⟨c,rfl,h1⟩
   | succ i=>simp only [List.getElem?_cons_succ] at hb ⊢; exact h4 i b hb
theorem CvA.rep {x:Cx} {a b:AV} (h:CvA a b) {v:Value} (hv:YAN x a v):YAN x b v:=by
 rcases h with h | ⟨cs,ds,rfl,rfl,h⟩
 ·exact h.rep hv
 ·obtain ⟨h1,h2⟩:=h.get
  cases hv with
  | agg hl hall=>
   refine .agg (by omega) fun i b u hb hu=>?_
   obtain ⟨a,k1,k2⟩:=h2 i b hb
   exact k2.rep (hall i a u k1 hu)
theorem CvE.get {e' e:Env} (h:CvE e' e) (t:Nat):Al.get e' t = .any∨CvA (Al.get e t) (Al.get e' t):=by
 induction e' with
 | nil=>exact .inl rfl
 | cons p r ih=>
  obtain ⟨d,v⟩:=p
  rw [YBL]
  split
  ·rename_i hd; subst hd; exact .inr h.1
  ·exact ih h.2
theorem CvH.get {h' h:Heap} (k:CvH h' h) (t:Nat):hget h' t=none∨CvO (hget h t) (hget h' t):=by
 induction h' with
 | nil=>exact .inl rfl
 | cons p r ih=>
  obtain ⟨d,v⟩:=p
  rw [YAb]
  split
  ·rename_i hd; subst hd; exact .inr k.1
  ·exact ih k.2
theorem Cx.recast {y:Cx} (hok:y.ok) (S':Nat→Prop) (H':Nat→Option AObj) (n':Nat) (hn:y.n≤n') (hS : ∀ b,y.S b→S' b) (hSlt : ∀ b,S' b→b<y.w.heap.size) (hSF : ∀ b,S' b → ¬ y.F b)
  (hH : ∀ id o',H' id=some o' → ∃ o,y.H id=some o∧o.gen=o'.gen∧o.shape=o'.shape∧(∀ b k,y.β id=some (b,k) → ¬ S' b)∧(y.le { y with S:=S',H:=H',n:=n' } → ORep { y with S:=S',H:=H',n:=n' } (y.β id) o→ORep { y with S:=S',H:=H',n:=n' } (y.β id) o')) :
  y.le { y with S:=S',H:=H',n:=n' } ∧ ({ y with S:=S',H:=H',n:=n' } : Cx).ok:=by
 have hle:y.le { y with S:=S',H:=H',n:=n' }:=⟨Nat.le_refl _,rfl,rfl,rfl,fun _ _=>rfl,hS,rfl,hn,fun id o' h _=>by
  obtain ⟨o,h1,h2,h3,_⟩:=hH id o' h; exact ⟨o,h1,h2,h3,rfl⟩⟩
 refine ⟨hle,hSlt,hok.F_lt,hSF,fun id o' h=>?_,fun id o' b k h hb=>?_,fun id id' o o' b k k' h h'=>?_,hok.tabs.le hle⟩
 ·obtain ⟨o,h1,h2,h3,_,h5⟩:=hH id o' h
  obtain ⟨k1,k2⟩:=hok.obj id o h1
  exact ⟨by rw [← h2]; exact Nat.lt_of_lt_of_le k1 hn,h5 hle (k2.mono hle fun _ _ _=>rfl)⟩
 ·obtain ⟨o,h1,_,_,h4,_⟩:=hH id o' h
  obtain ⟨k1,k2,k3⟩:=hok.own id o b k h1 hb
  exact ⟨k1,h4 b k hb,k3⟩
 ·obtain ⟨o1,h1,_⟩:=hH id o h
  obtain ⟨o2,h2,_⟩:=hH id' o' h'
  exact hok.inj id id' o1 o2 b k k' h1 h2
theorem box_cv {x:Cx} {β:Option (Nat × Nat)} {g:Nat} {e:TypeId} {cs ds:List AV} (hl:cs.length=ds.length) (hc : ∀ (i:Nat) (b:AV),ds[i]? = some b → ∃ a,cs[i]? = some a ∧ ∀ v,YAN x a v→YAN x b v)
  (h:ORep x β (.box g e cs)):ORep x β (.box g e ds):=by
 obtain ⟨b,cur,h1,h2,h3,h4⟩:=h
 refine ⟨b,cur,h1,h2,by omega,fun j d hj=>?_⟩
 obtain ⟨a,k1,k2⟩:=hc j d hj
 obtain ⟨u,k3,k4,k5⟩:=h4 j a k1
 exact ⟨u,k3,k4,k2 u k5⟩
theorem Weak.cv {e' e:Env} {h' h:Heap} {n' n N:Nat} (he:CvE e' e) (hh:CvH h' h) (hn:n≤n'):Weak ⟨e,h,n,N⟩ ⟨e',h',n',N⟩:=by
 intro c0 a w ⟨_,hdef,hsz,y,hyw,hle,hok,hH,hyn,henv⟩
 have hrec:=Cx.recast hok y.S (hget h') n' (by rw [hyn]; exact hn) (fun _ h=>h) hok.S_lt hok.SF (fun id o' ho'=>by
  rcases hh.get id with h1 | h1
  ·rw [h1] at ho'; cases ho'
  ·rw [ho'] at h1
   rcases h1 with h1 | h1 | ⟨g,e0,cs,ds,h1,h2,h3⟩
   ·exact ⟨o',by rw [hH]; exact h1,rfl,rfl,fun b k hb=>(hok.own id o' b k (by rw [hH]; exact h1) hb).2.1,fun _ h=>h⟩
   ·cases h1
   ·cases h2
    obtain ⟨k1,k2⟩:=h3.get
    refine ⟨.box g e0 cs,by rw [hH]; exact h1,rfl,by simp [AObj.shape,k1],fun b k hb=>(hok.own id _ b k (by rw [hH]; exact h1) hb).2.1,fun _ hr=>box_cv k1 (fun i b hb=>?_) hr⟩
    obtain ⟨a,k3,k4⟩:=k2 i b hb
    exact ⟨a,k3,fun v hv=>k4.rep hv⟩)
 refine ⟨_,hdef,hsz,{ y with S:=y.S,H:=hget h',n:=n' },hyw,hle.trans hrec.1,hrec.2,rfl,rfl,fun t=>?_⟩
 rcases he.get t with h1 | h1
 ·rw [h1]; exact .any _
 ·exact h1.rep ((henv t).mono hrec.1)
def Fr1 (id g:Nat) (xs:List (List RV)) (a b:AV):Prop:=a=b∨b = .any∨(a = .own id g∧b = .r (.sl xs))
def FrL (id g:Nat) (xs:List (List RV)):List AV→List AV→Prop
 | [],[]=>True
 | a :: l,b :: m=>Fr1 id g xs a b∧FrL id g xs l m
 | _,_=>False
def FrA (id g:Nat) (xs:List (List RV)) (a b:AV):Prop:=Fr1 id g xs a b ∨ ∃ cs ds,a = .agg cs∧b = .agg ds∧FrL id g xs cs ds
def FrE (id g:Nat) (xs:List (List RV)):Env→Env→Prop
 | [],_=>True
 | (t,v) :: r,e=>FrA id g xs (get e t) v∧FrE id g xs r e
def FrO (id g:Nat) (xs:List (List RV)) (a b:Option AObj):Prop:=a=b∨b=none∨(∃ g0 e cs ds,a=some (.box g0 e cs)∧b=some (.box g0 e ds)∧FrL id g xs cs ds) ∨
  ∃ g0 e ys k zs,a=some (.hot g0 e ys k id g)∧b=some (.arr g0 e 1 zs)∧zs=ys.set k [.sl xs]
def FrH (id g:Nat) (xs:List (List RV)):Heap→Heap→Prop
 | [],_=>True
 | (i,o) :: r,h=>Nat.beq i id=false∧FrO id g xs (hget h i) o∧FrH id g xs r h
theorem FrL.get {id g:Nat} {xs:List (List RV)} {cs ds:List AV} (h:FrL id g xs cs ds):cs.length=ds.length ∧ ∀ (i:Nat) (b:AV),ds[i]? = some b → ∃ a,cs[i]? = some a∧Fr1 id g xs a b:=by
 induction cs generalizing ds with
 | nil=>cases ds with | nil=>exact ⟨rfl,by simp⟩ | cons _ _=>exact h.elim
 | cons c l ih=>
  cases ds with
  | nil=>exact h.elim
  | cons d m=>
   obtain ⟨h1,h2⟩:=h
   obtain ⟨h3,h4⟩:=ih h2
   refine ⟨by simp [h3],fun i b hb=>?_⟩
   cases i with
   | zero=>cases hb; exact ⟨c,rfl,h1⟩
   | succ i=>simp only [List.getElem?_cons_succ] at hb ⊢; exact h4 i b hb
theorem FrE.get {id g:Nat} {xs:List (List RV)} {e' e:Env} (h:FrE id g xs e' e) (t:Nat):Al.get e' t = .any∨FrA id g xs (Al.get e t) (Al.get e' t):=by
 induction e' with
 | nil=>exact .inl rfl
 | cons p r ih=>
  obtain ⟨d,v⟩:=p
  rw [YBL]
  split
  ·rename_i hd; subst hd; exact .inr h.1
  ·exact ih h.2
theorem FrH.get {id g:Nat} {xs:List (List RV)} {h' h:Heap} (k:FrH id g xs h' h) (t:Nat):hget h' t=none∨(t≠id∧FrO id g xs (hget h t) (hget h' t)):=by
 induction h' with
 | nil=>exact .inl rfl
 | cons p r ih=>
  obtain ⟨d,v⟩:=p
  rw [YAb]
  split
  ·rename_i hd; subst hd; exact .inr ⟨Nat.ne_of_beq_eq_false k.1,k.2.1⟩
  ·exact ih k.2.2
theorem Weak.frz {e' e:Env} {h' h:Heap} {n N:Nat} (id:Nat) {g:Nat} {et:TypeId} {sz:Nat} {xs:List (List RV)} (hh0:hget h id=some (.arr g et sz xs)) (he:FrE id g xs e' e) (hh:FrH id g xs h' h):Weak ⟨e,h,n,N⟩ ⟨e',h',n,N⟩:=by
 intro c0 a w ⟨_,hdef,hsz,y,hyw,hle,hok,hH,hyn,henv⟩
 have hHid:y.H id=some (.arr g et sz xs):=by rw [hH]; exact hh0
 let S':Nat→Prop:=fun b=>y.S b ∨ ∃ k,y.β id=some (b,k)
 have hfr : ∀ {z:Cx},z.w=y.w→z.S=S' → ∀ {a b:AV},Fr1 id g xs a b → ∀ v,YAN y a v→(YAN z a v)→YAN z b v:=by
  intro z hzw hzS a b hf v hv hv'
  rcases hf with rfl | rfl | ⟨rfl,rfl⟩
  ·exact hv'
  ·exact .any _
  ·refine .r ?_
   have:=YGS hok hHid hv (S':=S') (fun _ h=>.inl h) (fun b k hb=>.inr ⟨k,hb⟩)
   rw [hzw,hzS]; exact this
 have hrec:=Cx.recast hok S' (hget h') y.n (Nat.le_refl _) (fun _ h=>.inl h) (fun b hb=>by
   rcases hb with hb | ⟨k,hb⟩
   ·exact hok.S_lt b hb
   ·exact (hok.own id _ b k hHid hb).1) (fun b hb=>by
   rcases hb with hb | ⟨k,hb⟩
   ·exact hok.SF b hb
   ·exact (hok.own id _ b k hHid hb).2.2) (fun i o' ho'=>by
  rcases hh.get i with h1 | ⟨hne,h1⟩
  ·rw [h1] at ho'; cases ho'
  ·rw [ho'] at h1
   have hS2 : ∀ o,y.H i=some o → ∀ b k,y.β i=some (b,k) → ¬ S' b:=by
    intro o ho b k hb
    rintro (h2 | ⟨k',h2⟩)
    ·exact (hok.own i o b k ho hb).2.1 h2
    ·exact hne (hok.inj i id o _ b k k' ho hHid hb h2)
   rcases h1 with h1 | h1 | ⟨g0,e0,cs,ds,h1,h2,h3⟩ | ⟨g0,e0,ys,k,zs,h1,h2,rfl⟩
   ·exact ⟨o',by rw [hH]; exact h1,rfl,rfl,hS2 o' (by rw [hH]; exact h1),fun _ h=>h⟩
   ·cases h1
   ·cases h2
    obtain ⟨k1,k2⟩:=h3.get
    have hyo:y.H i=some (.box g0 e0 cs):=by rw [hH]; exact h1
    refine ⟨.box g0 e0 cs,hyo,rfl,by simp [AObj.shape,k1],hS2 _ hyo,fun hle2 _=>?_⟩
    obtain ⟨_,b,cur,m1,m2,m3,m4⟩:=hok.obj i _ hyo
    refine ⟨b,cur,m1,m2,by omega,fun j d hj=>?_⟩
    obtain ⟨a,k3,k4⟩:=k2 j d hj
    obtain ⟨u,k5,k6,k7⟩:=m4 j a k3
    exact ⟨u,k5,k6,hfr (z:={ y with S:=S',H:=hget h',n:=y.n }) rfl rfl k4 u k7 (k7.mono hle2)⟩
   ·cases h2
    have hyo:y.H i=some (.hot g0 e0 ys k id g):=by rw [hH]; exact h1
    refine ⟨.hot g0 e0 ys k id g,hyo,rfl,by simp [AObj.shape],hS2 _ hyo,fun hle2 _=>?_⟩
    obtain ⟨_,m1,m2,hdr,us,m3,m4,m5,u0,m6,m7⟩:=hok.obj i _ hyo
    have hbs : ∀ b,y.S b→y.w.heap[b]? = y.w.heap[b]?:=fun _ _=>rfl
    refine ⟨Nat.one_pos,fun row hr=>?_,hdr,us,by rw [List.length_set]; exact m3,by rw [List.length_set]; exact m4,fun i' row c d q1 q2=>?_⟩
    ·rcases List.mem_or_eq_of_mem_set hr with hr | rfl
     ·exact m2 row hr
     ·rfl
    ·rw [List.getElem?_set] at q1
     split at q1
     ·rename_i hik; subst hik
      cases q1
      have hc0:c=0:=by
       have:=(List.getElem?_eq_some_iff.1 q2).1
       simp at this; omega
      subst hc0
      cases q2
      refine ⟨u0,by simpa using m6,YGS hok hHid m7 (fun _ h=>.inl h) (fun b k hb=>.inr ⟨k,hb⟩)⟩
     ·rename_i hik
      have hc0:c=0:=by
       have:=(List.getElem?_eq_some_iff.1 q2).1
       have:=m2 row (List.mem_of_getElem? q1)
       omega
      subst hc0
      obtain ⟨u,k3,k4⟩:=m5 i' row d (fun e=>hik e.symm) q1 q2
      exact ⟨u,by simpa using k3,k4.mono (fun _ _=>rfl) (fun _ h=>.inl h)⟩)
 refine ⟨_,hdef,hsz,{ y with S:=S',H:=hget h',n:=y.n },hyw,hle.trans hrec.1,hrec.2,rfl,hyn,fun t=>?_⟩
 rcases he.get t with h1 | h1
 ·rw [h1]; exact .any _
 ·rcases h1 with h1 | ⟨cs,ds,h1,h2,h3⟩
  ·exact hfr (z:={ y with S:=S',H:=hget h',n:=y.n }) rfl rfl h1 _ (henv t) ((henv t).mono hrec.1)
  ·rw [h2]
   obtain ⟨k1,k2⟩:=h3.get
   have hv:=henv t
   rw [h1] at hv
   generalize hu:a.tmps.getD t undef=v at hv
   cases hv with
   | @agg _ us hl hall=>
    refine .agg (by omega) fun i b u hb hu'=>?_
    obtain ⟨a0,k3,k4⟩:=k2 i b hb
    exact hfr (z:={ y with S:=S',H:=hget h',n:=y.n }) rfl rfl k4 u (hall i a0 u k3 hu') ((hall i a0 u k3 hu').mono hrec.1)
theorem YAu {ρ:Type} {P:Program} {T r:ρ} {rs:List ResultVar} {k:Nat} {x:Exit} {s:St} (F:ρ→AV→Heap→Prop) (e:some T=some r) (h:RetH P rs k (F T) x s):RetH P rs k (F r) x s:=by cases e; exact h
theorem AW.seq_w {P:Program} {Q:Exit→St→Prop} {s:St} {x y:Code} (h : ∀ K:St→Prop,(∀ s,AW P y Q s→K s)→(∀ s s',Weak s s'→K s'→K s)→AW P x (YIG K Q) s):AW P (.seq x y) Q s:=
 .seq (h _ (fun _ h=>h) fun _ _ hw h=>.weak hw h)
def RetW (Q:Exit→St→Prop) (e:Exit) (s:St):Prop:=∃ s',Weak s s'∧Q e s'
theorem RetW.mk {Q:Exit→St→Prop} {e:Exit} {s s':St} (hw:Weak s s') (h:Q e s'):RetW Q e s:=⟨s',hw,h⟩
theorem AW.retW {P:Program} {c:Code} {Q:Exit→St→Prop} {s:St} (h:AW P c (RetW Q) s):AW P c Q s:=
 fun z hz c0 a w hs=>wpIn_mono (h z hz c0 a w hs) fun _ _ _ ⟨ho,_,⟨s'',hw,hq⟩,hs'⟩=>⟨ho,s'',hq,hw _ _ _ hs'⟩
theorem AHC.mkw {P : Program} {f : FuncId} {fn : Func} {code : Code} {args : List AV} {k N : Nat} {hc : Heap} {Post : AV → Heap → Prop} (hf : P.funcs[f]? = some fn) (hb : fn.body = some code) (hname : (fn.name == "runtime.NumGoroutine") = false) (hN : fn.ntmps = N)
  (hlen:args.length≤N) (hw : ∀ n0,AW P code (RetW (RetH P fn.results.toList k Post)) ⟨YCt 0 args,hc,n0,N⟩):AHC P f k args hc Post:=AHC.mk hf hb hname hN hlen fun n0=>(hw n0).retW
def vec (l:List Nat):Nat→Nat:=fun k=>l.getD k 0
theorem ob1k {a0 α:Type} {m:Option (a0)} {f:a0→Option α} {r:α} {G:Prop} (h:bnd1 m f=some r) (k : ∀ x0,m=some x0→f x0=some r→G):G:=by
 cases m with
 | none=>cases h
 | some p=>exact k _ rfl h
theorem jb1k {a0 α:Type} {m:Option (a0)} {f:a0→Option α} {r:α} {G:Prop} (h:bnd1 m f=some r) (k : ∀ p,m=some p→(∀ x0,p=x0→f x0=some r)→G):G:=by
 obtain ⟨p,h1,h2⟩:=jb1 h; exact k p h1 h2
theorem jc1k {a0 α:Type} {m:Option (Ctl (a0) α)} {f:a0→Option α} {r:α} {G:Prop} (h:ctl1 m f=some r) (k : ∀ o,m=some o→(∀ x0,o = .nrm x0→f x0=some r)→(∀ t,o = .ext t→some t=some r)→G):G:=by
 obtain ⟨p,h1,h2,h3⟩:=jc1 h; exact k p h1 h2 h3
def YR8 {a0 ρ:Type} (v:(a0) ⊕ ρ) (R:a0→(Nat→Nat)→St) (st:St):Prop:=∃ x0 i,v = .inl x0∧Weak st (R x0 i)
theorem YR8.mk {a0 ρ:Type} {v:(a0) ⊕ ρ} {R:a0→(Nat→Nat)→St} {st:St} {x0:_} (e:some (Sum.inl x0)=some v) (i:Nat→Nat) (hw:Weak st (R x0 i)):YR8 v R st:=⟨_,i,(Option.some.inj e).symm,hw⟩
theorem AW.iter1 {a0 ρ:Type} {f:(a0)→Option ((a0) ⊕ ρ)} {P:Program} {Q:Exit→St→Prop} {s:St} {x:Code} {x0:a0} {o:ρ} (R:a0→(Nat→Nat)→St) (i0:Nat→Nat) (hit:Al.iter f x0=some o) (hw:Weak s (R x0 i0))
  (round : ∀ x0 i v,f x0=some v→(∀ q,v = .inr q→o=q)→AW P x (YIG (YR8 v R) Q) (R x0 i)):AW P (.loop x) Q s:=by
 refine AW.iter (fun (a:a0) st=>∃ i,st=R a i) hit ⟨_,hw,i0,rfl⟩ ?_
 rintro x0 st v ⟨i,rfl⟩ hv hx
 refine (round x0 i v hv hx).mono fun e st' hq=>?_
 cases e with
 | normal=>
  obtain ⟨y0,i',e,hw'⟩:=hq
  exact ⟨_,e,_,hw',i',rfl⟩
 | exit _=>exact hq
 | goto _=>exact hq
 | ret=>exact hq
 | panic _=>exact hq
 | outgrown=>exact hq
theorem ob2k {a0 a1 α:Type} {m:Option (a0 × a1)} {f:a0→a1→Option α} {r:α} {G:Prop} (h:bnd2 m f=some r) (k : ∀ x0 x1,m=some (x0,x1)→f x0 x1=some r→G):G:=by
 cases m with
 | none=>cases h
 | some p=>exact k _ _ rfl h
theorem jb2k {a0 a1 α:Type} {m:Option (a0 × a1)} {f:a0→a1→Option α} {r:α} {G:Prop} (h:bnd2 m f=some r) (k : ∀ p,m=some p→(∀ x0 x1,p=(x0,x1)→f x0 x1=some r)→G):G:=by
 obtain ⟨p,h1,h2⟩:=jb2 h; exact k p h1 h2
theorem jc2k {a0 a1 α:Type} {m:Option (Ctl (a0 × a1) α)} {f:a0→a1→Option α} {r:α} {G:Prop} (h:ctl2 m f=some r) (k : ∀ o,m=some o→(∀ x0 x1,o = .nrm (x0,x1)→f x0 x1=some r)→(∀ t,o = .ext t→some t=some r)→G):G:=by
 obtain ⟨p,h1,h2,h3⟩:=jc2 h; exact k p h1 h2 h3
def YDV {a0 a1 ρ:Type} (v:(a0 × a1) ⊕ ρ) (R:a0→a1→(Nat→Nat)→St) (st:St):Prop:=∃ x0 x1 i,v = .inl (x0,x1)∧Weak st (R x0 x1 i)
theorem YDV.mk {a0 a1 ρ:Type} {v:(a0 × a1) ⊕ ρ} {R:a0→a1→(Nat→Nat)→St} {st:St} {x0:a0} {x1:a1} (e:some (Sum.inl (x0,x1))=some v) (i:Nat→Nat) (hw:Weak st (R x0 x1 i)):YDV v R st:=⟨_,_,i,(Option.some.inj e).symm,hw⟩
theorem AW.iter2 {a0 a1 ρ:Type} {f:(a0 × a1)→Option ((a0 × a1) ⊕ ρ)} {P:Program} {Q:Exit→St→Prop} {s:St} {x:Code} {x0:a0} {x1:a1} {o:ρ} (R:a0→a1→(Nat→Nat)→St) (i0:Nat→Nat) (hit:Al.iter f (x0,x1)=some o) (hw:Weak s (R x0 x1 i0))
  (round : ∀ x0 x1 i v,f (x0,x1)=some v→(∀ q,v = .inr q→o=q)→AW P x (YIG (YDV v R) Q) (R x0 x1 i)):AW P (.loop x) Q s:=by
 refine AW.iter (fun (a:a0 × a1) st=>∃ i,st=R a.1 a.2 i) hit ⟨_,hw,i0,rfl⟩ ?_
 rintro ⟨x0,x1⟩ st v ⟨i,rfl⟩ hv hx
 refine (round x0 x1 i v hv hx).mono fun e st' hq=>?_
 cases e with
 | normal=>
  obtain ⟨y0,y1,i',e,hw'⟩:=hq
  exact ⟨_,e,_,hw',i',rfl⟩
 | exit _=>exact hq
 | goto _=>exact hq
 | ret=>exact hq
 | panic _=>exact hq
 | outgrown=>exact hq
theorem ob3k {a0 a1 a2 α:Type} {m:Option (a0 × a1 × a2)} {f:a0→a1→a2→Option α} {r:α} {G:Prop} (h:bnd3 m f=some r) (k : ∀ x0 x1 x2,m=some (x0,x1,x2)→f x0 x1 x2=some r→G):G:=by
 cases m with
 | none=>cases h
 | some p=>exact k _ _ _ rfl h
theorem jc3k {a0 a1 a2 α:Type} {m:Option (Ctl (a0 × a1 × a2) α)} {f:a0→a1→a2→Option α} {r:α} {G:Prop} (h:ctl3 m f=some r) (k : ∀ o,m=some o→(∀ x0 x1 x2,o = .nrm (x0,x1,x2)→f x0 x1 x2=some r)→(∀ t,o = .ext t→some t=some r)→G):G:=by
 obtain ⟨p,h1,h2,h3⟩:=jc3 h; exact k p h1 h2 h3
def YR7 {a0 a1 a2 ρ:Type} (v:(a0 × a1 × a2) ⊕ ρ) (R:a0→a1→a2→(Nat→Nat)→St) (st:St):Prop:=∃ x0 x1 x2 i,v = .inl (x0,x1,x2)∧Weak st (R x0 x1 x2 i)
theorem YR7.mk {a0 a1 a2 ρ:Type} {v:(a0 × a1 × a2) ⊕ ρ} {R:a0→a1→a2→(Nat→Nat)→St} {st:St} {x0:a0} {x1:a1} {x2:a2} (e:some (Sum.inl (x0,x1,x2))=some v) (i:Nat→Nat) (hw:Weak st (R x0 x1 x2 i)):YR7 v R st:=⟨_,_,_,i,(Option.some.inj e).symm,hw⟩
theorem AW.iter3 {a0 a1 a2 ρ:Type} {f:(a0 × a1 × a2)→Option ((a0 × a1 × a2) ⊕ ρ)} {P:Program} {Q:Exit→St→Prop} {s:St} {x:Code} {x0:a0} {x1:a1} {x2:a2} {o:ρ} (R:a0→a1→a2→(Nat→Nat)→St) (i0:Nat→Nat) (hit:Al.iter f (x0,x1,x2)=some o) (hw:Weak s (R x0 x1 x2 i0))
  (round : ∀ x0 x1 x2 i v,f (x0,x1,x2)=some v→(∀ q,v = .inr q→o=q)→AW P x (YIG (YR7 v R) Q) (R x0 x1 x2 i)):AW P (.loop x) Q s:=by
 refine AW.iter (fun (a:a0 × a1 × a2) st=>∃ i,st=R a.1 a.2.1 a.2.2 i) hit ⟨_,hw,i0,rfl⟩ ?_
 rintro ⟨x0,x1,x2⟩ st v ⟨i,rfl⟩ hv hx
 refine (round x0 x1 x2 i v hv hx).mono fun e st' hq=>?_
 cases e with
 | normal=>
  obtain ⟨y0,y1,y2,i',e,hw'⟩:=hq
  exact ⟨_,e,_,hw',i',rfl⟩
 | exit _=>exact hq
 | goto _=>exact hq
 | ret=>exact hq
 | panic _=>exact hq
 | outgrown=>exact hq
def YR6 {a0 a1 a2 a3 ρ:Type} (v:(a0 × a1 × a2 × a3) ⊕ ρ) (R:a0→a1→a2→a3→(Nat→Nat)→St) (st:St):Prop:=∃ x0 x1 x2 x3 i,v = .inl (x0,x1,x2,x3)∧Weak st (R x0 x1 x2 x3 i)
theorem YR6.mk {a0 a1 a2 a3 ρ:Type} {v:(a0 × a1 × a2 × a3) ⊕ ρ} {R:a0→a1→a2→a3→(Nat→Nat)→St} {st:St} {x0:a0} {x1:a1} {x2:a2} {x3:a3} (e:some (Sum.inl (x0,x1,x2,x3))=some v) (i:Nat→Nat) (hw:Weak st (R x0 x1 x2 x3 i)):YR6 v R st:=⟨_,_,_,_,i,(Option.some.inj e).symm,hw⟩
theorem AW.iter4 {a0 a1 a2 a3 ρ:Type} {f:(a0 × a1 × a2 × a3)→Option ((a0 × a1 × a2 × a3) ⊕ ρ)} {P:Program} {Q:Exit→St→Prop} {s:St} {x:Code} {x0:a0} {x1:a1} {x2:a2} {x3:a3} {o:ρ} (R:a0→a1→a2→a3→(Nat→Nat)→St) (i0:Nat→Nat) (hit:Al.iter f (x0,x1,x2,x3)=some o) (hw:Weak s (R x0 x1 x2 x3 i0))
  (round : ∀ x0 x1 x2 x3 i v,f (x0,x1,x2,x3)=some v→(∀ q,v = .inr q→o=q)→AW P x (YIG (YR6 v R) Q) (R x0 x1 x2 x3 i)):AW P (.loop x) Q s:=by
 refine AW.iter (fun (a:a0 × a1 × a2 × a3) st=>∃ i,st=R a.1 a.2.1 a.2.2.1 a.2.2.2 i) hit ⟨_,hw,i0,rfl⟩ ?_
 rintro ⟨x0,x1,x2,x3⟩ st v ⟨i,rfl⟩ hv hx
 refine (round x0 x1 x2 x3 i v hv hx).mono fun e st' hq=>?_
 cases e with
 | normal=>
  obtain ⟨y0,y1,y2,y3,i',e,hw'⟩:=hq
  exact ⟨_,e,_,hw',i',rfl⟩
 | exit _=>exact hq
 | goto _=>exact hq
 | ret=>exact hq
 | panic _=>exact hq
 | outgrown=>exact hq
theorem AOps.stepHI {P:Program} {ops:Array Oper} {rest:List Oper} {s:St} {K:St→Prop} {o:Oper} {d:Nat} {f:FuncId} {fo:Operand} {xs:Array Operand} {ats:Array TypeId} {caps bs:List AV} (L:List Nat) {hc:Heap} {F:(Nat→Nat)→AV} {G:(Nat→Nat)→Heap} (hg:o.guard=none) (hd:o.dst=some d) (hN:Nat.blt d s.N=true)
  (ho:o.op = .call { callee:=.value fo,args:=xs,argTypes:=ats }) (hfo:Ev true s.e fo (.fn f (renL L caps))) (hcc:YIR L.length caps=true) (hx:YNR s.e L xs.toList bs) (hsh:YJY s.h L hc) (hnd:L.Nodup)
  (hcon:AHC P f L.length (bs++caps) hc (fun r h'=>∃ i,r=F i∧h'=G i))
  (hr : ∀ i n',AOps P ops rest { e:=(d,ren L (F i)) :: s.e,h:=YMj L (G i) 1000 L++s.h,n:=n',N:=s.N } K):AOps P ops (o :: rest) s K:=
 AOps.stepH L hg hd hN ho hfo hcc hx hsh hnd hcon (by rintro r h' n' ⟨i,rfl,rfl⟩; exact hr i n')
def eqD:Option TypeDesc→AV→AV→Option Bool
 | some (.int _),.r (.int k m),.r (.int k' n)=>if k=k' then some (decide (m=n)) else none
 | some .bool,.r (.bool a),.r (.bool b)=>some (a == b)
 | some .string,.r (.str a),.r (.str b)=>some (decide (a=b))
 | _,_,_=>none
def eqL:List (Option TypeDesc)→List AV→List AV→Option Bool
 | [],[],[]=>some true
 | d :: ds,a :: l,b :: m=>match eqD d a b,eqL ds l m with
  | some x,some y=>some (x && y)
  | _,_=>none
 | _,_,_=>none
def YJZ (P:Program):Nat→List Field→List (Option TypeDesc)→Prop
 | _,[],[]=>True
 | i, f :: fs, d :: ds => (f.name == "_") = false ∧ f.offset = i ∧ P.underlying f.type = d ∧ YJZ P (i + 1) fs ds
 | _,_,_=>False
def EqTy (P:Program) (t:TypeId) (ds:List (Option TypeDesc)):Prop:=P.underlying t=some (.struct (P.fieldsOf t))∧P.stoodInHeld t=false∧P.eqGuardType P.depth t=false∧YJZ P 0 (P.fieldsOf t).toList ds
theorem YX2 {P:Program} {x:Cx} {d:Nat} {t:TypeId} {a b:AV} {u v:Value} {r:Bool} (ha:YAN x a u) (hb:YAN x b v) (hr:eqD (P.underlying t) a b=some r) (w:World) :
  (Op.equalIn (d+1) t u v).run P w = .ok r w ∧ ∃ e,P.underlying t=some e∧Scal e=true:=by
 unfold eqD at hr
 split at hr
 ·rename_i hd
  obtain rfl:=YBK ha
  obtain rfl:=YBK hb
  split at hr
  ·rename_i hk; subst hk; cases hr
   refine ⟨?_,_,hd,rfl⟩
   rw [run_equalIn_int w d t _ _ _ _ hd]
   congr 1
  ·cases hr
 ·rename_i hd
  obtain rfl:=YEC ha
  obtain rfl:=YEC hb
  cases hr
  exact ⟨run_equalIn_bool' w d t _ _ hd,_,hd,rfl⟩
 ·rename_i hd
  obtain rfl:=YGC ha
  obtain rfl:=YGC hb
  cases hr
  refine ⟨?_,_,hd,rfl⟩
  rw [run_equalIn_string w d t _ _ hd]
  congr 1
  simp [ByteArray.toList_eq]
  rename_i a b
  by_cases h:a=b <;> simp [h]
 ·cases hr
theorem YKL {P:Program} {x:Cx} {d:Nat} {us vs:Array Value} (w:World) : ∀ (fs:List Field) (ds:List (Option TypeDesc)) (i:Nat) (cs es:List AV) (r:Bool),YJZ P i fs ds→cs.length+i=us.size→es.length+i=vs.size →
  (∀ (j:Nat) (c:AV) (u:Value),cs[j]? = some c→us[i+j]? = some u→YAN x c u)→(∀ (j:Nat) (c:AV) (u:Value),es[j]? = some c→vs[i+j]? = some u→YAN x c u) →
  eqL ds cs es=some r→(Op.eqFields (d+1) us vs fs).run P w = .ok r w
 | [],ds,i,cs,es,r,hf,hl,hm,hc,he,hr=>by
  cases ds with
  | cons _ _=>exact hf.elim
  | nil=>
   unfold eqL at hr
   split at hr
   ·cases hr; simp [Op.eqFields]
   ·rename_i h; cases h
   ·cases hr
 | f :: fs,ds,i,cs,es,r,hf,hl,hm,hc,he,hr=>by
  cases ds with
  | nil=>exact hf.elim
  | cons dd ds=>
   obtain ⟨h1,h2,h3,h4⟩:=hf
   cases cs with
   | nil=>simp [eqL] at hr
   | cons a l=>
    cases es with
    | nil=>simp [eqL] at hr
    | cons b m=>
     simp only [eqL] at hr
     split at hr
     ·rename_i xb yb e1 e2
      cases hr
      have hui:i<us.size:=by simp at hl; omega
      have hvi:i<vs.size:=by simp at hm; omega
      have ra:=hc 0 a us[i] rfl (by simp)
      have rb:=he 0 b vs[i] rfl (by simp)
      subst h3
      obtain ⟨k1,e,k2,k3⟩:=YX2 (d:=d) ra rb e1 w
      have hpu:(part f.type us f.offset).run P w = .ok us[i] w:=by
       rw [h2]; simp [part,YFe k2,k3,Array.getElem?_eq_getElem hui]
      have hpv:(part f.type vs f.offset).run P w = .ok vs[i] w:=by
       rw [h2]; simp [part,YFe k2,k3,Array.getElem?_eq_getElem hvi]
      have hl':l.length+(i+1)=us.size:=by simp at hl; omega
      have hm':m.length+(i+1)=vs.size:=by simp at hm; omega
      have ih:=YKL (d:=d) (x:=x) (us:=us) (vs:=vs) w fs ds (i+1) l m yb h4 hl' hm'
       (fun j c u hj hu=>hc (j+1) c u (by simpa using hj) (by rw [← hu,show i+1+j=i+(j+1) by omega])) (fun j c u hj hu=>he (j+1) c u (by simpa using hj) (by rw [← hu,show i+1+j=i+(j+1) by omega])) e2
      have hne : f.name ≠ "_" := by intro h; rw [h] at h1; simp at h1
      simp only [Op.eqFields,if_pos hne,Sem.run_bind,hpu,hpv,Result.andThen_ok,k1]
      cases xb
      ·simp
      ·simpa using ih
     ·cases hr
section
variable {P:Program} {c:Bool} {o:Oper} {R:Env} {h:Heap}
theorem YNQ {t:TypeId} {x y:Operand} {cs ds:List AV} {kk:List (Option TypeDesc)} {r:Bool} {z:Cx} {a:Act} (ht:EqTy P t kk) (hx:YAN z (.agg cs) (a.eval x)) (hy:YAN z (.agg ds) (a.eval y)) (he:eqL kk cs ds=some r) :
  ∃ us vs,a.eval x = .agg us∧a.eval y = .agg vs ∧ ∀ w,(Op.equalIn 10000 t (.agg us) (.agg vs)).run P w = .ok r w:=by
 generalize a.eval x=u at hx
 generalize a.eval y=v at hy
 cases hx with
 | @agg _ us hl hall=>
  cases hy with
  | @agg _ vs hm hbll=>
   obtain ⟨h1,h2,_,h4⟩:=ht
   refine ⟨us,vs,rfl,rfl,fun w=>?_⟩
   rw [run_equalIn_agg w 9999 t us vs h1 h2]
   exact YKL (x:=z) w _ kk 0 cs ds r h4 hl hm (fun j b u hj hu=>hall j b u hj (by simpa using hu)) (fun j b u hj hu=>hbll j b u hj (by simpa using hu)) he
theorem YTY {t t':TypeId} {x y:Operand} {cs ds:List AV} {kk:List (Option TypeDesc)} {r:Bool} (ho:o.op = .binOp .eql t x y t') (ht:EqTy P t kk) (hx:Ev c R x (.agg cs)) (hy:Ev c R y (.agg ds)) (he:eqL kk cs ds=some r):OpQ P c o R h (.r (.bool r)):=by
 intro hc z a _ _ hev
 obtain ⟨us,vs,h1,h2,h3⟩:=YNQ ht (hx.rep hev hc) (hy.rep hev hc) he
 refine ⟨.bool r,fun w2 _=>?_,.r (.bool _)⟩
 unfold execOp
 rw [ho]
 simp only [h1,h2]
 simp [run_eqGuard_agg w2 .eql t x y us vs ht.2.2.1,run_eql_struct,h3]
theorem YFc {t t':TypeId} {x y:Operand} {cs ds:List AV} {kk:List (Option TypeDesc)} {r:Bool} (ho:o.op = .binOp .neq t x y t') (ht:EqTy P t kk) (hx:Ev c R x (.agg cs)) (hy:Ev c R y (.agg ds)) (he:eqL kk cs ds=some r):OpQ P c o R h (.r (.bool (!r))):=by
 intro hc z a _ _ hev
 obtain ⟨us,vs,h1,h2,h3⟩:=YNQ ht (hx.rep hev hc) (hy.rep hev hc) he
 refine ⟨.bool (!r),fun w2 _=>?_,.r (.bool _)⟩
 unfold execOp
 rw [ho]
 simp only [h1,h2]
 simp [run_eqGuard_agg w2 .neq t x y us vs ht.2.2.1,run_neq_struct,h3]
end
section
variable {P:Program} {ops:Array Oper} {rest:List Oper} {s:St} {K:St→Prop} {o:Oper}
theorem AOps.split (c:Bool) (h1:c=true→AOps P ops rest s K) (h2:c=false→AOps P ops rest s K):AOps P ops rest s K:=by
 cases c
 ·exact h2 rfl
 ·exact h1 rfl
theorem AOps.stepGF2 {d:Nat} {c:Bool} (hG:YBi s.e ops o c) (hc:c=false) (hd:o.dst=some d)
  (hN:Nat.blt d s.N=true) (hr:AOps P ops rest { e:=(d,.whn c (.r (.bool false))) :: s.e,h:=s.h,n:=s.n,N:=s.N } K):AOps P ops (o :: rest) s K:=by
 intro c0 a w ⟨_,hdef,hsz,y,hyw,hle,hok,hH,hn,he⟩ Q hQ
 subst hyw
 have hN':d<a.tmps.size:=by rw [hsz]; exact YAl hN
 refine wpList_step fun K' hK'=>?_
 rw [hG.wanted he,if_neg (by rw [hc]; decide)]
 refine hK' _ _ ?_
 rw [hd]
 exact hr c0 (a.put (some d) undef) y.w ⟨_,hdef,by simpa [Act.put] using hsz,y,rfl,hle,hok,hH,hn,he.put hN' (.whn (fun h=>by rw [hc] at h; cases h) (fun _=>rfl))⟩ Q hQ
theorem AOps.stepGF0 {c:Bool} (hG:YBi s.e ops o c) (hc:c=false) (hd:o.dst=none) (hr:AOps P ops rest s K):AOps P ops (o :: rest) s K:=by
 intro c0 a w ⟨_,hdef,hsz,y,hyw,hle,hok,hH,hn,he⟩ Q hQ
 subst hyw
 refine wpList_step fun K' hK'=>?_
 rw [hG.wanted he,if_neg (by rw [hc]; decide)]
 refine hK' _ _ ?_
 rw [hd]
 exact hr c0 (a.put none undef) y.w ⟨_,hdef,hsz,y,rfl,hle,hok,hH,hn,he⟩ Q hQ
end
section
variable {P:Program}
def GVs (G:ResultVar→AV→Prop):List ResultVar→List AV→Prop
 | [],[]=>True
 | x :: l,r :: rs=>G x r∧GVs G l rs
 | _,_=>False
def GAll (G:ResultVar→AV→Prop) (rs:List ResultVar) (r:AV):Prop:=match rs with
 | [x]=>G x r
 | _=>∃ l,r = .tup l∧GVs G rs l
theorem GVs.get {G:ResultVar→AV→Prop} {rs:List ResultVar} {l:List AV} (h:GVs G rs l):rs.length=l.length ∧ ∀ (i:Nat) (x:ResultVar),rs[i]? = some x → ∃ r,l[i]? = some r∧G x r:=by
 induction rs generalizing l with
 | nil=>cases l with | nil=>exact ⟨rfl,by simp⟩ | cons _ _=>exact h.elim
 | cons x rs ih=>
  cases l with
  | nil=>exact h.elim
  | cons r l=>
   obtain ⟨h1,h2⟩:=ih h.2
   refine ⟨by simp [h1],fun i y hi=>?_⟩
   cases i with
   | zero=>simp at hi; subst hi; exact ⟨r,rfl,h.1⟩
   | succ i=>simpa using h2 i y (by simpa using hi)
theorem YO6 {fn:Func} {y z:Cx} {a:Act} {r:AV} (G:ResultVar→AV→Prop) (hG : ∀ x r,G x r → ∃ u,YAN z r u∧(YGL a.tmps x).run P y.w = .ok u y.w) (hq:GAll G fn.results.toList r) : ∃ u,(results fn a.tmps).run P y.w = .ok u y.w∧YAN z r u:=by
 by_cases h1:fn.results.toList.length=1
 ·obtain ⟨x0,hx0⟩:=List.length_eq_one_iff.1 h1
  rw [hx0] at hq
  obtain ⟨u,hr,hrun0⟩:=hG x0 r hq
  have hrun:=YF3 (P:=P) (fn:=fn) (tmps:=a.tmps) (w:=y.w) [u] (fun i x hi=>by
   have hi':fn.results.toList[i]? = some x:=by simpa using hi
   rw [hx0] at hi'
   cases i with
   | zero=>simp at hi'; subst hi'; exact ⟨u,rfl,hrun0⟩
   | succ i=>simp at hi') (by rw [← Array.length_toList,h1]; rfl)
  exact ⟨_,hrun,hr⟩
 ·have hq' : ∃ l,r = .tup l∧GVs G fn.results.toList l:=by
   revert hq h1
   generalize fn.results.toList=rs
   intro hq h1
   match rs,h1,hq with
   | [],_,hq=>exact hq
   | [_],h1,_=>exact absurd rfl h1
   | _ :: _ :: _,_,hq=>exact hq
  obtain ⟨l,rfl,hall⟩:=hq'
  obtain ⟨hl,hg⟩:=hall.get
  have hread : ∀ i,i<l.length → ∃ u,∀ x r,fn.results.toList[i]? = some x→l[i]? = some r→YAN z r u∧(YGL a.tmps x).run P y.w = .ok u y.w:=by
   intro i hi
   have hi2:i<fn.results.toList.length:=by omega
   obtain ⟨r,h2,h3⟩:=hg i _ (List.getElem?_eq_getElem hi2)
   obtain ⟨u,h4,h5⟩:=hG _ _ h3
   refine ⟨u,fun x r' k1 k2=>?_⟩
   rw [List.getElem?_eq_getElem hi2] at k1; cases k1
   rw [h2] at k2; cases k2
   exact ⟨h4,h5⟩
  obtain ⟨us,hul,hut⟩:=YIq l.length hread
  have hsz:us.length=fn.results.size:=by rw [hul,← hl,Array.length_toList]
  have hrun:=YF3 (P:=P) (fn:=fn) (tmps:=a.tmps) (w:=y.w) us (fun i x hi=>by
   have hi':fn.results.toList[i]? = some x:=by simpa using hi
   obtain ⟨r,h2,_⟩:=hg i x hi'
   have hil:i<us.length:=by rw [hul]; exact (List.getElem?_eq_some_iff.1 h2).1
   exact ⟨us[i],List.getElem?_eq_getElem hil,(hut i _ (List.getElem?_eq_getElem hil) x r hi' h2).2⟩) hsz
  have hne : ¬ us.toArray.size=1:=by
   rw [List.size_toArray,hsz]
   exact fun e=>h1 (by rw [Array.length_toList]; exact e)
  rw [dif_neg hne] at hrun
  refine ⟨_,hrun,.tup (by rw [List.size_toArray,hul]) fun i c u k1 k2=>?_⟩
  have k3:us[i]? = some u:=by simpa using k2
  have hil:i<fn.results.toList.length:=by rw [hl]; exact (List.getElem?_eq_some_iff.1 k1).1
  exact (hut i u k3 _ c (List.getElem?_eq_getElem hil) k1).1
def RetV (P:Program) (s:St):ResultVar→AV→Prop
 | .tmp t,r=>Fz s.h (get s.e t) r
 | .cell a t,r=>(∃ id g e c,YAx P t∧get s.e a = .ptr id g 0 0∧hget s.h id=some (.box g e [c])∧Fz s.h c r)∨(∃ sz id g e cs,YBq P t sz∧get s.e a = .ptr id g 0 0∧hget s.h id=some (.box g e cs)∧cs.length=sz∧Fz s.h (.agg cs) r)
theorem RetV.rep {y:Cx} (hok:y.ok) {s:St} (hH:y.H=hget s.h) {a:Act} (he:YCO y s.e a) (x:ResultVar) (r:AV) (hr:RetV P s x r) : ∃ u,YAN y.frozen r u∧(YGL a.tmps x).run P y.w = .ok u y.w:=by
 cases x with
 | tmp t=>exact ⟨_,Fz.rep hok hH hr (he t),rfl⟩
 | cell c t=>
  rcases hr with ⟨id,g,e,v,ht,h1,h2,h3⟩ | ⟨sz,id,g,e,cs,ht,h1,h2,hl,h3⟩
  ·have hHid:y.H id=some (.box g e [v]):=by rw [hH]; exact h2
   have h0:=he c
   rw [h1] at h0
   obtain ⟨b,cur,k1,k2,k3,k4,k5⟩:=YHe hok hHid h0
   obtain ⟨u,h6,_,h7⟩:=k5 0 v rfl
   refine ⟨u,Fz.rep hok hH h3 h7,?_⟩
   obtain ⟨d,i,e1,e2,_,_⟩:=ht
   have hcell:=(cell_of_row _ b 0 cur e _ k3).trans h6
   simp only [YGL,k2]
   simp [asAddr,loadVar,YFe e1,e2,hcell]
  ·have hHid:y.H id=some (.box g e cs):=by rw [hH]; exact h2
   have h0:=he c
   rw [h1] at h0
   obtain ⟨b,cur,k1,k2,k3,k4,k5⟩:=YHe hok hHid h0
   have hcell : ∀ j,j<sz→y.w.cell? ⟨b,0+j,none⟩=some ((fun j=>cur.getD j undef) j):=by
    intro j hj
    have hj':j<cur.size:=by omega
    rw [Nat.zero_add,cell_of_row _ b j cur e _ k3]
    simp [hj']
   refine ⟨.agg ((List.range sz).map fun j=>cur.getD j undef).toArray,Fz.rep hok hH h3 (YFX hl _ fun j a hj=>?_),?_⟩
   ·obtain ⟨u,h6,_,h7⟩:=k5 _ _ hj
    obtain ⟨h8,h9⟩:=Array.getElem?_eq_some_iff.1 h6
    simpa [h8,h9] using h7
   ·have hrun:=YCu (P:=P) ht (w:=y.w) (b:=b) (k:=0) (fun j=>cur.getD j undef) hcell
    simp only [YGL,k2]
    simpa [asAddr,Instr.loadAt,Instr.sureAddr] using hrun
def RetF (P:Program) (rs:List ResultVar) (r:AV):Exit→St→Prop
 | .normal,s | .ret,s=>GAll (RetV P s) rs r
 | _,_=>False
theorem ARO.mkF {f : FuncId} {fn : Func} {code : Code} {args : List AV} {r : AV} {N : Nat} (hf : P.funcs[f]? = some fn) (hb : fn.body = some code) (hname : (fn.name == "runtime.NumGoroutine") = false) (hN : fn.ntmps = N) (hr : r.closed = true)
  (hlen:args.length≤N) (hw : ∀ n0,AW P code (RetF P fn.results.toList r) ⟨YCt 0 args,[],n0,N⟩):ARO P f args r:=by
 refine ⟨⟨fn,hf,by rw [hb]; rfl,hname⟩,hr,fun x vs hok hH hargs=>?_⟩
 have hvl:vs.size=args.length:=by simpa using hargs.1
 have hsim:Sim x ⟨YCt 0 args,[],x.n,N⟩ { tmps:=vs++Array.replicate (fn.ntmps-vs.size) undef,defers:=[] } x.w:=by
  refine ⟨_,rfl,by simp; omega,x,rfl,.refl x,hok,by rw [hH]; rfl,rfl,fun t=>?_⟩
  rcases YIC args 0 t with h1 | ⟨j,a,h1,h2,h3⟩
  ·rw [h1]; exact .any _
  ·rw [h3]
   have hj:j<vs.size:=by rw [hvl]; exact (List.getElem?_eq_some_iff.1 h2).1
   have ht:t=j:=by omega
   subst ht
   have:(vs++Array.replicate (fn.ntmps-vs.size) undef).getD t undef=vs[t]:=by
    simp [Array.getD,hj]
    omega
   rw [this]
   exact hargs.2 t a vs[t] h2 (by simp [hj])
 have fin : ∀ {e:Exit} {a:Act} {y:Cx} {s:St},GAll (RetV P s) fn.results.toList r→x.le y→y.ok→y.H=hget s.h→y.n=s.n→YCO y s.e a → ∃ u,(results fn a.tmps).run P y.w = .ok u y.w ∧ ∃ u' y',Ending.returned u = .returned u'∧y'.w=y.w∧x.le y'∧y'.ok∧YAN y' r u':=by
  intro e a y s hq hle hok' hH' _ he
  obtain ⟨u,h1,h2⟩:=YO6 (P:=P) (fn:=fn) (y:=y) (z:=y.frozen) (a:=a) (RetV P s) (fun x r h=>RetV.rep hok' hH' he x r h) hq
  exact ⟨u,h1,u,y.frozen,rfl,rfl,hle.trans Cx.frozen_le,Cx.frozen_ok hok',h2⟩
 refine YG3 hf hb hok hsim (hw x.n) fun e s a y hq hle hok' hH' hn' he=>?_
 cases e with
 | normal=>exact ⟨.inl rfl,fin (e:=.normal) hq hle hok' hH' hn' he⟩
 | ret=>exact ⟨.inr rfl,fin (e:=.ret) hq hle hok' hH' hn' he⟩
 | exit id=>exact hq.elim
 | goto l=>exact hq.elim
 | panic ch=>exact hq.elim
 | outgrown=>exact hq.elim
theorem RetV.t {s:St} {t:Nat} {r:AV} (h:Fz s.h (get s.e t) r):RetV P s (.tmp t) r:=h
theorem RetV.a {s:St} {a t id g e sz:Nat} {cs:List AV} {r:AV} (ht:YBq P t sz) (h1:get s.e a = .ptr id g 0 0) (h2:hget s.h id=some (.box g e cs)) (hl:cs.length=sz) (h:Fz s.h (.agg cs) r):RetV P s (.cell a t) r:=.inr ⟨_,_,_,_,_,ht,h1,h2,hl,h⟩
end
theorem YHd {ρ:Type} {P:Program} {T r:ρ} {x:Exit} {s:St} {x0:ResultVar} (F0:ρ→AV) (e:some T=some r) (hx:x = .ret∨x = .normal) (h0:RetV P s x0 (F0 T)):RetF P [x0] (F0 r) x s:=by
 cases e
 rcases hx with rfl | rfl
 ·exact h0
 ·exact h0
theorem YCX {ρ:Type} {P:Program} {T r:ρ} {x:Exit} {s:St} {x0 x1:ResultVar} (F0:ρ→AV) (F1:ρ→AV) (e:some T=some r) (hx:x = .ret∨x = .normal) (h0:RetV P s x0 (F0 T)) (h1:RetV P s x1 (F1 T)):RetF P [x0,x1] (.tup [F0 r,F1 r]) x s:=by
 cases e
 rcases hx with rfl | rfl
 ·exact ⟨_,rfl,⟨h0,h1,trivial⟩⟩
 ·exact ⟨_,rfl,⟨h0,h1,trivial⟩⟩
theorem YKV {ρ:Type} {P:Program} {T r:ρ} {x:Exit} {s:St} {x0 x1 x2:ResultVar} (F0:ρ→AV) (F1:ρ→AV) (F2:ρ→AV) (e:some T=some r) (hx:x = .ret∨x = .normal) (h0:RetV P s x0 (F0 T)) (h1:RetV P s x1 (F1 T)) (h2:RetV P s x2 (F2 T)):RetF P [x0,x1,x2] (.tup [F0 r,F1 r,F2 r]) x s:=by
 cases e
 rcases hx with rfl | rfl
 ·exact ⟨_,rfl,⟨h0,h1,h2,trivial⟩⟩
 ·exact ⟨_,rfl,⟨h0,h1,h2,trivial⟩⟩
theorem Fz.d {h:Heap} {a:AV} {d:RV} (e:a = .r d):Fz h a (.r d):=by subst e; exact .one (.closed _ rfl)
theorem Fz.g {h:Heap} {a:AV} {cs:List RV} {ds:List AV} (e:a = .agg ds) (e2:ds=cs.map .r):Fz h a (.agg ds):=by subst e; subst e2; exact .one (.closed _ (YPm _))
theorem EqTy.of {P:Program} {t:TypeId} {fs:Array Field} {ds:List (Option TypeDesc)} (h1:P.underlying t=some (.struct fs)) (h2:P.stoodInHeld t=false) (h3:P.eqGuardType P.depth t=false) (h4:YJZ P 0 fs.toList ds):EqTy P t ds:=by
 have:P.fieldsOf t=fs:=by unfold Program.fieldsOf; rw [h1]
 exact ⟨by rw [this]; exact h1,h2,h3,by rw [this]; exact h4⟩
def bAnd (k:IntKind) (a b:Int):Int:=k.wrap (BitVec.ofInt k.bits a &&& BitVec.ofInt k.bits b).toNat
def bOr (k:IntKind) (a b:Int):Int:=k.wrap (BitVec.ofInt k.bits a ||| BitVec.ofInt k.bits b).toNat
def bXor (k:IntKind) (a b:Int):Int:=k.wrap (BitVec.ofInt k.bits a ^^^ BitVec.ofInt k.bits b).toNat
def YL3 (k:IntKind) (a b:Int):Int:=k.wrap (BitVec.ofInt k.bits a &&& ~~~BitVec.ofInt k.bits b).toNat
def shlC (k:IntKind) (a:Int) (n:Nat):Int:=k.wrap (a * 2 ^ (min n k.bits))
def shrC (k:IntKind) (a:Int) (n:Nat):Int:=a.fdiv (2 ^ (min n k.bits))
def YI1 (l:List Int):List UInt8:=l.map fun n=>UInt8.ofNat n.toNat
def YGJ (s:List UInt8) (p:Nat):Nat × Nat:=Utf8.decode ⟨s.toArray⟩ p
def YRA (s:List UInt8):Option Bool:=if s.length≤9223372036854775807 then some (Lib.validD s) else none
section
variable {P:Program} {c:Bool} {o:Oper} {R:Env} {h:Heap} {n:Nat}
theorem YVY {x:Cx} {xs:List (List RV)} {v:Value} (hv:YAN x (.full xs) v):YAN x (.r (.sl xs)) v ∧ ∃ a,v = .slice a xs.length xs.length:=by
 cases hv with
 | full h hf=>exact ⟨.r h,hf⟩
theorem YPr {x:Cx} (hok:x.ok) {e:TypeId} {sz:Nat} (id:Nat) {xs ys:List (List RV)} {us news:List Value} {v':Value} {w':World} (h0:0<sz) (hown':w'.ownsRow x.w.heap.size e sz v' (xs.length+ys.length) (us++news))
  (hgr:x.w.grownBy w' none) (hul:us.length=xs.length * sz) (hrow : ∀ row∈xs,row.length=sz) (hrow' : ∀ row∈ys,row.length=sz)
  (hc : ∀ i row k d,xs[i]? = some row→row[k]? = some d → ∃ u,us[i * sz+k]? = some u∧RRep x.w x.S d u)
  (hnews : ∀ i row k d,ys[i]? = some row→row[k]? = some d → ∃ u,news[i * sz+k]? = some u∧RRep x.w x.S d u) :
  ∃ y:Cx,y.w=w'∧x.le y∧y.ok∧y.H=(fun i=>if id=i then some (.arr x.n e sz (xs++ys)) else x.H i)∧y.n=x.n+1∧YAN y (.own id x.n) v':=by
 have hown0:w'.ownsRow 0 e sz v' (xs.length+ys.length) (us++news):=by
  refine ⟨hown'.1,?_⟩
  rcases hown'.2 with h1 | ⟨g,cap,cur,h1,h2,h3⟩
  ·exact .inl h1
  ·exact .inr ⟨g,cap,cur,h1,Nat.zero_le _,h3⟩
 have hlt:=hown'.lt
 have hhdr:YFz (YMi v') (xs++ys).length v':=by
  rcases hown'.2 with ⟨rfl,h1⟩ | ⟨g,cap,cur,rfl,_⟩
  ·exact ⟨by rw [List.length_append]; exact h1,rfl⟩
  ·simp [YFz,YMi]
 have hbo : ∀ b k,YMi v'=some (b,k)→v'.ownBlock=some b:=by
  intro b k hbk
  cases v' with
  | slice a l cp=>
   cases a with
   | none=>cases hbk
   | some a=>simp only [YMi,Option.some.injEq,Prod.mk.injEq] at hbk; simp [Value.ownBlock,hbk.1]
  | _=>cases hbk
 have hup:=Cx.upd hok id (.arr x.n e sz (xs++ys)) w' (YMi v') (x.n+1) hgr.size hgr.os hgr.tape hgr.output
  (fun b hbl hne=>hgr.block b hbl (fun heq=>by cases heq))
  (fun b k hbk=>by
   have h1:=hbo b k hbk
   exact ⟨(hlt b h1).2,.inl (hlt b h1).1⟩)
  (by omega) (by simp [AObj.gen]) (fun hg=>absurd hg (by simp [AObj.gen]))
  (fun hle=>by
   have hbs : ∀ b,x.S b→w'.heap[b]? = x.w.heap[b]?:=fun b hb=>hle.blk b (.inl hb)
   refine ⟨h0,fun row hr=>(List.mem_append.1 hr).elim (hrow row) (hrow' row),v',us++news,hhdr,by rw [List.length_append]; exact hown0,fun i row k d h1 h2=>?_⟩
   by_cases hi':i<xs.length
   ·rw [List.getElem?_append_left hi'] at h1
    obtain ⟨u,h3,h4⟩:=hc i row k d h1 h2
    refine ⟨u,?_,h4.mono hbs (fun _ h=>h)⟩
    rw [List.getElem?_append_left ((List.getElem?_eq_some_iff.1 h3).1)]
    exact h3
   ·rw [List.getElem?_append_right (by omega)] at h1
    obtain ⟨u,h3,h4⟩:=hnews _ row k d h1 h2
    refine ⟨u,?_,h4.mono hbs (fun _ h=>h)⟩
    have e1:i * sz+k=us.length+((i-xs.length) * sz+k):=by
     rw [hul,Nat.sub_mul]
     have:xs.length * sz≤i * sz:=Nat.mul_le_mul_right _ (by omega)
     omega
    rw [e1,List.getElem?_append_right (by omega),Nat.add_sub_cancel_left]
    exact h3)
 refine ⟨_,rfl,hup.1,hup.2,rfl,rfl,.own (by simp) ?_ fun o' ho' _=>?_⟩
 ·rcases hown'.2 with ⟨rfl,_⟩ | ⟨g,cap,cur,rfl,_⟩ <;> rfl
 ·simp only [if_pos] at ho' ⊢
  cases ho'
  simpa [AObj.shape] using hhdr
theorem YMV {t e:TypeId} {sz by_:Nat} {s x:Operand} (id:Nat) {xs ys:List (List RV)} (ho:o.op = .call { callee:=.builtin .append,args:=#[s,x],argTypes:=#[t,t] }) (ht:YAr P t e sz by_)
  (hs:Ev c R s (.full xs)) (hx:YQ1 c R h x sz ys) (hrow : ∀ row∈xs,row.length=sz) (hne:ys≠[]) (hm:(xs.length+ys.length) * by_≤140737488355328) (hm2:xs.length+ys.length≤9223372036854775807) :
  YAV P c o R h n (.own id n) ((id,some (.arr n e sz (xs++ys))) :: h) (n+1):=by
 intro hc z w hok hH hn he K Q hK
 have ht0:=ht
 obtain ⟨ht1,ii,zz,hi,hisz,hiby,hz,hzs,_,h0⟩:=ht0
 obtain ⟨hsrc,hrow'⟩:=hx.src h0 hc hok hH he
 obtain ⟨hr,a0,hv⟩:=YVY (hs.rep he hc)
 have hfin : ∃ v' y,(Builtin.append_ #[t,t] o.type #[w.eval s,w.eval x]).run P z.w = .ok v' y.w∧z.le y∧y.ok∧y.H=(fun i=>if id=i then some (.arr z.n e sz (xs++ys)) else z.H i)∧y.n=z.n+1∧YAN y (.own id z.n) v':=by
  rcases YWk hr hrow h0 with ⟨rfl,cc,hv2⟩ | ⟨a,cap,olds,hv2,hlo,hocell,_,horep⟩
  ·rw [hv] at hv2
   simp only [List.length_nil,Value.slice.injEq] at hv2
   obtain ⟨rfl,_,_⟩:=hv2
   rw [hv]
   exact YIt (xs:=[]) hok ht id (World.ownsRow_nil z.w 0 e sz) (fun b hb=>by cases hb) (by simp) (by simp) hsrc hrow' (by unfold maxLen; simpa using hm2) (by simpa using hm) o.type
  ·rw [hv] at hv2
   simp only [Value.slice.injEq] at hv2
   obtain ⟨rfl,_,rfl⟩:=hv2
   rcases hsrc with ⟨hy,_⟩ | ⟨a2,cap2,news,hv3,hl,hcells,hone,hrep⟩
   ·exact absurd hy hne
   ·have hpos:0<ys.length:=List.length_pos_iff.2 hne
    obtain ⟨v',w',hrun,hown,hgr⟩:=run_append_arg_grows (P:=P) z.w t o.type e ii zz sz by_ ht1 hi hz hisz hiby hzs h0 a xs.length xs.length olds hlo hocell a2 ys.length cap2 news hl hcells (by omega) (by unfold maxLen; omega) hm
    obtain ⟨y,hyw,k1,k2,k3,k4,k5⟩:=YPr hok id h0 hown hgr hlo hrow hrow' horep hrep
    refine ⟨v',y,?_,k1,k2,k3,k4,k5⟩
    rw [hv,hv3,hyw]
    exact hrun
 obtain ⟨v',y,hrun,k1,k2,k3,k4,k5⟩:=hfin
 unfold Oper.wp execOp
 simp only [ho,resolve,invoke,builtin,Sem.run_bind,Sem.run_pure,Result.andThen_ok,List.map_toArray,List.map_cons,List.map_nil,hrun]
 exact hK v' y k1 k2 (by rw [k3,hH,hn,YB2]) (by rw [k4,hn]) (by rw [← hn]; exact k5)
def appF {α:Type} (by_:Nat) (xs ys:List α):Option (List α):=match ys with
 | []=>none
 | _=>app by_ xs ys
theorem YU4 {α:Type} {b:Nat} {xs ys zs:List α} (h:appF b xs ys=some zs):app b xs ys=some zs∧ys≠[]:=by
 cases ys with
 | nil=>cases h
 | cons y ys=>exact ⟨h,by simp⟩
variable {α:Type} {f:α→List RV}
theorem YQf {t e:TypeId} {sz by_:Nat} {s x:Operand} (id:Nat) {xs ys zs:List α} (ho:o.op = .call { callee:=.builtin .append,args:=#[s,x],argTypes:=#[t,t] }) (ht:YAr P t e sz by_)
  (hs:Ev true R s (.full (xs.map f))) (hx:SrcM R h x e sz f ys) (hf : ∀ a,(f a).length=sz) (hz:appF by_ xs ys=some zs):YAV P true o R h n (.own id n) ((id,some (.arr n e sz (zs.map f))) :: h) (n+1):=by
 obtain ⟨hz,hne⟩:=YU4 hz
 obtain ⟨h1,h2,rfl⟩:=YOW hz
 rw [List.map_append]
 exact YMV id ho ht hs hx.src (fun row hr=>by obtain ⟨a,_,rfl⟩:=List.mem_map.1 hr; exact hf a) (by simpa using hne) (by simpa using h1) (by simpa using h2)
end
section
variable {P:Program} {ops:Array Oper} {md:Region.Mode} {Q:Exit→Act→World→Prop} {S:World→Prop}
def YKr (P:Program) (md:Region.Mode) (ops:Array Oper) (Q:Exit→Act→World→Prop) (S:World→Prop) (L:Array Bool→Act→World→Prop):Nat→Array Bool→Act→World→Prop
 | 0,listed,a,w=>L listed a w
 | f+1,listed,a,w=>Region.ready md ops listed≠[] ∧ ∀ i∈Region.ready md ops listed,wpOp P ops Q i (fun a' w'=>S w'∧YKr P md ops Q S L f (listed.setIfInBounds i true) a' w') a w
theorem YMo {g:Nat} {L:Array Bool→Act→World→Prop} (hL : ∀ listed a w,L listed a w→wpAny P md ops Q g listed a w) :
  ∀ (f:Nat) (listed:Array Bool) (a:Act) (w:World),YKr P md ops Q S L f listed a w→wpAny P md ops Q (f+g) listed a w
 | 0,listed,a,w,h=>by rw [Nat.zero_add]; exact hL _ _ _ h
 | f+1,listed,a,w,h=>by
  rw [show f+1+g=(f+g)+1 by omega]
  exact ⟨fun h0=>absurd h0 h.1,fun i hi=>wpOp_mono (fun a' w' h'=>YMo hL f _ a' w' h'.2) (h.2 i hi)⟩
structure HI (md:Region.Mode) (ops:Array Oper) (n:Nat) (l0 listed:Array Bool):Prop where
 size:listed.size=ops.size
 closed : ∀ j oj,ops[j]? = some oj→listed.getD j false=true→l0.getD j false=true ∨ ∀ e∈oj.after,Region.binds md e=true→listed.getD e.on false=true
 tail : ∀ t,n≤t→t<ops.size→listed.getD t true=false
 mono : ∀ j,l0.getD j false=true→listed.getD j false=true
theorem HI.set {n i:Nat} {l0 listed:Array Bool} (inv:HI md ops n l0 listed) (hi:i∈Region.ready md ops listed) (hin:i<n):HI md ops n l0 (listed.setIfInBounds i true):=by
 obtain ⟨_,oi,hoi,hall⟩:=mem_ready.1 hi
 refine ⟨by simp [inv.size],fun j oj hj hl=>?_,fun t ht ht'=>by rw [getD_set_ne true (by omega)]; exact inv.tail t ht ht',fun j hj=>getD_set_true (inv.mono j hj)⟩
 by_cases hij:i=j
 ·subst hij
  have:oj=oi:=Option.some.inj (hj.symm.trans hoi)
  subst this
  exact .inr fun e he hb=>getD_set_true (hall e he hb)
 ·rw [getD_set_ne false hij] at hl
  rcases inv.closed j oj hj hl with h | h
  ·exact .inl h
  ·exact .inr fun e he hb=>getD_set_true (h e he hb)
def YVP (md:Region.Mode) (ops:Array Oper) (n:Nat) (l0:Array Bool):Bool:=
 (List.range n).all fun i=>l0.getD i false || (List.range (n+1)).any fun j=>decide (i<j) && !l0.getD j false && Region.waitsFor md ops j i
theorem YLN {n:Nat} {l0 listed:Array Bool} (hs:YVP md ops n l0=true) (hc:Region.chainB md ops n=true) (hn:n<ops.size) (inv:HI md ops n l0 listed) :
  ∀ (d i:Nat),n-i=d→i<n→listed.getD i true=false → ∀ t,n≤t→t ∉ Region.ready md ops listed:=by
 intro d
 induction d using Nat.strongRecOn with
 | _ d ih=>
  intro i hd hi hun t ht hr
  obtain ⟨_,ot,hot,hall⟩:=mem_ready.1 hr
  have htlt:t<ops.size:=(Array.getElem?_eq_some_iff.1 hot).1
  by_cases htn:t=n
  ·subst htn
   have h1:=List.all_eq_true.1 hs i (List.mem_range.2 hi)
   rw [Bool.or_eq_true] at h1
   rcases h1 with h1 | h1
   ·have:=inv.mono i h1
    rw [getD_both hun] at this; cases this
   obtain ⟨j,hj,hj2⟩:=List.any_eq_true.1 h1
   simp only [Bool.and_eq_true,decide_eq_true_eq,Bool.not_eq_true'] at hj2
   obtain ⟨oj,hoj,e,he,hb,hon⟩:=Region.waitsFor_spec hj2.2
   have hjle:j≤t:=by have:=List.mem_range.1 hj; omega
   by_cases hjt:j=t
   ·subst hjt
    have:oj=ot:=Option.some.inj (hoj.symm.trans hot)
    subst this
    have h2:=hall e he hb
    rw [hon,getD_both hun] at h2
    cases h2
   ·cases hl:listed.getD j false with
    | true=>
     rcases inv.closed j oj hoj hl with h3 | h3
     ·rw [h3] at hj2; cases hj2.1.2
     ·have h2:=h3 e he hb
      rw [hon,getD_both hun] at h2
      cases h2
    | false=>
     have hjs:j<listed.size:=by rw [inv.size]; omega
     exact ih (t-j) (by omega) j rfl (by omega) (getD_in hjs hl) t (Nat.le_refl _) hr
  ·have h1:=List.all_eq_true.1 hc t (List.mem_range.2 htlt)
   simp only [Bool.or_eq_true,decide_eq_true_eq] at h1
   rcases h1 with h1 | h1
   ·omega
   ·obtain ⟨o',ho',e,he,hb,hon⟩:=Region.waitsFor_spec h1
    have:o'=ot:=Option.some.inj (ho'.symm.trans hot)
    subst this
    have h2:=hall e he hb
    rw [hon,getD_both (inv.tail (t-1) (by omega) (by omega))] at h2
    cases h2
theorem YOa {n i:Nat} {oi:Oper} {v:Value} {l0:Array Bool} {L:Array Bool→Act→World→Prop} (hi:ops[i]? = some oi) (hsel : ∀ (j:Nat) (o:Oper) cs b,ops[j]? = some o→o.op ≠ .select cs b)
  (hQ : ∀ c a w,Q (.panic c) (a.put oi.dst v) w→Q (.panic c) a w) (hs:YVP md ops n l0=true) (hc:Region.chainB md ops n=true) (hn:n<ops.size) (hin:i<n)
  (hdone : ∀ listed a w,L listed a w → ∀ j∈Region.ready md ops listed,n≤j) :
  ∀ (f:Nat) (listed:Array Bool) (a:Act) (w:World),HI md ops n l0 listed →
   (∀ j oj,ops[j]? = some oj→j≠i→listed.getD j true=false→(∀ e∈oj.after,Region.binds md e=true→e.on≠i)→oi.apart ops oj=true) →
   i∈Region.ready md ops listed→YieldsIf P ops S oi v a→S w →
   YKr P md ops Q S L f (listed.setIfInBounds i true) (a.put oi.dst v) w→YKr P md ops Q S L (f+1) listed a w:=by
 intro f
 induction f with
 | zero=>
  intro listed a w inv _ hr hy hS H
  have hun:=(mem_ready.1 hr).1
  refine ⟨fun h=>(by rw [h] at hr; cases hr),fun j hj=>?_⟩
  have hjn:j<n:=by
   rcases Nat.lt_or_ge j n with h | h
   ·exact h
   ·exact absurd hj (YLN hs hc hn inv _ i rfl hin hun j h)
  by_cases hji:j=i
  ·subst hji; exact hy.wpOp hi hS ⟨hS,H⟩
  ·have:=hdone _ _ _ H j (ready_mono hj hji)
   omega
 | succ f ih=>
  intro listed a w inv hfree hr hy hS H
  have hun:=(mem_ready.1 hr).1
  refine ⟨fun h=>(by rw [h] at hr; cases hr),fun j hj=>?_⟩
  have hjn:j<n:=by
   rcases Nat.lt_or_ge j n with h | h
   ·exact h
   ·exact absurd hj (YLN hs hc hn inv _ i rfl hin hun j h)
  by_cases hji:j=i
  ·subst hji; exact hy.wpOp hi hS ⟨hS,H⟩
  ·have h1:=H.2 j (ready_mono hj hji)
   obtain ⟨hjun,oj,hoj,hall⟩:=mem_ready.1 hj
   have hnot : ∀ e∈oj.after,Region.binds md e=true→e.on≠i:=fun e he hb heq=>by
    have h1:=hall e he hb
    rw [heq,getD_both hun] at h1
    cases h1
   have h2:=wpOp_putIf hoj (hfree j oj hoj hji hjun hnot) (fun cs b=>hsel i oi cs b hi) (fun cs b=>hsel j oj cs b hoj) hQ hy h1
   have hfree' : ∀ k ok,ops[k]? = some ok→k≠i→(listed.setIfInBounds j true).getD k true=false →
     (∀ e∈ok.after,Region.binds md e=true→e.on≠i)→oi.apart ops ok=true:=fun k ok hk hki hun hno=>by
    refine hfree k ok hk hki ?_ hno
    by_cases hjk:j=k
    ·subst hjk; exact hjun
    ·rw [getD_set_ne true hjk] at hun; exact hun
   refine wpOp_mono (fun a' w' h3=>⟨h3.2.1,ih (listed.setIfInBounds j true) a' w' (inv.set hj hjn) hfree' (ready_mono hr (Ne.symm hji)) h3.1 h3.2.1 ?_⟩) h2
   rw [Array.setIfInBounds_comm _ _ hji]
   exact h3.2.2
def YQD (md:Region.Mode) (ops:Array Oper):List Nat→Array Bool→Bool
 | [],_=>true
 | i :: is,listed=>(Region.ready md ops listed).contains i && Region.free md ops listed i && YQD md ops is (listed.setIfInBounds i true)
def YVN (md:Region.Mode) (ops:Array Oper):List Nat→Array Bool→Bool
 | [],_=>true
 | i :: is,listed=>decide (Region.ready md ops listed=[i]) && YVN md ops is (listed.setIfInBounds i true)
def YDa (listed:Array Bool) (is:List Nat):Array Bool:=is.foldl (fun l i=>l.setIfInBounds i true) listed
def YSz (P:Program) (ops:Array Oper) (S:World→Prop) (Qa:Act→Prop):List Oper→Act→Prop
 | [],a=>Qa a
 | o :: rest,a=>∃ v,YieldsIf P ops S o v a∧YSz P ops S Qa rest (a.put o.dst v)
def YP0 (P:Program) (ops:Array Oper) (Q:Exit→Act→World→Prop) (S:World→Prop) (Qa:Act→World→Prop):List Oper→Act→World→Prop
 | [],a,w=>Qa a w
 | o :: rest,a,w=>o.guard=none∧o.wp P a w (fun a' w'=>S w'∧YP0 P ops Q S Qa rest a' w') Q
def YQ4 (Q:Exit→Act→World→Prop):Prop:=∀ c a w,¬ Q (.panic c) a w
theorem YJ1 (hsel:Region.noSelect ops=true) (hQ:YQ4 Q) {f:Nat} : ∀ (is:List Nat) (l:List Oper) (listed:Array Bool) (a:Act) (w:World),is.map (fun i=>ops[i]?)=l.map some→YQD md ops is listed=true →
  YSz P ops (fun _=>True) (fun a'=>wpAny P md ops Q f (YDa listed is) a' w) l a→wpAny P md ops Q (f+is.length) listed a w
 | [],[],listed,a,w,_,_,h=>h
 | [],_ :: _,_,_,_,h,_,_=>by cases h
 | _ :: _,[],_,_,_,h,_,_=>by cases h
 | i :: is,o :: l,listed,a,w,hl,hB,⟨v,hy,h⟩=>by
  simp only [YQD,Bool.and_eq_true] at hB
  obtain ⟨⟨hr,hf⟩,hB'⟩:=hB
  simp only [List.map_cons,List.cons.injEq] at hl
  have:=YJ1 hsel hQ is l (listed.setIfInBounds i true) (a.put o.dst v) w hl.2 hB' h
  rw [List.length_cons,← Nat.add_assoc]
  refine wpAny_take hl.1 hsel hf hr (fun c a w h=>absurd h (hQ _ _ _)) ?_ this
  exact hy.imp (fun ⟨hw,hv⟩=>⟨hw,fun w=>hv w trivial⟩) id
theorem YJ3 {n:Nat} {l0:Array Bool} {L:Array Bool→Act→World→Prop} : ∀ (is:List Nat) (l:List Oper) (listed:Array Bool) (a:Act) (w:World),is.map (fun i=>ops[i]?)=l.map some→YVN md ops is listed=true →
  YP0 P ops Q S (fun a' w'=>L (YDa listed is) a' w') l a w→YKr P md ops Q S L is.length listed a w
 | [],[],listed,a,w,_,_,h=>h
 | [],_ :: _,_,_,_,h,_,_=>by cases h
 | _ :: _,[],_,_,_,h,_,_=>by cases h
 | i :: is,o :: l,listed,a,w,hl,hB,⟨hg,h⟩=>by
  simp only [YVN,Bool.and_eq_true,decide_eq_true_eq] at hB
  simp only [List.map_cons,List.cons.injEq] at hl
  refine ⟨by rw [hB.1]; simp,fun j hj=>?_⟩
  rw [hB.1] at hj
  have:j=i:=by simpa using hj
  subst this
  unfold wpOp
  simp only [hl.1]
  rw [if_pos (by simp [Region.wanted,hg])]
  exact .inl (Oper.wp_mono (fun a' w' h'=>⟨h'.1,YJ3 (n:=n) (l0:=l0) is l _ a' w' hl.2 hB.2 h'.2⟩) h)
theorem YJ2 {n:Nat} {l0:Array Bool} {L:Array Bool→Act→World→Prop} {f:Nat} (hsel:Region.noSelect ops=true) (hQ:YQ4 Q) (hs:YVP md ops n l0=true) (hc:Region.chainB md ops n=true) (hn:n<ops.size)
  (hdone : ∀ listed a w,L listed a w → ∀ j∈Region.ready md ops listed,n≤j) {w:World} (hS:S w) : ∀ (is:List Nat) (l:List Oper) (listed:Array Bool) (a:Act),is.map (fun i=>ops[i]?)=l.map some→YQD md ops is listed=true →
  (∀ i∈is,i<n)→HI md ops n l0 listed →
  YSz P ops S (fun a'=>YKr P md ops Q S L f (YDa listed is) a' w) l a→YKr P md ops Q S L (f+is.length) listed a w
 | [],[],listed,a,_,_,_,_,h=>h
 | [],_ :: _,_,_,h,_,_,_,_=>by cases h
 | _ :: _,[],_,_,h,_,_,_,_=>by cases h
 | i :: is,o :: l,listed,a,hl,hB,hin,inv,⟨v,hy,h⟩=>by
  simp only [YQD,Bool.and_eq_true] at hB
  obtain ⟨⟨hr,hf⟩,hB'⟩:=hB
  simp only [List.map_cons,List.cons.injEq] at hl
  have hr':i∈Region.ready md ops listed:=by simpa using hr
  have hi':=hin i (List.mem_cons_self ..)
  have:=YJ2 hsel hQ hs hc hn hdone hS is l (listed.setIfInBounds i true) (a.put o.dst v) hl.2 hB' (fun j hj=>hin j (List.mem_cons_of_mem _ hj)) (inv.set hr' hi') h
  rw [List.length_cons,← Nat.add_assoc]
  exact YOa hl.1 (Region.noSelect_spec hsel) (fun c a w h=>absurd h (hQ _ _ _)) hs hc hn hi' hdone _ listed a w inv (Region.free_spec hl.1 hf) hr' hy hS this
end
open Go.ChangeShapes Go.WideShapes Go.Deep Go.WideElems Go.RowKit
section
variable {H:Type} {enc:TypeId × Value→H} {P:Program} {W:World}
theorem YXJ {t:TypeId} {k:IntKind} {v:Value} {d:DataW H} {p:List MemPlace} {r:Reach} {b0:Nat} (ht:P.underlying t=some (.int k)) (hval:Value.okWide P W r b0 t v) (h:DataW.Trod enc P W 0 (fun _=>true) true t v d p) :
  ∃ n:Int,(Lit.int k n).wf=true∧RRep W (· < W.heap.size) (.int k n) v:=by
 obtain ⟨n,rfl,_,_,w⟩:=open_int ht hval h
 exact ⟨n,w,.int _ _⟩
end
end Go.Proofs.YtkefchjpggjibaaGreatDoor.Al

namespace Go.Proofs.YtkefchjpggjibaaGreatDoor.Al
section
variable {P:Program} {ops:Array Oper} {rest:List Oper} {s:St} {K:St→Prop} {o:Oper}
def AFl (P:Program) (ops:Array Oper) (rest:List Oper) (s:St) (K:St→Prop):Prop:=
 ∀ (y:Cx) (a:Act),y.ok→y.H=hget s.h→y.n=s.n→a.tmps.size=s.N→YCO y s.e a → ∀ Qa:Act→Prop,
  (∀ s' a',K s'→s'.h=s.h→s'.n=s.n→s'.N=s.N→a'.tmps.size=s.N→a'.defers=a.defers→YCO y s'.e a'→Qa a')→YSz P ops (fun _=>True) Qa rest a
theorem AFl.nil (h:K s):AFl P ops [] s K:=fun _ a _ _ _ hN he _ hQ=>hQ s a h rfl rfl rfl hN rfl he
theorem AFl.move {d:Nat} {x:Operand} (hg:o.guard=none) (ho:o.op = .move x) (hd:o.dst=some d) (hN:Nat.blt d s.N=true)
  (hr:AFl P ops rest { e:=(d,YBP s.e x) :: s.e,h:=s.h,n:=s.n,N:=s.N } K):AFl P ops (o :: rest) s K:=by
 intro y a hok hH hn hsz he Qa hQ
 have hN':d<a.tmps.size:=by rw [hsz]; exact YAl hN
 refine ⟨a.eval x,.inl ⟨by simp [Region.wanted,hg],fun w _=>by unfold execOp; simp only [ho]; rfl⟩,?_⟩
 rw [hd]
 exact hr y (a.put (some d) (a.eval x)) hok hH hn (by simpa [Act.put] using hsz) (he.put hN' (he.eval x)) Qa fun s' a' k1 k2 k3 k4 k5 k6 k7=>hQ s' a' k1 k2 k3 k4 k5 k6 k7
def AF (P:Program) (ops:Array Oper) (rest:List Oper) (s:St) (K:St→Prop):Prop:=
 ∀ (y:Cx) (a:Act),y.ok→y.H=hget s.h→y.n=s.n→a.tmps.size=s.N→YCO y s.e a → ∀ Qa:Act→Prop,
  (∀ s' a',K s'→s'.h=s.h→s'.n=s.n→s'.N=s.N→a'.tmps.size=s.N→a'.defers=a.defers→YCO y s'.e a'→Qa a')→YSz P ops (YHy y) Qa rest a
theorem AF.nil (h:K s):AF P ops [] s K:=fun _ a _ _ _ hN he _ hQ=>hQ s a h rfl rfl rfl hN rfl he
theorem AF.step {d:Nat} {v:AV} (hg:o.guard=none) (hd:o.dst=some d) (hN:Nat.blt d s.N=true) (hs:OpQ P true o s.e s.h v)
  (hr:AF P ops rest { e:=(d,v) :: s.e,h:=s.h,n:=s.n,N:=s.N } K):AF P ops (o :: rest) s K:=by
 intro y a hok hH hn hsz he Qa hQ
 obtain ⟨u,hrun,hv⟩:=hs rfl y a hok hH he
 have hN':d<a.tmps.size:=by rw [hsz]; exact YAl hN
 refine ⟨u,.inl ⟨by simp [Region.wanted,hg],hrun⟩,?_⟩
 rw [hd]
 exact hr y (a.put (some d) u) hok hH hn (by simpa [Act.put] using hsz) (he.put hN' hv) Qa fun s' a' k1 k2 k3 k4 k5 k6 k7=>hQ s' a' k1 k2 k3 k4 k5 k6 k7
def YQ2 (P:Program) (o:Oper) (R:Env) (h:Heap) (n:Nat) (v:AV) (h':Heap) (n':Nat):Prop:=
 ∀ (x:Cx) (a:Act),x.ok→x.H=hget h→x.n=n→YCO x R a → ∀ (K:Act→World→Prop) (Q:Exit→Act→World→Prop),
  (∀ (u:Value) (y:Cx),x.le y→y.ok→y.H=hget h'→y.n=n'→YAN y v u→(∀ b,b<x.w.heap.size→y.w.heap[b]? = x.w.heap[b]?)→K (a.put o.dst u) y.w)→o.wp P a x.w K Q
def AA (P:Program) (ops:Array Oper) (rest:List Oper) (s:St) (K:St→Prop):Prop:=
 ∀ (y0 y:Cx) (a:Act),y0.ok→y0.le y→YHy y0 y.w→y.ok→y.H=hget s.h→y.n=s.n→a.tmps.size=s.N→YCO y s.e a → ∀ (Q:Exit→Act→World→Prop) (Qa:Act→World→Prop),
  (∀ s' a' y',K s'→y0.le y'→y'.ok→y'.H=hget s'.h→y'.n=s'.n→s'.N=s.N→a'.tmps.size=s.N→a'.defers=a.defers→YCO y' s'.e a'→Qa a' y'.w)→YP0 P ops Q (YHy y0) Qa rest a y.w
theorem AA.nil (h:K s):AA P ops [] s K:=fun _ y a _ hle _ hok hH hn hN he _ _ hQ=>hQ s a y h hle hok hH hn rfl hN rfl he
theorem AA.step {d:Nat} {v:AV} {h':Heap} {n':Nat} (hg:o.guard=none) (hd:o.dst=some d) (hN:Nat.blt d s.N=true) (hs:YQ2 P o s.e s.h s.n v h' n')
  (hr:AA P ops rest { e:=(d,v) :: s.e,h:=h',n:=n',N:=s.N } K):AA P ops (o :: rest) s K:=by
 intro y0 y a hok0 hle hag hok hH hn hsz he Q Qa hQ
 have hN':d<a.tmps.size:=by rw [hsz]; exact YAl hN
 refine ⟨hg,hs y a hok hH hn he _ _ fun u y' k1 k2 k3 k4 k5 k6=>?_⟩
 have hag':YHy y0 y'.w:=by
  intro b hb
  have hlt:b<y0.w.heap.size:=by
   rcases hb with hb | ⟨id,o,k,h1,h2⟩
   ·exact hok0.S_lt b hb
   ·exact (hok0.own id o b k h1 h2).1
  rw [k6 b (Nat.lt_of_lt_of_le hlt hle.size)]
  exact hag b hb
 refine ⟨hag',?_⟩
 rw [hd]
 exact hr y0 y' (a.put (some d) u) hok0 (hle.trans k1) hag' k2 k3 k4 (by simpa [Act.put] using hsz) ((he.mono k1).put hN' k5) Q Qa fun s' a' y' j1 j2 j3 j4 j5 j6 j7 j8=>hQ s' a' y' j1 j2 j3 j4 j5 j6 j7 j8
def regB (ops:Array Oper) (fl hq al:List Nat) (n:Nat):Bool:=
 let r0:=Array.replicate ops.size false
 let l0:=YDa r0 fl
 let l1:=YDa l0 hq
 let l2:=YDa l1 al
 Region.noSelect ops && decide (n<ops.size) && YVP .any ops n l0 && Region.chainB .any ops n && YQD .any ops fl r0 && YQD .any ops hq l0 && YVN .any ops al l1
  && Region.seqB .any ops (ops.size-n) n l2 && decide (fl.length+hq.length+al.length=n) && (hq.all fun i=>decide (i<n)) && ((List.range ops.size).all fun t=>decide (t<n) || !l0.getD t true)
theorem YLa (is:List Nat) (l:Array Bool):(YDa l is).size=l.size:=by
 induction is generalizing l with
 | nil=>rfl
 | cons i is ih=>show (YDa (l.setIfInBounds i true) is).size=_; rw [ih]; simp
theorem YNP (y:Cx):YHy y y.w:=fun _ _=>rfl
theorem AW.regionF {id:Nat} {l:List Oper} {Q:Exit→St→Prop} (fl hq al:List Nat) (n:Nat) {lf lh la lt:List Oper} (hm:P.follows .mixedOrders=true) (hB:regB l.toArray fl hq al n=true)
  (e1:fl.map (fun i=>l.toArray[i]?)=lf.map some) (e2:hq.map (fun i=>l.toArray[i]?)=lh.map some) (e3:al.map (fun i=>l.toArray[i]?)=la.map some) (e4:l.drop n=lt)
  (h:AFl P l.toArray lf s fun s1=>AF P l.toArray lh s1 fun s2=>AA P l.toArray la s2 fun s3=>AOps P l.toArray lt s3 (Q .normal)):AW P (.region id l.toArray true) Q s:=by
 intro z0 hz0 c0 a w ⟨_,hdef,hsz,y,hyw,hle,hok,hH,hn,he⟩
 subst hyw
 obtain ⟨r1,r2⟩:=Cx.redraw hok
 simp only [regB,Bool.and_eq_true,decide_eq_true_eq] at hB
 obtain ⟨⟨⟨⟨⟨⟨⟨⟨⟨⟨b1,b2⟩,b3⟩,b4⟩,b5⟩,b6⟩,b7⟩,b8⟩,b9⟩,b10⟩,b11⟩:=hB
 refine wpIn_mono (Q:=fun e a' w'=>e = .normal ∧ ∃ s',Q .normal s'∧Sim c0 s' a' w') ?_ fun e a' w' ⟨k1,k2⟩=>by subst k1; exact ⟨by simp,k2⟩
 refine YDF (fun hlo=>by obtain ⟨_,_,h1,_⟩:=hlo; cases h1) hm hz0 ?_
 have hQ:YQ4 (fun (e:Exit) (a':Act) (w':World)=>e = .normal ∧ ∃ s',Q .normal s'∧Sim c0 s' a' w'):=fun c a w h=>by cases h.1
 generalize hz:({ y with w:={ y.w with drawn:=y.w.drawn+1 } } : Cx)=z at r1 r2
 have hzw:z.w = { y.w with drawn:=y.w.drawn+1 }:=by rw [← hz]
 have hzH:z.H=hget s.h:=by rw [← hz]; exact hH
 have hzn:z.n=s.n:=by rw [← hz]; exact hn
 rw [← hzw]
 have hsize:l.toArray.size=(l.toArray.size-n)+al.length+hq.length+fl.length:=by omega
 have goal:=YJ1 (P:=P) (md:=.any) (f:=(l.toArray.size-n)+al.length+hq.length) b1 hQ fl lf (Array.replicate l.toArray.size false) a z.w e1 b5
  (h z a r2 hzH hzn hsz (he.mono r1) _ fun s1 a1 k1 k2 k3 k4 k5 k6 k7=>by
   rw [show l.toArray.size-n+al.length+hq.length=(al.length+hq.length)+(l.toArray.size-n) by omega]
   refine YMo (S:=YHy z) (L:=fun listed a' w'=>listed=YDa (YDa (YDa (Array.replicate l.toArray.size false) fl) hq) al∧wpList P l.toArray (fun e a' w'=>e = .normal ∧ ∃ s',Q .normal s'∧Sim c0 s' a' w') lt a' w') (fun listed a' w' ⟨q1,q2⟩=>?_) _ _ _ _ ?_
   ·subst q1; subst e4
    have hdl:(l.drop n).length=l.toArray.size-n:=by simp
    have:=wpAny_of_seq (md:=.any) (l.drop n) n _ a' w' (fun j=>by simp [List.getElem?_drop]) (by rw [hdl]; exact b8) q2
    rwa [hdl] at this
   ·refine YJ2 (n:=n) (l0:=YDa (Array.replicate l.toArray.size false) fl) b1 hQ b3 b4 b2 (fun listed a' w' ⟨q1,_⟩ j hj=>by subst q1; exact seqB_ready b8 j hj) (YNP z) hq lh _ a1 e2 b6
     (fun i hi=>by simpa using (List.all_eq_true.1 b10 i hi)) ⟨by rw [YLa]; simp,fun j oj _ hl=>.inl hl,fun t ht htl=>?_,fun _ h=>h⟩ ?_
    ·have:=List.all_eq_true.1 b11 t (List.mem_range.2 htl)
     simp only [Bool.or_eq_true,decide_eq_true_eq,Bool.not_eq_true'] at this
     rcases this with h | h
     ·omega
     ·exact h
    ·refine k1 z a1 r2 (by rw [k2]; exact hzH) (by rw [k3]; exact hzn) (by rw [k4,k5]) k7 _ fun s2 a2 m1 m2 m3 m4 m5 m6 m7=>?_
     refine YJ3 (n:=n) (l0:=YDa (Array.replicate l.toArray.size false) fl) al la _ a2 z.w e3 b7 ?_
     refine m1 z z a2 r2 (.refl z) (YNP z) r2 (by rw [m2,k2]; exact hzH) (by rw [m3,k3]; exact hzn) (by rw [m4,m5]) m7 _ _ fun s3 a3 y3 t1 t2 t3 t4 t5 t6 t7 t8 t9=>⟨rfl,?_⟩
     exact t1 c0 a3 y3.w ⟨_,t8.trans (m6.trans (k6.trans hdef)),by rw [t7,t6],y3,rfl,(hle.trans r1).trans t2,t3,t4,t5,t9⟩ _ fun s'' a'' w'' j1 j2=>⟨rfl,s'',j1,j2⟩)
 have e:l.toArray.size-n+al.length+hq.length+fl.length=l.toArray.size:=by omega
 rw [e] at goal
 exact goal
end
end Go.Proofs.YtkefchjpggjibaaGreatDoor.Al
