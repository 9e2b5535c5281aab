/- The program logic, a part of it. -/
import Derived.Below
import Derived.CallsIn
import Derived.ChangeArms
import Derived.ChangeSame
import Derived.Deep.Fields
import Derived.Deep.LoopGhost
import Derived.Deep.Quiet
import Derived.Deep.Slices
import Derived.Laws.CopyRow
import Derived.Laws.StructEq
import Derived.Maps.AppendAt
import Derived.OpenShut
import Derived.RangeFuncRecord
import Derived.RowKit
import Derived.Sort.LoopGhostIn
import Derived.StillTail
import Derived.WalkKit
import Derived.WalkLawsBesides
import Derived.WideKeyArgs
set_option linter.all false
namespace Go.Proofs.YtioekebmplhlmaaGreatDoor.Al
inductive RV where
 | int (k:IntKind) (n:Int)
 | bool (b:Bool)
 | str (s:List UInt8)
 | sl (xs:List (List RV))
 | slf (xs:List (List RV))
 | ptr (b:Nat)
 | any
def FM:Nat:=0
def Fb:Nat:=1
def D7:List Int:=List.replicate 128 240++(List.replicate 66 241++(List.replicate 30 2++([19]++(List.replicate 12 3++([35]++(List.replicate 2 3++([52]++(List.replicate 3 4++([68]++List.replicate 11 241)))))))))
def GB:List (Int × Int):=[(128,191),(160,191),(128,159),(144,191),(128,143)]++List.replicate 11 (0,0)
def Ez:Nat→Option (List RV):=fun g=>
 if g=FM then some (D7.flatMap fun z=>[.int .u8 z]) else if g=Fb then some (GB.flatMap fun p=>[.int .u8 p.1,.int .u8 p.2]) else none
def Ou:Nat→Option (Array Value):=fun _=>none
def ND (_:World):Prop:=True
inductive AV where
 | r (x:RV)
 | agg (cs:List AV)
 | tup (vs:List AV)
 | own (id g:Nat)
 | pre (id g k:Nat)
 | ptr (id g i k:Nat)
 | rop (row:List RV) (k:Nat)
 | fn (f:FuncId) (caps:List AV)
 | mref (id g:Nat)
 | yld (id g:Nat)
 | full (xs:List (List RV))
 | pk (id g v j k:Nat)
 | fo (id g v:Nat) (key:Int)
 | cst (v:Value)
 | whn (b:Bool) (v:AV)
 | ifc (nil:Bool)
 | any
structure PB where
 P:Program
 A:List (List RV)→Option Bool
 b:Nat
 S:Nat→Prop
 J:List (List RV)→World→(Nat→Prop)→Prop
inductive AT where
 | arr (g:Nat) (e:TypeId) (sz:Nat) (xs:List (List RV))
 | box (g:Nat) (e:TypeId) (cs:List AV)
 | hot (g:Nat) (e:TypeId) (xs:List (List RV)) (k id g':Nat)
 | it (g:Nat) (s:List UInt8) (pos:Nat)
 | mp (g:Nat) (ks:List (Int × Nat)) (vs:List AV) (clock:Nat)
 | mi (g mid mg since:Nat) (seen:List Nat) (last:Nat)
 | lp (g:Nat) (e:List (Nat × AV)) (N:Nat) (ps:List Nat) (assign body:Code) (st:LoopState) (pend:Option Code)
 | md (g:Nat) (l:List (Int × RV))
 | mb (g v:Nat) (e:TypeId) (l:List (Int × List RV))
 | mr (g v:Nat) (e:TypeId) (sz:Nat) (hole:Option (Nat × Bool)) (l:List (Int × List (List RV)))
 | mj (g mid mg len:Nat) (seen:List Nat)
 | cal (g:Nat) (W:PB) (ys:List (List RV))
 | rr (g:Nat) (e:TypeId) (sz col:Nat) (e2:TypeId) (sz2:Nat) (hole:Option (Nat × Nat × Nat)) (xs:List (List RV))
 | avr (g:Nat) (e:TypeId) (xs:List AV)
 | fam (g v c:Nat) (e:TypeId) (l:List (List RV))
 | ml (g:Nat) (bs:List Nat)
def AT.gen:AT→Nat
 | .arr g _ _ _=>g
 | .box g _ _=>g
 | .hot g _ _ _ _ _=>g
 | .it g _ _=>g
 | .mp g _ _ _=>g
 | .mi g _ _ _ _ _=>g
 | .lp g _ _ _ _ _ _ _=>g
 | .md g _=>g
 | .mb g _ _ _=>g
 | .mr g _ _ _ _ _=>g
 | .mj g _ _ _ _=>g
 | .cal g _ _=>g
 | .rr g _ _ _ _ _ _ _=>g
 | .avr g _ _=>g
 | .fam g _ _ _ _=>g
 | .ml g _=>g
def AT.shape:AT→Bool × Nat × Nat
 | .arr _ _ sz xs=>(true,sz,xs.length)
 | .box _ _ cs=>(false,cs.length,1)
 | .hot _ _ xs _ _ _=>(true,1,xs.length)
 | .it _ _ _=>(false,1,1)
 | .mp _ _ _ _=>(false,1,1)
 | .mi _ _ _ _ _ _=>(false,1,1)
 | .lp _ _ _ _ _ _ _ _=>(false,1,1)
 | .md _ _=>(false,1,1)
 | .mb _ _ _ _=>(false,1,1)
 | .mr _ _ _ _ _ _=>(false,1,1)
 | .mj _ _ _ _ _=>(false,1,1)
 | .cal _ _ _=>(false,0,2)
 | .rr _ _ sz _ _ _ _ xs=>(true,sz,xs.length)
 | .avr _ _ xs=>(true,1,xs.length)
 | .fam _ _ _ _ _=>(false,1,1)
 | .ml _ _=>(false,1,1)
def AT.isCal:AT→Bool
 | .cal _ _ _=>true
 | _=>false
theorem OT {o o':AT} (h:o.shape=o'.shape):o.isCal=o'.isCal:=by
 cases o <;> cases o' <;> first | rfl | (simp [AT.shape] at h; done)
def N4 {α:Type} : List (Int × α)→Int→Option Nat
 | [],_=>none
 | p :: r,k=>if k=p.1 then some 0 else (N4 r k).map (· + 1)
def AT.ver:AT→Nat
 | .mb _ v _ _=>v
 | .mr _ v _ _ _ _=>v
 | .fam _ v _ _ _=>v
 | _=>0
def AT.isFam:AT→Bool
 | .mb _ _ _ _=>true
 | .mr _ _ _ _ _ _=>true
 | .fam _ _ _ _ _=>true
 | _=>false
def AT.kshape:AT→List (Int × Option Nat)
 | .mb _ _ _ l=>l.map fun p=>(p.1,some p.2.length)
 | .mr _ _ _ _ _ l=>l.map fun p=>(p.1,some p.2.length)
 | .fam _ _ _ _ l=>l.map fun cs=>(0,some cs.length)
 | _=>[]
abbrev AU:=List (Nat × AV)
abbrev AN:=List (Nat × Option AT)
def get:AU→Nat→AV
 | [],_=>.any
 | (t,v) :: r,k=>match Nat.beq t k with | true=>v | false=>get r k
def hget:AN→Nat→Option AT
 | [],_=>none
 | (t,v) :: r,k=>match Nat.beq t k with | true=>v | false=>hget r k
inductive Ar (w:World) (S:Nat→Prop):RV→Value→Prop
 | int (k:IntKind) (n:Int):Ar w S (.int k n) (.int k n)
 | bool (b:Bool):Ar w S (.bool b) (.bool b)
 | str (s:ByteArray):Ar w S (.str s.data.toList) (.string s)
 | snil:Ar w S (.sl []) (.slice none 0 0)
 | sl0 (a:Addr):Ar w S (.sl []) (.slice (some a) 0 0)
 | sl (b off:Nat) (xs:List (List RV)) (cap size:Nat) (u:Nat→Nat→Value) (hS:xs≠[]→S b) (hc:xs.length≤cap) (hm:cap≤maxLen)
   (hsz : ∀ row∈xs,row.length=size)
   (hcell : ∀ i row c x,xs[i]? = some row→row[c]? = some x→w.cell? ⟨b,off+i * size+c,none⟩=some (u i c))
   (hrep : ∀ i row c x,xs[i]? = some row→row[c]? = some x→Ar w S x (u i c)) :
   Ar w S (.sl xs) (.slice (some ⟨b,off,none⟩) xs.length cap)
 | any (v:Value) (h:v.oneCell'=true):Ar w S .any v
 | ptr (b:Nat):Ar w S (.ptr b) (.pointer (some ⟨b,0,none⟩))
 | slf {xs:List (List RV)} {v:Value} (h:Ar w S (.sl xs) v) (hf : ∃ a,v = .slice a xs.length xs.length):Ar w S (.slf xs) v
theorem Ar.one {w:World} {S:Nat→Prop} {x:RV} {v:Value} (h:Ar w S x v):v.oneCell'=true:=by
 cases h <;> first | rfl | assumption | (rename_i hf; obtain ⟨a,rfl⟩:=hf; rfl)
theorem Ar.mono {w w':World} {S S':Nat→Prop} (hb : ∀ b,S b→w'.heap[b]? = w.heap[b]?) (hS : ∀ b,S b→S' b) {x:RV} {v:Value}
  (h:Ar w S x v):Ar w' S' x v:=by
 induction h with
 | int k n=>exact .int k n
 | bool b=>exact .bool b
 | str s=>exact .str s
 | snil=>exact .snil
 | sl0 a=>exact .sl0 a
 | sl b off xs cap size u hS1 hc hm hsz hcell hrep ih=>
  refine .sl b off xs cap size u (fun h=>hS _ (hS1 h)) hc hm hsz (fun i row c x h1 h2=>?_) ih
  have hne:xs≠[]:=by rintro rfl; simp at h1
  rw [← hcell i row c x h1 h2]
  exact World.cell?_of_block (hb _ (hS1 hne))
 | any v h=>exact .any v h
 | slf _ hf ih=>exact .slf ih hf
 | ptr b=>exact .ptr b
structure Cx where
 w:World
 S:Nat→Prop
 F:Nat→Prop
 H:Nat→Option AT
 β:Nat→Option (Nat × Nat)
 K:Nat→Nat→Option (Nat × Nat)
 n:Nat
def Bk (β:Option (Nat × Nat)) (len:Nat) (v:Value):Prop:=
 match β with
 | none=>len=0∧v = .slice none 0 0
 | some (b,cap)=>v = .slice (some ⟨b,0,none⟩) len cap
inductive AR (x:Cx):AV→Value→Prop
 | r {d:RV} {v:Value} (h:Ar x.w x.S d v):AR x (.r d) v
 | agg {cs:List AV} {us:Array Value} (hl:cs.length=us.size) (h : ∀ (i:Nat) (c:AV) (u:Value),cs[i]? = some c→us[i]? = some u→AR x c u):AR x (.agg cs) (.agg us)
 | tup {cs:List AV} {us:Array Value} (hl:cs.length=us.size) (h : ∀ (i:Nat) (c:AV) (u:Value),cs[i]? = some c→us[i]? = some u→AR x c u):AR x (.tup cs) (.tuple us)
 | own {id g:Nat} {v:Value} (hg:g<x.n) (h1:v.oneCell'=true) (h : ∀ o,x.H id=some o→o.gen=g→Bk (x.β id) o.shape.2.2 v):AR x (.own id g) v
 | pre {id g k:Nat} {v:Value} (hg:g<x.n) (h1:v.oneCell'=true) (h : ∀ o,x.H id=some o→o.gen=g→k≤o.shape.2.2∧Bk (x.β id) k v):AR x (.pre id g k) v
 | ptr {id g i k:Nat} {v:Value} (hg:g<x.n) (h1:v.oneCell'=true) (h : ∀ o,x.H id=some o→o.gen=g → ∃ b cap,x.β id=some (b,cap)∧v = .pointer (some ⟨b,i * o.shape.2.1+k,none⟩)) :
   AR x (.ptr id g i k) v
 | mref {id g:Nat} {v:Value} (hg:g<x.n) (h1:v.oneCell'=true) (h : ∀ o,x.H id=some o→o.gen=g → ∃ b cap,x.β id=some (b,cap)∧v = .map (some b)):AR x (.mref id g) v
 | yld {id g:Nat} {v:Value} (hg:g<x.n) (h1:v.oneCell'=true) (h : ∀ o,x.H id=some o→o.gen=g → ∃ b cap,x.β id=some (b,cap)∧v = .func (.yield b) #[] #[]):AR x (.yld id g) v
 | pk {id g ve j k:Nat} {v:Value} (hg:g<x.n) (hv:ve<x.n) (h1:v.oneCell'=true) (h : ∀ o b c q m,x.H id=some o→o.isFam=true→o.gen=g→o.ver=ve→o.kshape[j]? = some (q,some m)→x.K id j=some (b,c)→v = .pointer (some ⟨b,k,none⟩)):AR x (.pk id g ve j k) v
 | fo {id g ve:Nat} {key:Int} {v:Value} (hg:g<x.n) (hv:ve<x.n) (h1:v.oneCell'=true) (h : ∀ o,x.H id=some o→o.isFam=true→o.gen=g→o.ver=ve→(N4 o.kshape key=none→v = .slice none 0 0) ∧
   ∀ j q m b c,N4 o.kshape key=some j→o.kshape[j]? = some (q,some m)→x.K id j=some (b,c)→v = .slice (some ⟨b,0,none⟩) m c):AR x (.fo id g ve key) v
 | full {xs:List (List RV)} {v:Value} (h:Ar x.w x.S (.sl xs) v) (hf : ∃ a,v = .slice a xs.length xs.length):AR x (.full xs) v
 | rop {row:List RV} {k b off:Nat} (u:Nat→Value) (hS:row≠[]→x.S b) (hc : ∀ j d,row[j]? = some d→x.w.cell? ⟨b,off+j,none⟩=some (u j))
   (hr : ∀ j d,row[j]? = some d→Ar x.w x.S d (u j)):AR x (.rop row k) (.pointer (some ⟨b,off+k,none⟩))
 | fn {f:FuncId} {cs:List AV} {us:Array Value} (hl:cs.length=us.size) (h : ∀ (i:Nat) (c:AV) (u:Value),cs[i]? = some c→us[i]? = some u→AR x c u):AR x (.fn f cs) (.func (.func f) #[] us)
 | cst (v:Value):AR x (.cst v) v
 | whn {b:Bool} {a:AV} {v:Value} (h:b=true→AR x a v) (h2:b=false→v=undef):AR x (.whn b a) v
 | ifc {b:Bool} {v:Value} (h1:v.oneCell'=true) (h:b=true→v = .nilIface) (h2:b=false → ∃ t u,v = .iface t u):AR x (.ifc b) v
 | any (v:Value):AR x .any v
structure Cx.le (x y:Cx):Prop where
 size:x.w.heap.size≤y.w.heap.size
 os:y.w.os=x.w.os
 tape:y.w.tape=x.w.tape
 output:y.w.output=x.w.output
 blk : ∀ b,x.S b∨x.F b→y.w.heap[b]? = x.w.heap[b]?
 S : ∀ b,x.S b→y.S b
 F:y.F=x.F
 n:x.n≤y.n
 H : ∀ id o',y.H id=some o'→o'.gen<x.n∨o'.isCal=true → ∃ o,x.H id=some o∧o.gen=o'.gen∧o.shape=o'.shape∧y.β id=x.β id
 K : ∀ id o',y.H id=some o'→o'.isFam=true→o'.gen<x.n→o'.ver<x.n → ∃ o,x.H id=some o∧o.isFam=true∧o.gen=o'.gen∧o.ver=o'.ver∧o.kshape=o'.kshape∧y.K id=x.K id
theorem Cx.le.refl (x:Cx):x.le x:=⟨Nat.le_refl _,rfl,rfl,rfl,fun _ _=>rfl,fun _ h=>h,rfl,Nat.le_refl _,fun _ o h _=>⟨o,h,rfl,rfl,rfl⟩,fun _ o h hf _ _=>⟨o,h,hf,rfl,rfl,rfl,rfl⟩⟩
theorem Cx.le.trans {x y z:Cx} (h:x.le y) (k:y.le z):x.le z where
 size:=Nat.le_trans h.size k.size
 os:=k.os.trans h.os
 tape:=k.tape.trans h.tape
 output:=k.output.trans h.output
 blk b hb:=(k.blk b (hb.imp (h.S b) (fun f=>by rw [h.F]; exact f))).trans (h.blk b hb)
 S b hb:=k.S b (h.S b hb)
 F:=k.F.trans h.F
 n:=Nat.le_trans h.n k.n
 H id o'' ho hg:=by
  obtain ⟨o',h1,h2,h3,h4⟩:=k.H id o'' ho (hg.imp (fun hg=>Nat.lt_of_lt_of_le hg h.n) _root_.id)
  obtain ⟨o,k1,k2,k3,k4⟩:=h.H id o' h1 (by rw [h2,OT h3]; exact hg)
  exact ⟨o,k1,k2.trans h2,k3.trans h3,h4.trans k4⟩
 K id o'' ho hf hg hv:=by
  obtain ⟨o',h1,h0,h2,h3,h4,h5⟩:=k.K id o'' ho hf (Nat.lt_of_lt_of_le hg h.n) (Nat.lt_of_lt_of_le hv h.n)
  obtain ⟨o,k1,k0,k2,k3,k4,k5⟩:=h.K id o' h1 h0 (by rw [h2]; exact hg) (by rw [h3]; exact hv)
  exact ⟨o,k1,k0,k2.trans h2,k3.trans h3,k4.trans h4,h5.trans k5⟩
theorem AR.mono {x y:Cx} (h:x.le y) {a:AV} {v:Value} (ha:AR x a v):AR y a v:=by
 have hb : ∀ b,x.S b→y.w.heap[b]? = x.w.heap[b]?:=fun b hb=>h.blk b (.inl hb)
 induction ha with
 | r hr=>exact .r (hr.mono hb h.S)
 | agg hl _ ih=>exact .agg hl ih
 | tup hl _ ih=>exact .tup hl ih
 | own hg h1 ho=>
  refine .own (Nat.lt_of_lt_of_le hg h.n) h1 fun o' ho' hgen=>?_
  obtain ⟨o,h1,h2,h3,h4⟩:=h.H _ o' ho' (.inl (by rw [hgen]; exact hg))
  rw [h4,← h3]
  exact ho o h1 (h2.trans hgen)
 | pre hg h1 ho=>
  refine .pre (Nat.lt_of_lt_of_le hg h.n) h1 fun o' ho' hgen=>?_
  obtain ⟨o,h1,h2,h3,h4⟩:=h.H _ o' ho' (.inl (by rw [hgen]; exact hg))
  rw [h4,← h3]
  exact ho o h1 (h2.trans hgen)
 | ptr hg h1 ho=>
  refine .ptr (Nat.lt_of_lt_of_le hg h.n) h1 fun o' ho' hgen=>?_
  obtain ⟨o,h1,h2,h3,h4⟩:=h.H _ o' ho' (.inl (by rw [hgen]; exact hg))
  rw [h4,← h3]
  exact ho o h1 (h2.trans hgen)
 | mref hg h1 ho=>
  refine .mref (Nat.lt_of_lt_of_le hg h.n) h1 fun o' ho' hgen=>?_
  obtain ⟨o,h1,h2,h3,h4⟩:=h.H _ o' ho' (.inl (by rw [hgen]; exact hg))
  rw [h4]
  exact ho o h1 (h2.trans hgen)
 | yld hg h1 ho=>
  refine .yld (Nat.lt_of_lt_of_le hg h.n) h1 fun o' ho' hgen=>?_
  obtain ⟨o,h1,h2,h3,h4⟩:=h.H _ o' ho' (.inl (by rw [hgen]; exact hg))
  rw [h4]
  exact ho o h1 (h2.trans hgen)
 | pk hg hv h1 ho=>
  refine .pk (Nat.lt_of_lt_of_le hg h.n) (Nat.lt_of_lt_of_le hv h.n) h1 fun o' b c q m ho' hf hgen hver hm hp=>?_
  obtain ⟨o,k1,k0,k2,k3,k4,k5⟩:=h.K _ o' ho' hf (by rw [hgen]; exact hg) (by rw [hver]; exact hv)
  exact ho o b c q m k1 k0 (k2.trans hgen) (k3.trans hver) (by rw [k4]; exact hm) (by rw [← k5]; exact hp)
 | fo hg hv h1 ho=>
  refine .fo (Nat.lt_of_lt_of_le hg h.n) (Nat.lt_of_lt_of_le hv h.n) h1 fun o' ho' hf hgen hver=>?_
  obtain ⟨o,k1,k0,k2,k3,k4,k5⟩:=h.K _ o' ho' hf (by rw [hgen]; exact hg) (by rw [hver]; exact hv)
  obtain ⟨e1,e2⟩:=ho o k1 k0 (k2.trans hgen) (k3.trans hver)
  rw [k4] at e1 e2
  exact ⟨e1,fun j q m b c h1 h2 h3=>e2 j q m b c h1 h2 (by rw [← k5]; exact h3)⟩
 | full hr hf=>exact .full (hr.mono hb h.S) hf
 | @rop row k b off u hS hc hr=>
  refine .rop u (fun hn=>h.S _ (hS hn)) (fun j d hj=>?_) (fun j d hj=>(hr j d hj).mono hb h.S)
  have hne:row≠[]:=fun e=>by subst e; simp at hj
  rw [← hc j d hj]
  exact World.cell?_of_block (hb _ (hS hne))
 | fn hl _ ih=>exact .fn hl ih
 | cst v=>exact .cst v
 | whn _ h2 ih=>exact .whn ih h2
 | ifc h1 h h2=>exact .ifc h1 h h2
 | any v=>exact .any v
def WO (P:Program) (b:Nat) (us:Array Value) (w:World) (Post:Ending→World→Prop):Prop:=
 ∃ f tmps asg bd,(Instr.yield b us).run P w = .ok (.round b f tmps asg bd) w∧RoundIn { Fence.wide with round:=none } (0-1) P b f tmps asg bd w Post
structure Wo (W:PB):Prop where
 stab : ∀ ys w w' κ,W.J ys w κ→w.heap.size≤w'.heap.size→w'.os=w.os→w'.tape=w.tape→w'.output=w.output→(∀ c,c=W.b∨κ c∨W.S c→w'.heap[c]? = w.heap[c]?)→W.J ys w' κ
 round : ∀ ys y c w κ us,W.A (ys++[y])=some c→W.J ys w κ→us.size=y.length→(∀ (i:Nat) (d:RV) (u:Value),y[i]? = some d→us[i]? = some u→Ar w (fun _=>False) d u) →
  WO W.P W.b us w fun e w'=>e = .returned (.bool c) ∧ ∃ κ',W.J (ys++[y]) w' κ'∧w.heap.size≤w'.heap.size∧w'.os=w.os∧w'.tape=w.tape∧w'.output=w.output ∧
   (∀ d,d<w.heap.size→d≠W.b → ¬ κ d→w'.heap[d]? = w.heap[d]?)∧(∀ d,κ' d→(κ d∨w.heap.size≤d)∧d<w'.heap.size∧d≠W.b)
def Ca:List Nat→Nat
 | []=>0
 | a :: l=>2 ^ a * (2 * Ca l+1)
theorem SM {a b x y:Nat} (h:2 ^ a * (2 * x+1)=2 ^ b * (2 * y+1)):a=b∧x=y:=by
 induction a generalizing b with
 | zero=>
  cases b with
  | zero=>simp at h; exact ⟨rfl,by omega⟩
  | succ b=>exfalso; rw [Nat.pow_succ,Nat.mul_assoc,Nat.mul_left_comm] at h; simp at h; omega
 | succ a ih=>
  cases b with
  | zero=>exfalso; rw [Nat.pow_succ,Nat.mul_assoc,Nat.mul_left_comm] at h; simp at h; omega
  | succ b=>
   rw [Nat.pow_succ,Nat.pow_succ,Nat.mul_assoc,Nat.mul_assoc,Nat.mul_left_comm,Nat.mul_left_comm (2 ^ b)] at h
   obtain ⟨h1,h2⟩:=ih (Nat.eq_of_mul_eq_mul_left (by decide) h)
   exact ⟨by rw [h1],h2⟩
theorem Od : ∀ {l l':List Nat},Ca l=Ca l'→l=l'
 | [],[],_=>rfl
 | [],a :: l',h=>by
  have:0<2 ^ a * (2 * Ca l'+1):=Nat.mul_pos (Nat.pow_pos (by decide)) (by omega)
  simp only [Ca] at h; omega
 | a :: l,[],h=>by
  have:0<2 ^ a * (2 * Ca l+1):=Nat.mul_pos (Nat.pow_pos (by decide)) (by omega)
  simp only [Ca] at h; omega
 | a :: l,b :: l',h=>by
  obtain ⟨h1,h2⟩:=SM h
  rw [h1,Od h2]
noncomputable def MB (c:Nat):List Nat:=@dite _ (∃ l,Ca l=c) (Classical.propDecidable _) (fun h=>h.choose) (fun _=>[])
theorem Lv (l:List Nat):MB (Ca l)=l:=by
 have h : ∃ l',Ca l'=Ca l:=⟨l,rfl⟩
 unfold MB
 rw [dif_pos h]
 exact Od h.choose_spec
noncomputable def At (c j:Nat):Nat:=(MB c).getD j 0
noncomputable def A0 (n c d:Nat):Nat:=Ca ((List.range n).map (At c)++MB d)
theorem Lp {n c d j:Nat} (h:j<n):At (A0 n c d) j=At c j:=by
 unfold A0
 rw [At,Lv,List.getD_eq_getElem?_getD,List.getElem?_append_left (by simpa using h),List.getElem?_map,List.getElem?_range h]
 rfl
theorem S7 {n c b:Nat} : At (A0 n c (Ca [b])) n=b:=by
 unfold A0
 rw [At,Lv,Lv,List.getD_eq_getElem?_getD,List.getElem?_append_right (by simp)]
 simp
def ML (w:World) (S:Nat→Prop) (β:Option (Nat × Nat)) (e:TypeId) (sz:Nat) (ys:List (List RV)) (u:Value):Prop:=
 (∀ row∈ys,row.length=sz)∧Bk β ys.length u ∧ ∃ us,w.ownsRow 0 e sz u ys.length us ∧ ∀ i row c d,ys[i]? = some row→row[c]? = some d → ∃ v,us[i * sz+c]? = some v∧Ar w S d v
def CQ (x:Cx) (β:Option (Nat × Nat)) (κ:Nat→Option (Nat × Nat)):AT→Prop
 | .arr _ e sz xs=>0<sz∧(∀ row∈xs,row.length=sz) ∧ ∃ hdr us,Bk β xs.length hdr∧x.w.ownsRow 0 e sz hdr xs.length us ∧
   ∀ i row c d,xs[i]? = some row→row[c]? = some d → ∃ u,us[i * sz+c]? = some u∧Ar x.w x.S d u
 | .box _ e cs=>∃ (b:Nat) (cur:Array Value),β=some (b,1)∧x.w.heap[b]? = some (.cells cur e (0,0))∧cur.size=cs.length ∧
   ∀ (j:Nat) (c:AV),cs[j]? = some c → ∃ u:Value,cur[j]? = some u∧u.oneCell'=true∧AR x c u
 | .hot _ e xs k id g'=>k<xs.length∧(∀ row∈xs,row.length=1) ∧ ∃ hdr us,Bk β xs.length hdr∧x.w.ownsRow 0 e 1 hdr xs.length us ∧
   (∀ i row d,i≠k→xs[i]? = some row→row[0]? = some d → ∃ u,us[i]? = some u∧Ar x.w x.S d u) ∧ ∃ u,us[k]? = some u∧AR x (.own id g') u
 | .it _ s pos=>∃ b:Nat,β=some (b,1)∧x.w.heap[b]? = some (.stringIter ⟨s.toArray⟩ pos)
 | .mp _ ks vs clock=>∃ (b:Nat) (us:List Value),β=some (b,1)∧us.length=ks.length∧vs.length=ks.length ∧
   x.w.heap[b]? = some (.map ((ks.zip us).map fun p=>({ key:=.int .i64 p.1.1,val:=p.2,born:=p.1.2 } : MapEntry)).toArray clock) ∧
   ∀ (j:Nat) (c:AV) (u:Value),vs[j]? = some c→us[j]? = some u→AR x c u
 | .mi _ mid mg since seen last=>∃ b m:Nat,β=some (b,1)∧x.w.heap[b]? = some (.mapIter (some m) since seen.toArray last)∧AR x (.mref mid mg) (.map (some m))
 | .lp _ e N ps assign body st pend=>∃ (b:Nat) (r:Loop),β=some (b,1)∧x.w.heap[b]? = some (.loop r)∧r.params=ps.toArray∧r.assign=assign∧r.body=body∧r.state=st∧r.pending=pend∧r.tmps.size=N ∧
   ∀ t,AR x (get e t) (r.tmps.getD t undef)
 | .md _ l=>∃ (b:Nat) (es:List MapEntry),β=some (b,1)∧x.w.heap[b]? = some (.map es.toArray l.length)∧es.length=l.length ∧
   ∀ (j:Nat) (k:Int) (d:RV),l[j]? = some (k,d) → ∃ m,es[j]? = some m∧m.key = .int .i64 k∧m.born=j∧Ar x.w x.S d m.val
 | .mb _ v e l=>v<x.n ∧ ∃ (b:Nat) (es:List MapEntry),β=some (b,1)∧x.w.heap[b]? = some (.map es.toArray l.length)∧es.length=l.length ∧
   ∀ (j:Nat) (k:Int) (cs:List RV),l[j]? = some (k,cs) → ∃ m bb cur,es[j]? = some m∧m.key = .int .i64 k∧m.born=j∧κ j=some (bb,1)∧m.val = .pointer (some ⟨bb,0,none⟩)∧x.w.heap[bb]? = some (.cells cur e (0,0))∧cur.size=cs.length ∧
    ∀ (i:Nat) (c:RV),cs[i]? = some c → ∃ u:Value,cur[i]? = some u∧u.oneCell'=true∧Ar x.w x.S c u
 | .mr _ v e sz hole l=>0<sz∧v<x.n ∧ ∃ (b:Nat) (es:List MapEntry),β=some (b,1)∧x.w.heap[b]? = some (.map es.toArray es.length)∧(match hole with | some (j,true)=>l.length=es.length+1∧j=es.length | _=>l.length=es.length) ∧
   ∀ (j:Nat) (k:Int) (xs:List (List RV)),l[j]? = some (k,xs)→(∀ row∈xs,row.length=sz) ∧ ∃ bb cap us,κ j=some (bb,cap)∧x.w.ownsRow 0 e sz (.slice (some ⟨bb,0,none⟩) xs.length cap) xs.length us ∧
    (∀ i row c d,xs[i]? = some row→row[c]? = some d → ∃ u,us[i * sz+c]? = some u∧Ar x.w x.S d u) ∧
    (hole=some (j,true) ∨ ∃ m,es[j]? = some m∧m.key = .int .i64 k∧m.born=j∧(hole=some (j,false)∨m.val = .slice (some ⟨bb,0,none⟩) xs.length cap))
 | .mj _ mid mg len seen=>∃ b m:Nat,β=some (b,1)∧x.w.heap[b]? = some (.mapIter (some m) len seen.toArray len)∧AR x (.mref mid mg) (.map (some m))
 | .rr _ e sz col e2 sz2 hole xs=>(0<sz∧col<sz∧0<sz2 ∧ ∀ row∈xs,row.length=sz) ∧ ∃ hdr us,Bk β xs.length hdr∧x.w.ownsRow 0 e sz hdr xs.length us ∧
   (∀ i row c d,c≠col→xs[i]? = some row→row[c]? = some d → ∃ u,us[i * sz+c]? = some u∧Ar x.w x.S d u) ∧
   ∀ i row,xs[i]? = some row → ∃ u,us[i * sz+col]? = some u∧((∃ r g',hole=some (i,r,g')∧AR x (.own r g') u)∨((∀ r g',hole≠some (i,r,g')) ∧ ∃ ys,row[col]? = some (.sl ys)∧ML x.w x.S (κ i) e2 sz2 ys u))
 | .avr _ e xs=>∃ hdr us,Bk β xs.length hdr∧x.w.ownsRow 0 e 1 hdr xs.length us ∧ ∀ (j:Nat) (a:AV),xs[j]? = some a → ∃ u,us[j]? = some u∧u.oneCell'=true∧AR x a u
 | .ml _ bs=>∃ (b:Nat) (es:List MapEntry),β=some (b,1)∧x.w.heap[b]? = some (.map es.toArray es.length)∧es.length=bs.length ∧ ∀ (j k:Nat),bs[j]? = some k → ∃ m,es[j]? = some m∧m.key = .pointer (some ⟨k,0,none⟩)
 | .fam _ v co e l=>v<x.n∧β=none ∧ ∀ (j:Nat) (cs:List RV),l[j]? = some cs → ∃ bb cur,κ j=some (bb,1)∧At co j=bb∧x.w.heap[bb]? = some (.cells cur e (0,0))∧cur.size=cs.length ∧
   ∀ (i:Nat) (c:RV),cs[i]? = some c → ∃ u:Value,cur[i]? = some u∧u.oneCell'=true∧Ar x.w x.S c u
 | .cal _ W ys=>∃ κs,β=some (W.b,1)∧Wo W∧W.J ys x.w κs∧(∀ c,κs c → ∃ j q,κ j=some (c,q)) ∧ ∀ c,W.S c→x.S c
structure EK (x:Cx):Prop where
 tab : ∀ g row,Ez g=some row→AR x (.rop row 0) (.pointer (some ⟨g,0,none⟩))
 whole : ∀ g cs,Ou g=some cs→x.S g∧0<cs.size ∧ ∃ t p,x.w.heap[g]? = some (.cells cs t p)
 fact : ∃ W0:World,ND W0∧Go.RowKit.Below W0.heap.size W0 x.w ∧ ∀ b,b<W0.heap.size→x.S b
theorem EK.le {x y:Cx} (h:EK x) (hle:x.le y):EK y:=⟨fun g row hg=>(h.tab g row hg).mono hle,fun g cs hg=>by
 obtain ⟨h1,h0,t,p,h2⟩:=h.whole g cs hg
 exact ⟨hle.S g h1,h0,t,p,by rw [hle.blk g (.inl h1),h2]⟩,by
 obtain ⟨W0,h1,h2,h3⟩:=h.fact
 exact ⟨W0,h1,⟨hle.os.trans h2.os,hle.tape.trans h2.tape,hle.output.trans h2.output,Nat.le_trans h2.size hle.size,fun b hb=>(hle.blk b (.inl (h3 b hb))).trans (h2.block b hb)⟩,fun b hb=>hle.S b (h3 b hb)⟩⟩
theorem EK.same {x y:Cx} (h:EK x) (hw:y.w=x.w) (hS : ∀ b,x.S b→y.S b):EK y:=by
 refine ⟨fun g row hg=>?_,fun g cs hg=>by rw [hw]; exact ⟨hS g (h.whole g cs hg).1,(h.whole g cs hg).2⟩,by obtain ⟨W0,h1,h2,h3⟩:=h.fact; exact ⟨W0,h1,by rw [hw]; exact h2,fun b hb=>hS b (h3 b hb)⟩⟩
 have hb : ∀ b,x.S b→y.w.heap[b]? = x.w.heap[b]?:=fun _ _=>by rw [hw]
 have h1:=h.tab g row hg
 generalize hv:(Value.pointer (some ⟨g,0,none⟩))=v at h1
 cases h1 with
 | rop u h1 h2 h3=>exact .rop u (fun h=>hS _ (h1 h)) (fun j d hj=>by rw [hw]; exact h2 j d hj) (fun j d hj=>(h3 j d hj).mono hb hS)
structure Cx.ok (x:Cx):Prop where
 S_lt : ∀ b,x.S b→b<x.w.heap.size
 F_lt : ∀ b,x.F b→b<x.w.heap.size
 SF : ∀ b,x.S b → ¬ x.F b
 obj : ∀ id o,x.H id=some o→o.gen<x.n∧CQ x (x.β id) (x.K id) o
 own : ∀ id o b k,x.H id=some o→x.β id=some (b,k)→b<x.w.heap.size ∧ ¬ x.S b ∧ ¬ x.F b
 inj : ∀ id id' o o' b k k',x.H id=some o→x.H id'=some o'→x.β id=some (b,k)→x.β id'=some (b,k')→id=id'
 ext : ∀ id o j b c,x.H id=some o→x.K id j=some (b,c)→b<x.w.heap.size ∧ ¬ x.S b ∧ ¬ x.F b∧(∀ id' o' k,x.H id'=some o'→x.β id'=some (b,k)→False) ∧
  ∀ id' o' j' c',x.H id'=some o'→x.K id' j'=some (b,c')→id'=id∧j'=j
 tabs:EK x
theorem Lw {w w':World} {β:Option (Nat × Nat)} {len:Nat} {hdr:Value} {e:TypeId} {sz:Nat} {us:List Value} (hb : ∀ b k,β=some (b,k)→w'.heap[b]? = w.heap[b]?) (hh:Bk β len hdr) (h:w.ownsRow 0 e sz hdr len us):w'.ownsRow 0 e sz hdr len us:=by
 obtain ⟨hl,hr⟩:=h
 refine ⟨hl,?_⟩
 rcases hr with hr | ⟨gg,cap,cur,hv,h1,h2,h3,h4,h5,h6⟩
 ·exact .inl hr
 ·refine .inr ⟨gg,cap,cur,hv,h1,?_,h3,h4,h5,h6⟩
  rw [← h2]
  subst hv
  cases β with
  | none=>obtain ⟨_,hh⟩:=hh; cases hh
  | some p=>
   obtain ⟨b,k⟩:=p
   simp only [Bk,Value.slice.injEq,Option.some.injEq,Addr.mk.injEq] at hh
   rw [hh.1.1]
   exact hb b k rfl
theorem ML.mono {w w':World} {S S':Nat→Prop} (hs : ∀ b,S b→w'.heap[b]? = w.heap[b]?) (hS : ∀ b,S b→S' b) {β:Option (Nat × Nat)} (hb : ∀ b k,β=some (b,k)→w'.heap[b]? = w.heap[b]?) {e:TypeId} {sz:Nat} {ys:List (List RV)} {u:Value} (h:ML w S β e sz ys u):ML w' S' β e sz ys u:=by
 obtain ⟨h0,h1,us,h2,h3⟩:=h
 exact ⟨h0,h1,us,Lw hb h1 h2,fun i row c d k1 k2=>let ⟨v,k3,k4⟩:=h3 i row c d k1 k2; ⟨v,k3,k4.mono hs hS⟩⟩
theorem CQ.mono {x y:Cx} (h:x.le y) {β:Option (Nat × Nat)} {κ:Nat→Option (Nat × Nat)} (hblk : ∀ b k,β=some (b,k)→y.w.heap[b]? = x.w.heap[b]?) (hκ : ∀ j b k,κ j=some (b,k)→y.w.heap[b]? = x.w.heap[b]?) {o:AT} (ho:CQ x β κ o):CQ y β κ o:=by
 have hb : ∀ b,x.S b→y.w.heap[b]? = x.w.heap[b]?:=fun b hb=>h.blk b (.inl hb)
 cases o with
 | arr g e sz xs=>
  obtain ⟨h0,hrow,hdr,us,hh,hown,hc⟩:=ho
  refine ⟨h0,hrow,hdr,us,hh,?_,fun i row c d h1 h2=>?_⟩
  ·obtain ⟨hl,hr⟩:=hown
   refine ⟨hl,?_⟩
   rcases hr with hr | ⟨gg,cap,cur,hv,h1,h2,h3,h4,h5,h6⟩
   ·exact .inl hr
   ·refine .inr ⟨gg,cap,cur,hv,h1,?_,h3,h4,h5,h6⟩
    rw [← h2]
    subst hv
    cases β with
    | none=>obtain ⟨_,hh⟩:=hh; cases hh
    | some p=>
     obtain ⟨b,k⟩:=p
     simp only [Bk,Value.slice.injEq,Option.some.injEq,Addr.mk.injEq] at hh
     rw [hh.1.1]
     exact hblk b k rfl
  ·obtain ⟨u,h3,h4⟩:=hc i row c d h1 h2
   exact ⟨u,h3,h4.mono hb h.S⟩
 | box g e cs=>
  obtain ⟨b,cur,hβ,hh,hs,hc⟩:=ho
  refine ⟨b,cur,hβ,(hblk b 1 hβ).trans hh,hs,fun j c hj=>?_⟩
  obtain ⟨u,h1,h2,h3⟩:=hc j c hj
  exact ⟨u,h1,h2,h3.mono h⟩
 | hot g e xs k id g'=>
  obtain ⟨h0,hrow,hdr,us,hh,hown,hc,u0,hk,hu⟩:=ho
  refine ⟨h0,hrow,hdr,us,hh,?_,fun i row d hne h1 h2=>?_,u0,hk,hu.mono h⟩
  ·obtain ⟨hl,hr⟩:=hown
   refine ⟨hl,?_⟩
   rcases hr with hr | ⟨gg,cap,cur,hv,h1,h2,h3,h4,h5,h6⟩
   ·exact .inl hr
   ·refine .inr ⟨gg,cap,cur,hv,h1,?_,h3,h4,h5,h6⟩
    rw [← h2]
    subst hv
    cases β with
    | none=>obtain ⟨_,hh⟩:=hh; cases hh
    | some p=>
     obtain ⟨b,k⟩:=p
     simp only [Bk,Value.slice.injEq,Option.some.injEq,Addr.mk.injEq] at hh
     rw [hh.1.1]
     exact hblk b k rfl
  ·obtain ⟨u,h3,h4⟩:=hc i row d hne h1 h2
   exact ⟨u,h3,h4.mono hb h.S⟩
 | it g s pos=>
  obtain ⟨b,hβ,hh⟩:=ho
  exact ⟨b,hβ,(hblk b 1 hβ).trans hh⟩
 | mp g ks vs clock=>
  obtain ⟨b,us,hβ,h1,h2,hh,hc⟩:=ho
  exact ⟨b,us,hβ,h1,h2,(hblk b 1 hβ).trans hh,fun j c u k1 k2=>(hc j c u k1 k2).mono h⟩
 | mi g mid mg since seen last=>
  obtain ⟨b,m,hβ,hh,hm⟩:=ho
  exact ⟨b,m,hβ,(hblk b 1 hβ).trans hh,hm.mono h⟩
 | lp g e N ps assign body st pend=>
  obtain ⟨b,r,hβ,hh,h1,h2,h3,h4,h5,h6,he⟩:=ho
  exact ⟨b,r,hβ,(hblk b 1 hβ).trans hh,h1,h2,h3,h4,h5,h6,fun t=>(he t).mono h⟩
 | md g l=>
  obtain ⟨b,es,hβ,hh,hl,hc⟩:=ho
  exact ⟨b,es,hβ,(hblk b 1 hβ).trans hh,hl,fun j k d hj=>by
   obtain ⟨m,k1,k2,k3,k4⟩:=hc j k d hj
   exact ⟨m,k1,k2,k3,k4.mono hb h.S⟩⟩
 | mb g v e l=>
  obtain ⟨h0,b,es,hβ,hh,hl,hc⟩:=ho
  exact ⟨Nat.lt_of_lt_of_le h0 h.n,b,es,hβ,(hblk b 1 hβ).trans hh,hl,fun j k cs hj=>by
   obtain ⟨m,bb,cur,k1,k2,k3,k4,k5,k6,k7,k8⟩:=hc j k cs hj
   exact ⟨m,bb,cur,k1,k2,k3,k4,k5,(hκ j bb 1 k4).trans k6,k7,fun i c hi=>by
    obtain ⟨u,e1,e2,e3⟩:=k8 i c hi
    exact ⟨u,e1,e2,e3.mono hb h.S⟩⟩⟩
 | mr g v e sz hole l=>
  obtain ⟨h0,hv,b,es,hβ,hh,hl,hc⟩:=ho
  refine ⟨h0,Nat.lt_of_lt_of_le hv h.n,b,es,hβ,(hblk b 1 hβ).trans hh,hl,fun j k xs hj=>?_⟩
  obtain ⟨hr,bb,cap,us,e1,⟨hl2,e3⟩,e4,e5⟩:=hc j k xs hj
  refine ⟨hr,bb,cap,us,e1,⟨hl2,?_⟩,fun i row c d q1 q2=>by
   obtain ⟨u,q3,q4⟩:=e4 i row c d q1 q2
   exact ⟨u,q3,q4.mono hb h.S⟩,e5⟩
  rcases e3 with e3 | ⟨gg,cap',cur,hv',f1,f2,f3,f4,f5,f6⟩
  ·exact .inl e3
  ·refine .inr ⟨gg,cap',cur,hv',f1,?_,f3,f4,f5,f6⟩
   rw [← f2]
   simp only [Value.slice.injEq,Option.some.injEq,Addr.mk.injEq] at hv'
   rw [← hv'.1.1]
   exact hκ j bb cap e1
 | mj g mid mg len seen=>
  obtain ⟨b,m,hβ,hh,hm⟩:=ho
  exact ⟨b,m,hβ,(hblk b 1 hβ).trans hh,hm.mono h⟩
 | rr g e sz col e2 sz2 hole xs=>
  obtain ⟨h0,hdr,us,h1,h2,h3,h4⟩:=ho
  refine ⟨h0,hdr,us,h1,Lw hblk h1 h2,fun i row c d hc k1 k2=>?_,fun i row hi=>?_⟩
  ·obtain ⟨u,k3,k4⟩:=h3 i row c d hc k1 k2
   exact ⟨u,k3,k4.mono hb h.S⟩
  ·obtain ⟨u,k1,k2⟩:=h4 i row hi
   exact ⟨u,k1,k2.imp (fun ⟨r,g',k3,k4⟩=>⟨r,g',k3,k4.mono h⟩) fun ⟨k3,ys,k4,k5⟩=>⟨k3,ys,k4,k5.mono hb h.S (hκ i)⟩⟩
 | avr g e xs=>
  obtain ⟨hdr,us,h1,h2,h3⟩:=ho
  refine ⟨hdr,us,h1,Lw hblk h1 h2,fun j a hj=>?_⟩
  obtain ⟨u,k1,k2,k3⟩:=h3 j a hj
  exact ⟨u,k1,k2,k3.mono h⟩
 | ml g bs=>
  obtain ⟨b,es,hβ,hh,hl,hc⟩:=ho
  exact ⟨b,es,hβ,(hblk b 1 hβ).trans hh,hl,hc⟩
 | fam g v co e l=>
  obtain ⟨h0,h1,h3⟩:=ho
  refine ⟨Nat.lt_of_lt_of_le h0 h.n,h1,fun j cs hj=>?_⟩
  obtain ⟨bb,cur,k2,kc,k3,k4,k5⟩:=h3 j cs hj
  exact ⟨bb,cur,k2,kc,(hκ j bb 1 k2).trans k3,k4,fun i c hi=>by
   obtain ⟨u,e1,e2,e3⟩:=k5 i c hi
   exact ⟨u,e1,e2,e3.mono hb h.S⟩⟩
 | cal g W ys=>
  obtain ⟨κs,h1,h2,h3,h4,h5⟩:=ho
  refine ⟨κs,h1,h2,h2.stab ys x.w y.w κs h3 h.size h.os h.tape h.output fun c hc=>?_,h4,fun c hc=>h.S c (h5 c hc)⟩
  rcases hc with hc | hc | hc
  ·exact hblk c 1 (by rw [hc]; exact h1)
  ·obtain ⟨j,q,hq⟩:=h4 c hc
   exact hκ j c q hq
  ·exact h.blk c (.inl (h5 c hc))
def AV.one:AV→Bool
 | .agg _ | .tup _ | .any | .whn _ _=>false
 | .cst v=>v.oneCell'
 | _=>true
theorem AR.one {x:Cx} {a:AV} {v:Value} (h:AR x a v) (ha:a.one=true):v.oneCell'=true:=by
 cases h <;> first | rfl | assumption | (simp [AV.one] at ha; done) | skip
 ·rename_i h; exact h.one
 ·rename_i h _; exact h.one
def Cx.at (x:Cx) (id b:Nat):Prop:=(∃ k,x.β id=some (b,k)) ∨ ∃ j k,x.K id j=some (b,k)
theorem Cx.ok.at_lt {x:Cx} (hok:x.ok) {id b:Nat} {o:AT} (h:x.H id=some o) (ha:x.at id b):b<x.w.heap.size ∧ ¬ x.S b ∧ ¬ x.F b:=by
 rcases ha with ⟨k,hb⟩ | ⟨j,k,hb⟩
 ·exact hok.own id o b k h hb
 ·obtain ⟨h1,h2,h3,_⟩:=hok.ext id o j b k h hb
  exact ⟨h1,h2,h3⟩
theorem Cx.ok.at_inj {x:Cx} (hok:x.ok) {id id' b:Nat} {o o':AT} (h:x.H id=some o) (h':x.H id'=some o') (ha:x.at id b) (ha':x.at id' b):id=id':=by
 rcases ha with ⟨k,hb⟩ | ⟨j,k,hb⟩ <;> rcases ha' with ⟨k',hb'⟩ | ⟨j',k',hb'⟩
 ·exact hok.inj id id' o o' b k k' h h' hb hb'
 ·exact ((hok.ext id' o' j' b k' h' hb').2.2.2.1 id o k h hb).elim
 ·exact ((hok.ext id o j b k h hb).2.2.2.1 id' o' k' h' hb').elim
 ·exact ((hok.ext id o j b k h hb).2.2.2.2 id' o' j' k' h' hb').1.symm
def Cx.atk (x:Cx) (id b k:Nat):Prop:=x.β id=some (b,k) ∨ ∃ j,x.K id j=some (b,k)
theorem Cx.ok.own' {x:Cx} (hok:x.ok) (id:Nat) (o:AT) (b k:Nat) (h:x.H id=some o) (ha:x.atk id b k):b<x.w.heap.size ∧ ¬ x.S b ∧ ¬ x.F b:=
 hok.at_lt h (ha.imp (fun h=>⟨k,h⟩) fun ⟨j,h⟩=>⟨j,k,h⟩)
theorem Cx.ok.inj' {x:Cx} (hok:x.ok) {id id' b k k':Nat} {o o':AT} (h:x.H id=some o) (h':x.H id'=some o') (ha:x.atk id b k) (ha':x.atk id' b k'):id=id':=
 hok.at_inj h h' (ha.imp (fun h=>⟨k,h⟩) fun ⟨j,h⟩=>⟨j,k,h⟩) (ha'.imp (fun h=>⟨k',h⟩) fun ⟨j,h⟩=>⟨j,k',h⟩)
theorem Cx.ok.extOf {x y:Cx} (hok:x.ok) (hH : ∀ id o,y.H id=some o → ∃ o',x.H id=some o') (hβ:y.β=x.β) (hK:y.K=x.K) (hs:x.w.heap.size≤y.w.heap.size) (hS : ∀ id o b k,y.H id=some o→x.atk id b k → ¬ y.S b) (hF : ∀ id o b k,y.H id=some o→x.atk id b k → ¬ y.F b) :
  ∀ id o j b c,y.H id=some o→y.K id j=some (b,c)→b<y.w.heap.size ∧ ¬ y.S b ∧ ¬ y.F b∧(∀ id' o' k,y.H id'=some o'→y.β id'=some (b,k)→False) ∧ ∀ id' o' j' c',y.H id'=some o'→y.K id' j'=some (b,c')→id'=id∧j'=j:=by
 intro id o j b c h h1
 rw [hK] at h1
 obtain ⟨o1,h2⟩:=hH id o h
 obtain ⟨e1,e2,e3,e4,e5⟩:=hok.ext id o1 j b c h2 h1
 refine ⟨Nat.lt_of_lt_of_le e1 hs,hS id o b c h (.inr ⟨j,h1⟩),hF id o b c h (.inr ⟨j,h1⟩),fun id' o' k h3 h4=>?_,fun id' o' j' c' h3 h4=>?_⟩
 ·obtain ⟨o2,h5⟩:=hH id' o' h3
  rw [hβ] at h4
  exact e4 id' o2 k h5 h4
 ·obtain ⟨o2,h5⟩:=hH id' o' h3
  rw [hK] at h4
  exact e5 id' o2 j' c' h5 h4
theorem YR {x:Cx} (hok:x.ok) (id:Nat) (o:AT) (w':World) (β':Option (Nat × Nat)) (κ':Nat→Option (Nat × Nat)) (n':Nat)
  (hsize:x.w.heap.size≤w'.heap.size) (hos:w'.os=x.w.os) (htape:w'.tape=x.w.tape) (hout:w'.output=x.w.output)
  (hfr : ∀ b,b<x.w.heap.size→(∀ o0,x.H id=some o0→x.at id b→False)→w'.heap[b]? = x.w.heap[b]?)
  (hβ : ∀ b k,β'=some (b,k)→b<w'.heap.size∧(x.w.heap.size≤b ∨ ∃ o0,x.H id=some o0∧x.at id b))
  (hκ : ∀ j b k,κ' j=some (b,k)→(b<w'.heap.size∧(x.w.heap.size≤b ∨ ∃ o0,x.H id=some o0∧x.at id b))∧(∀ k',β'=some (b,k')→False) ∧ ∀ j' k',κ' j'=some (b,k')→j'=j)
  (hn:x.n≤n') (hgen:o.gen<n') (hold:o.gen<x.n∨o.isCal=true → ∃ o0,x.H id=some o0∧o0.gen=o.gen∧o0.shape=o.shape∧β'=x.β id)
  (hfl:o.isFam=true→o.gen<x.n→o.ver<x.n → ∃ o0,x.H id=some o0∧o0.isFam=true∧o0.gen=o.gen∧o0.ver=o.ver∧o0.kshape=o.kshape∧κ'=x.K id)
  (hrep:x.le { x with w:=w',H:=fun i=>if id=i then some o else x.H i,β:=fun i=>if id=i then β' else x.β i,K:=fun i=>if id=i then κ' else x.K i,n:=n' } →
   CQ { x with w:=w',H:=fun i=>if id=i then some o else x.H i,β:=fun i=>if id=i then β' else x.β i,K:=fun i=>if id=i then κ' else x.K i,n:=n' } β' κ' o) :
  x.le { x with w:=w',H:=fun i=>if id=i then some o else x.H i,β:=fun i=>if id=i then β' else x.β i,K:=fun i=>if id=i then κ' else x.K i,n:=n' } ∧
  ({ x with w:=w',H:=fun i=>if id=i then some o else x.H i,β:=fun i=>if id=i then β' else x.β i,K:=fun i=>if id=i then κ' else x.K i,n:=n' } : Cx).ok:=by
 have hle:x.le { x with w:=w',H:=fun i=>if id=i then some o else x.H i,β:=fun i=>if id=i then β' else x.β i,K:=fun i=>if id=i then κ' else x.K i,n:=n' }:=by
  refine ⟨hsize,hos,htape,hout,fun b hb=>?_,fun _ h=>h,rfl,hn,fun i o' ho' hg=>?_,fun i o' ho' hf hg hv=>?_⟩
  ·refine hfr b (hb.elim (hok.S_lt b) (hok.F_lt b)) fun o0 h1 h2=>?_
   have:=hok.at_lt h1 h2
   exact hb.elim this.2.1 this.2.2
  ·dsimp only at ho' ⊢
   split at ho'
   ·rename_i hi; subst hi
    cases ho'
    obtain ⟨o0,h1,h2,h3,h4⟩:=hold hg
    exact ⟨o0,h1,h2,h3,by rw [if_pos rfl]; exact h4⟩
   ·rename_i hi
    exact ⟨o',ho',rfl,rfl,by rw [if_neg hi]⟩
  ·dsimp only at ho' ⊢
   split at ho'
   ·rename_i hi; subst hi
    cases ho'
    obtain ⟨o0,h1,h0,h2,h3,h4,h5⟩:=hfl hf hg hv
    exact ⟨o0,h1,h0,h2,h3,h4,by rw [if_pos rfl]; exact h5⟩
   ·rename_i hi
    exact ⟨o',ho',hf,rfl,rfl,rfl,by rw [if_neg hi]⟩
 have hblk' : ∀ i o',i≠id→x.H i=some o' → ∀ b,x.at i b→w'.heap[b]? = x.w.heap[b]?:=by
  intro i o' hne hi b hb
  exact hfr b (hok.at_lt hi hb).1 fun o0 h1 h2=>hne (hok.at_inj hi h1 hb h2)
 have hnew : ∀ b,(x.w.heap.size≤b ∨ ∃ o0,x.H id=some o0∧x.at id b)→(¬ x.S b ∧ ¬ x.F b) ∧ ∀ i o',i≠id→x.H i=some o'→x.at i b→False:=by
  intro b hb
  rcases hb with hb | ⟨o0,h1,h2⟩
  ·exact ⟨⟨fun h=>by have:=hok.S_lt b h; omega,fun h=>by have:=hok.F_lt b h; omega⟩,fun i o' _ hi ha=>by have:=(hok.at_lt hi ha).1; omega⟩
  ·exact ⟨(hok.at_lt h1 h2).2,fun i o' hne hi ha=>hne (hok.at_inj hi h1 ha h2)⟩
 refine ⟨hle,fun b hb=>Nat.lt_of_lt_of_le (hok.S_lt b hb) hsize,fun b hb=>Nat.lt_of_lt_of_le (hok.F_lt b hb) hsize,hok.SF,fun i o' ho'=>?_,fun i o' b k ho' hb=>?_,fun i i' o1 o2 b k k' h1 h2 hb hb'=>?_,fun i o' j b c ho' hb=>?_,hok.tabs.le hle⟩
 ·dsimp only at ho' ⊢
  split at ho'
  ·rename_i hi; subst hi
   cases ho'
   rw [if_pos rfl,if_pos rfl]
   exact ⟨hgen,hrep hle⟩
  ·rename_i hi
   rw [if_neg hi,if_neg hi]
   obtain ⟨h1,h2⟩:=hok.obj i o' ho'
   exact ⟨Nat.lt_of_lt_of_le h1 hn,h2.mono hle (fun b k hb=>hblk' i o' (fun e=>hi e.symm) ho' b (.inl ⟨k,hb⟩)) fun j b k hb=>hblk' i o' (fun e=>hi e.symm) ho' b (.inr ⟨j,k,hb⟩)⟩
 ·dsimp only at ho' hb ⊢
  split at hb
  ·rename_i hi; subst hi
   obtain ⟨h1,h2⟩:=hβ b k hb
   exact ⟨h1,(hnew b h2).1⟩
  ·rename_i hi
   rw [if_neg hi] at ho'
   have:=hok.own i o' b k ho' hb
   exact ⟨Nat.lt_of_lt_of_le this.1 hsize,this.2⟩
 ·dsimp only at h1 h2 hb hb'
  by_cases hi:id=i <;> by_cases hi':id=i'
  ·rw [← hi,← hi']
  ·rw [if_pos hi] at hb
   rw [if_neg hi'] at h2 hb'
   exact ((hnew b (hβ b k hb).2).2 i' o2 (fun e=>hi' e.symm) h2 (.inl ⟨k',hb'⟩)).elim
  ·rw [if_pos hi'] at hb'
   rw [if_neg hi] at h1 hb
   exact ((hnew b (hβ b k' hb').2).2 i o1 (fun e=>hi e.symm) h1 (.inl ⟨k,hb⟩)).elim
  ·rw [if_neg hi] at h1 hb
   rw [if_neg hi'] at h2 hb'
   exact hok.inj i i' o1 o2 b k k' h1 h2 hb hb'
 ·dsimp only at ho' hb ⊢
  split at hb
  ·rename_i hi; subst hi
   obtain ⟨⟨h1,h2⟩,h3,h4⟩:=hκ j b c hb
   refine ⟨h1,(hnew b h2).1.1,(hnew b h2).1.2,fun i' o2 k hi' hb'=>?_,fun i' o2 j' c' hi' hb'=>?_⟩
   ·by_cases hi:id=i'
    ·rw [if_pos hi] at hb'; exact h3 k hb'
    ·rw [if_neg hi] at hi' hb'
     exact (hnew b h2).2 i' o2 (fun e=>hi e.symm) hi' (.inl ⟨k,hb'⟩)
   ·by_cases hi:id=i'
    ·rw [if_pos hi] at hb'; exact ⟨hi.symm,h4 j' c' hb'⟩
    ·rw [if_neg hi] at hi' hb'
     exact ((hnew b h2).2 i' o2 (fun e=>hi e.symm) hi' (.inr ⟨j',c',hb'⟩)).elim
  ·rename_i hi
   rw [if_neg hi] at ho'
   obtain ⟨h1,h2,h3,h4,h5⟩:=hok.ext i o' j b c ho' hb
   refine ⟨Nat.lt_of_lt_of_le h1 hsize,h2,h3,fun i' o2 k hi' hb'=>?_,fun i' o2 j' c' hi' hb'=>?_⟩
   ·by_cases hi2:id=i'
    ·rw [if_pos hi2] at hb'
     exact (hnew b (hβ b k hb').2).2 i o' (fun e=>hi e.symm) ho' (.inr ⟨j,c,hb⟩)
    ·rw [if_neg hi2] at hi' hb'
     exact h4 i' o2 k hi' hb'
   ·by_cases hi2:id=i'
    ·rw [if_pos hi2] at hb'
     exact ((hnew b (hκ j' b c' hb').1.2).2 i o' (fun e=>hi e.symm) ho' (.inr ⟨j,c,hb⟩)).elim
    ·rw [if_neg hi2] at hi' hb'
     exact h5 i' o2 j' c' hi' hb'
theorem Dz {x:Cx} (hok:x.ok) (id:Nat) (o:AT) (w':World) (β':Option (Nat × Nat)) (n':Nat)
  (hsize:x.w.heap.size≤w'.heap.size) (hos:w'.os=x.w.os) (htape:w'.tape=x.w.tape) (hout:w'.output=x.w.output)
  (hfr : ∀ b,b<x.w.heap.size→(∀ o0 k,x.H id=some o0→x.β id=some (b,k)→False)→w'.heap[b]? = x.w.heap[b]?)
  (hβ : ∀ b k,β'=some (b,k)→b<w'.heap.size∧(x.w.heap.size≤b ∨ ∃ o0 k',x.H id=some o0∧x.β id=some (b,k')))
  (hn:x.n≤n') (hgen:o.gen<n') (hold:o.gen<x.n → ∃ o0,x.H id=some o0∧o0.gen=o.gen∧o0.shape=o.shape∧β'=x.β id)
  (hrep:x.le { x with w:=w',H:=fun i=>if id=i then some o else x.H i,β:=fun i=>if id=i then β' else x.β i,K:=fun i=>if id=i then fun _=>none else x.K i,n:=n' } →
   CQ { x with w:=w',H:=fun i=>if id=i then some o else x.H i,β:=fun i=>if id=i then β' else x.β i,K:=fun i=>if id=i then fun _=>none else x.K i,n:=n' } β' (fun _=>none) o) (hc:o.isCal=false:=by rfl) (hks:o.isFam=false:=by rfl) :
  x.le { x with w:=w',H:=fun i=>if id=i then some o else x.H i,β:=fun i=>if id=i then β' else x.β i,K:=fun i=>if id=i then fun _=>none else x.K i,n:=n' } ∧
  ({ x with w:=w',H:=fun i=>if id=i then some o else x.H i,β:=fun i=>if id=i then β' else x.β i,K:=fun i=>if id=i then fun _=>none else x.K i,n:=n' } : Cx).ok:=
 YR hok id o w' β' (fun _=>none) n' hsize hos htape hout (fun b hb h=>hfr b hb fun o0 k h1 h2=>h o0 h1 (.inl ⟨k,h2⟩))
  (fun b k hb=>⟨(hβ b k hb).1,(hβ b k hb).2.imp _root_.id fun ⟨o0,k',h1,h2⟩=>⟨o0,h1,.inl ⟨k',h2⟩⟩⟩) (fun j b k hb=>by cases hb) hn hgen (fun h=>hold (h.resolve_right (by rw [hc]; exact Bool.noConfusion))) (fun hf=>by rw [hks] at hf; cases hf) hrep
def zF (z:Option Nat):Fence:={ Fence.wide with round:=z }
def JD (o:Oper):Bool:=match o.op with
 | .defer _=>false
 | _=>true
def Cc:Code→Bool
 | .region _ ops _=>ops.toList.all JD
 | .seq x y=>Cc x && Cc y
 | .cond _ x y=>Cc x && Cc y
 | .block _ x=>Cc x
 | .loop x=>Cc x
 | .scope x=>Cc x
 | .rangeFunc _ _ _ _=>false
 | _=>true
theorem Ua {z:Option Nat} {ρ:Operand→Value} {o:Oper} (h:z=none∨JD o=true):o.semAt z ρ=execOp ρ o:=by
 rcases h with rfl | h
 ·exact Oper.semAt_none ρ o
 ·exact Oper.semAt_eq z ρ o fun c hc=>by unfold JD at h; rw [hc] at h; cases h
theorem S2 {z:Option Nat} {P:Program} {row:String} {args:Array Value} {w:World} {R:Value→World→Prop} (h:Rows P row args w R):RowsIn (zF z) (0-1) P row args w R:=
 fun c cs _=>let ⟨v,w',r,s⟩:=h c cs; ⟨v,w',r,stepsIn_wide.2 s⟩
theorem U6 {P:Program} {o:Oper} {a:Act} {w:World} {K:Act→World→Prop} {Q:Exit→Act→World→Prop} {z:Option Nat} (hz:z=none∨JD o=true) (h:o.wp P a w K Q):o.wpIn (zF z) 0 P a w K Q:=by
 refine ⟨fun _ _=>trivial,?_⟩
 rw [show (zF z).round=z from rfl,Ua hz]
 unfold Oper.wp at h
 generalize (execOp a.eval o).run P w=r at h ⊢
 cases r with
 | ok x w'=>
  cases x with
  | enter f args=>exact ⟨fun e=>(by cases e),callsIn_wide.2 h⟩
  | row rw_ args=>exact ⟨fun e=>(by cases e),S2 h⟩
  | value v=>exact h
  | skip=>exact h
  | defer d=>exact h
  | _=>exact h.elim
 | halt x w'=>cases x <;> first | exact h | exact h.elim
section
variable {P:Program} {ops:Array Oper} {Q:Exit→Act→World→Prop}
theorem KH (hQ : ¬ LetsOut Q) {z:Option Nat} (hz:z=none∨ops.toList.all JD=true) : ∀ (l:List Nat) (a:Act) (w:World),wpOps P ops Q l a w→wpOpsIn (zF z) 0 P ops Q l a w
 | [],_,_,h=>h
 | i :: rest,a,w,h=>by
  simp only [wpOps] at h
  simp only [wpOpsIn]
  split
  ·rename_i ho; rw [ho] at h; exact KH hQ hz rest a w h
  ·rename_i o ho
   rw [ho] at h
   simp only at h
   split
   ·rename_i hw
    rw [if_pos hw] at h
    rcases h with h | h
    ·refine U6 (hz.imp id fun h1=>List.all_eq_true.1 h1 o ?_) (Oper.wp_mono (fun a w=>KH hQ hz rest a w) h)
     exact List.mem_of_getElem? (by rw [Array.getElem?_toList]; exact ho)
    ·exact absurd h.2 hQ
   ·rename_i hw
    rw [if_neg hw] at h
    exact ⟨fun _ _=>trivial,KH hQ hz rest _ w h⟩
theorem UC (hQ : ¬ LetsOut Q) {z:Option Nat} {id:Nat} {a:Act} {w:World} {l:List Oper} (hz:z=none∨Cc (.region id l.toArray false)=true) (h:wpList P l.toArray Q l a w):(Code.region id l.toArray false).wpIn (zF z) 0 P Q a w:=by
 refine wpIn_region (KH hQ (hz.imp _root_.id fun h=>h) _ a w ?_)
 rw [List.range_eq_range',← Array.length_toList,wpOps_eq_wpList _ 0 (by simp)]
 exact h
theorem K1 (hQ : ¬ LetsOut Q) {z:Option Nat} {id:Nat} {a:Act} {w:World} (hm:P.follows .mixedOrders=true) (hz:z=none∨Cc (.region id ops true)=true)
  (h:wpAny P .any ops Q ops.size (Array.replicate ops.size false) a { w with drawn:=w.drawn+1 }):(Code.region id ops true).wpIn (zF z) 0 P Q a w:=
 wpIn_region_draw fun t=>by
  simp only [Region.schedule,hm,Bool.true_or,if_true]
  exact KH hQ (hz.imp _root_.id fun h=>h) _ a _ (wpAny_sound ops.size t _ a _ h)
theorem Sk (hQ : ¬ LetsOut Q) {C:World→Prop} {z:Option Nat} {id:Nat} {a:Act} {w:World} (hm:P.follows .mixedOrders=true) (hB:Region.lexB .any ops=true) (hz:z=none∨Cc (.region id ops true)=true) (hC:C { w with drawn:=w.drawn+1 })
  (h:wpQuiet P ops C (fun a'=>∀ w',C w'→Q .normal a' w') ops.toList a):(Code.region id ops true).wpIn (zF z) 0 P Q a w:=by
 simp only [Region.lexB,Bool.and_eq_true] at hB
 refine K1 hQ hm hz (wpAny_of_quiet (Q:=fun a'=>∀ w',C w'→Q .normal a' w') (fun _ w' hw' h=>h w' hw') _ _ _ _ hC ?_)
 have:=wpAnyQ_lex (C:=C) (md:=.any) hB.1 ops.toList 0 (Array.replicate ops.size false) a (by simp) (by simpa using hB.2) h
 simpa using this
end
structure St where
 e:AU
 h:AN
 n:Nat
 N:Nat
def Hf:Value→AV
 | .int k n=>.r (.int k n)
 | .bool b=>.r (.bool b)
 | .string s=>.r (.str s.data.toList)
 | v=>.cst v
def Av (R:AU):Operand→AV
 | .tmp t=>get R t
 | .const v=>Hf v
 | .global _=>.any
 | .func f=>.fn f []
def Ev (c:Bool) (R:AU) (x:Operand) (v:AV):Prop:=Av R x=v ∨ ∃ c2,(c=true→c2=true)∧Av R x = .whn c2 v
def BN (x:Cx) (R:AU) (a:Act):Prop:=∀ t,AR x (get R t) (a.tmps.getD t undef)
theorem LT (x:Cx) (v:Value):AR x (Hf v) v:=by
 cases v <;> first | exact .r (.int _ _) | exact .r (.bool _) | exact .r (.str _) | exact .cst _
theorem BN.eval {x:Cx} {R:AU} {a:Act} (h:BN x R a) (o:Operand):AR x (Av R o) (a.eval o):=by
 cases o with
 | tmp t=>exact h t
 | const v=>exact LT x v
 | global g=>exact .any _
 | func f=>exact .fn rfl (fun i c u h=>by simp at h)
theorem Ev.rep {x:Cx} {R:AU} {a:Act} {c:Bool} {o:Operand} {v:AV} (he:BN x R a) (h:Ev c R o v) (hc:c=true):AR x v (a.eval o):=by
 have h0:=he.eval o
 rcases h with h | ⟨c2,h2,h⟩
 ·rwa [h] at h0
 ·rw [h] at h0
  cases h0 with
  | whn hw _=>grind
theorem BN.mono {x y:Cx} (h:x.le y) {R:AU} {a:Act} (he:BN x R a):BN y R a:=fun t=>(he t).mono h
theorem N5 {a:Array Value} {d t:Nat} {u:Value} (hd:d<a.size):(a.setIfInBounds d u).getD t undef=if d=t then u else a.getD t undef:=by
 by_cases h:d=t
 ·subst h; simp [hd]
 ·simp [h]
theorem C3 (d:Nat) (v:AV) (R:AU) (t:Nat):get ((d,v) :: R) t=if d=t then v else get R t:=by
 show (match Nat.beq d t with | true=>v | false=>get R t)=_
 cases h:Nat.beq d t with
 | true=>rw [if_pos (Nat.eq_of_beq_eq_true h)]
 | false=>rw [if_neg (Nat.ne_of_beq_eq_false h)]
theorem Bb (d:Nat) (v:Option AT) (R:AN) (t:Nat):hget ((d,v) :: R) t=if d=t then v else hget R t:=by
 show (match Nat.beq d t with | true=>v | false=>hget R t)=_
 cases h:Nat.beq d t with
 | true=>rw [if_pos (Nat.eq_of_beq_eq_true h)]
 | false=>rw [if_neg (Nat.ne_of_beq_eq_false h)]
theorem E7 {d N:Nat} (h:Nat.blt d N=true):d<N:=Nat.le_of_ble_eq_true h
theorem BN.put {x:Cx} {R:AU} {a:Act} {d:Nat} {v:AV} {u:Value} (hd:d<a.tmps.size) (he:BN x R a) (hv:AR x v u) :
  BN x ((d,v) :: R) (a.put (some d) u):=by
 intro t
 simp only [Act.put,N5 hd,C3]
 split
 ·exact hv
 ·exact he t
def Vf (c0:Cx) (ds:List Deferred) (y:Cx):Prop:=
 (ds.Nodup∧(ds≠[] → ∀ id o,y.H id=some o→o.isCal=false)) ∧ ∀ d∈ds,∃ D,d = { target:=.collected D,args:=#[] } ∧ c0.w.heap.size≤D∧y.S D∧y.w.heap[D]? = some (.deferred (some []))
structure Cx.leM (x:Cx) (ds:List Deferred) (y:Cx):Prop where
 le:x.le y
 marks:Vf x ds y
theorem Cx.leM.refl (x:Cx):x.leM [] x:=⟨.refl x,⟨List.Pairwise.nil,fun h=>absurd rfl h⟩,fun d h=>by cases h⟩
theorem Cx.leM.trans {x y z:Cx} {ds:List Deferred} (h:x.leM ds y) (k:y.le z):x.leM ds z:=
 ⟨h.le.trans k,⟨h.marks.1.1,fun hd id o ho=>by
  cases hc:o.isCal with
  | false=>rfl
  | true=>
   obtain ⟨o1,h1,_,h2,_⟩:=k.H id o ho (.inr hc)
   have:=h.marks.1.2 hd id o1 h1
   grind [OT]⟩,fun d hd=>let ⟨D,h1,h2,h3,h4⟩:=h.marks.2 d hd; ⟨D,h1,h2,k.S D h3,(k.blk D (.inl h3)).trans h4⟩⟩
def Bz (c0:Cx) (s:St) (a:Act) (w:World):Prop:=
 ∃ ds,a.defers=ds∧a.tmps.size=s.N ∧ ∃ y:Cx,y.w=w∧c0.leM ds y∧y.ok∧y.H=hget s.h∧y.n=s.n∧BN y s.e a
def BC (P:Program) (c:Bool) (o:Oper) (R:AU) (h:AN) (n:Nat) (v:AV) (h':AN) (n':Nat):Prop:=
 c=true → ∀ (x:Cx) (a:Act),x.ok→x.H=hget h→x.n=n→BN x R a → ∀ (K:Act→World→Prop) (Q:Exit→Act→World→Prop),
  (∀ (u:Value) (y:Cx),x.le y→y.ok→y.H=hget h'→y.n=n'→AR y v u→K (a.put o.dst u) y.w)→o.wp P a x.w K Q
def CV (x:Cx) (w2:World):Prop:=∀ b,(x.S b ∨ ∃ id o k,x.H id=some o∧x.atk id b k)→w2.heap[b]? = x.w.heap[b]?
theorem CV.cellS {x:Cx} {w2:World} (h:CV x w2) {b k:Nat} (hS:x.S b):w2.cell? ⟨b,k,none⟩=x.w.cell? ⟨b,k,none⟩:=World.cell?_of_block (h b (.inl hS))
theorem CV.cellO {x:Cx} {w2:World} (h:CV x w2) {id b k j:Nat} {o:AT} (h1:x.H id=some o) (h2:x.β id=some (b,k)):w2.cell? ⟨b,j,none⟩=x.w.cell? ⟨b,j,none⟩:=World.cell?_of_block (h b (.inr ⟨id,o,k,h1,.inl h2⟩))
def AY (P:Program) (c:Bool) (o:Oper) (R:AU) (h:AN) (v:AV):Prop:=
 c=true → ∀ (x:Cx) (a:Act),x.ok→x.H=hget h→BN x R a → ∃ u,(∀ w2,CV x w2→(execOp a.eval o).run P w2 = .ok (.value u) w2)∧AR x v u
theorem B2 {P:Program} {c:Bool} {o:Oper} {R:AU} {h:AN} {v:AV} (H:AY P c o R h v) (n:Nat):BC P c o R h n v h n:=by
 intro hc x a hok hH hn he K Q hK
 obtain ⟨u,hr,hv⟩:=H hc x a hok hH he
 unfold Oper.wp
 rw [hr x.w fun _ _=>rfl]
 exact hK u x (.refl x) hok hH hn hv
def AK (P:Program) (ops:Array Oper) (rest:List Oper) (s:St) (K:St→Prop):Prop:=
 ∀ (c0:Cx) (a:Act) (w:World),Bz c0 s a w → ∀ Q:Exit→Act→World→Prop,(∀ s' a' w',K s'→Bz c0 s' a' w'→Q .normal a' w')→wpList P ops Q rest a w
section
variable {P:Program} {ops:Array Oper} {rest:List Oper} {s:St} {K:St→Prop} {o:Oper}
theorem AK.nil (h:K s):AK P ops [] s K:=fun _ a w hs _ hQ=>hQ s a w h hs
theorem AK.step {d:Nat} {v:AV} {h':AN} {n':Nat} (hg:o.guard=none) (hd:o.dst=some d) (hN:Nat.blt d s.N=true) (hs:BC P true o s.e s.h s.n v h' n')
  (hr:AK P ops rest { e:=(d,v) :: s.e,h:=h',n:=n',N:=s.N } K):AK P ops (o :: rest) s K:=by
 intro c0 a w ⟨_,hdef,hsz,y,hyw,hle,hok,hH,hn,he⟩ Q hQ
 subst hyw
 refine wpList_plain hg fun K' hK'=>?_
 refine hs rfl y a hok hH hn he K' Q fun u z hyz hzok hzH hzn hzv=>?_
 refine hK' _ _ ?_
 have hN':d<a.tmps.size:=by simp_all
 rw [hd]
 exact hr c0 (a.put (some d) u) z.w ⟨_,hdef,by simpa [Act.put] using hsz,z,rfl,hle.trans hyz,hzok,hzH,hzn,(he.mono hyz).put hN' hzv⟩ Q hQ
theorem YU {v:AV} {h':AN} {n':Nat} (hg:o.guard=none) (hd:o.dst=none) (hs:BC P true o s.e s.h s.n v h' n')
  (hr:AK P ops rest { e:=s.e,h:=h',n:=n',N:=s.N } K):AK P ops (o :: rest) s K:=by
 intro c0 a w ⟨_,hdef,hsz,y,hyw,hle,hok,hH,hn,he⟩ Q hQ
 subst hyw
 refine wpList_plain hg fun K' hK'=>?_
 refine hs rfl y a hok hH hn he K' Q fun u z hyz hzok hzH hzn hzv=>?_
 refine hK' _ _ ?_
 rw [hd]
 exact hr c0 _ _ ⟨_,hdef,hsz,z,rfl,hle.trans hyz,hzok,hzH,hzn,he.mono hyz⟩ Q hQ
end
def Dj (c0:Cx) (Q:Exit→St→Prop) (e:Exit) (a:Act) (w:World):Prop:=e ≠ .outgrown ∧ ∃ s',Q e s'∧Bz c0 s' a w
theorem Mk {c0:Cx} {Q:Exit→St→Prop} : ¬ LetsOut (Dj c0 Q):=fun ⟨_,_,h,_⟩=>h rfl
theorem Dj.mono {c0:Cx} {Q Q':Exit→St→Prop} (h : ∀ e s,Q e s→Q' e s) {e:Exit} {a:Act} {w:World} : Dj c0 Q e a w→Dj c0 Q' e a w
 | ⟨ho,s',hq,hs⟩=>⟨ho,s',h e s' hq,hs⟩
def AW (P:Program) (c:Code) (Q:Exit→St→Prop) (s:St):Prop:=
 ∀ z:Option Nat,(z=none∨Cc c=true) → ∀ (c0:Cx) (a:Act) (w:World),Bz c0 s a w→c.wpIn (zF z) 0 P (Dj c0 Q) a w
def EF (K:St→Prop) (Q:Exit→St→Prop):Exit→St→Prop
 | .normal,s=>K s
 | e,s=>Q e s
def Oj (id:Nat) (Q:Exit→St→Prop):Exit→St→Prop
 | .exit i,s=>if i=id then Q .normal s else Q (.exit i) s
 | e,s=>Q e s
def Ac (s s':St):Prop:=∀ c0 a w,Bz c0 s a w→Bz c0 s' a w
section
variable {P:Program} {Q:Exit→St→Prop} {s:St} {x y:Code}
theorem AW.mono {Q':Exit→St→Prop} (h:AW P x Q s) (hq : ∀ e s,Q e s→Q' e s):AW P x Q' s:=
 fun z hz c0 a w hs=>wpIn_mono (h z hz c0 a w hs) fun _ _ _ hp=>hp.mono hq
theorem AW.weak {s':St} (hw:Ac s s') (h:AW P x Q s'):AW P x Q s:=fun z hz c0 a w hs=>h z hz c0 a w (hw _ _ _ hs)
theorem AW.skip (h:Q .normal s):AW P .skip Q s:=fun _ _ _ _ _ hs=>wpIn_skip ⟨by simp,s,h,hs⟩
theorem AW.ret (h:Q .ret s):AW P .ret Q s:=fun _ _ _ _ _ hs=>wpIn_ret ⟨by simp,s,h,hs⟩
theorem AW.exit {id:Nat} (h:Q (.exit id) s):AW P (.exit id) Q s:=fun _ _ _ _ _ hs=>wpIn_exit ⟨by simp,s,h,hs⟩
theorem AW.seq (h:AW P x (EF (AW P y Q) Q) s):AW P (.seq x y) Q s:=by
 intro z hz c0 a w hs
 have hz1:z=none∨Cc x=true:=hz.imp id fun h=>by simp only [Cc,Bool.and_eq_true] at h; exact h.1
 have hz2:z=none∨Cc y=true:=hz.imp id fun h=>by simp only [Cc,Bool.and_eq_true] at h; exact h.2
 refine wpIn_seq (wpIn_mono (h z hz1 c0 a w hs) fun e a' w' ⟨ho,s',hq,hs'⟩=>?_)
 cases e with
 | normal=>exact hq z hz2 c0 a' w' hs'
 | exit id=>exact ⟨ho,s',hq,hs'⟩
 | goto l=>exact ⟨ho,s',hq,hs'⟩
 | ret=>exact ⟨ho,s',hq,hs'⟩
 | panic ch=>exact ⟨ho,s',hq,hs'⟩
 | outgrown=>grind
theorem YO (h : ∀ K:St→Prop,(∀ s,AW P y Q s→K s)→AW P x (EF K Q) s):AW P (.seq x y) Q s:=.seq (h _ fun _ h=>h)
theorem AW.block {id:Nat} (h:AW P x (Oj id Q) s):AW P (.block id x) Q s:=by
 intro z hz c0 a w hs
 refine wpIn_block (wpIn_mono (h z hz c0 a w hs) fun e a' w' ⟨ho,s',hq,hs'⟩=>?_)
 cases e with
 | exit i=>
  simp only [Oj,Exit.inBlock] at hq ⊢
  split
  ·rename_i hi; rw [if_pos hi] at hq; exact ⟨by simp,s',hq,hs'⟩
  ·rename_i hi; rw [if_neg hi] at hq; exact ⟨by simp,s',hq,hs'⟩
 | normal=>exact ⟨ho,s',hq,hs'⟩
 | goto l=>exact ⟨ho,s',hq,hs'⟩
 | ret=>exact ⟨ho,s',hq,hs'⟩
 | panic ch=>exact ⟨ho,s',hq,hs'⟩
 | outgrown=>grind
theorem AW.cond {c:Operand} {b:Bool} (hc:Av s.e c = .r (.bool b)) (ht:b=true→AW P x Q s) (hf:b=false→AW P y Q s):AW P (.cond c x y) Q s:=by
 intro z hz c0 a w hs
 have hb:a.eval c = .bool b:=by
  obtain ⟨_,_,_,z,_,_,_,_,_,he⟩:=hs
  have h0:=he.eval c
  rw [hc] at h0
  cases h0 with
  | r h1=>generalize a.eval c=u at h1 ⊢; cases h1; rfl
 exact wpIn_cond_split hb (fun h=>ht h z (hz.imp id fun h=>by simp only [Cc,Bool.and_eq_true] at h; exact h.1) c0 a w hs) (fun h=>hf h z (hz.imp id fun h=>by simp only [Cc,Bool.and_eq_true] at h; exact h.2) c0 a w hs)
theorem AW.loop (I:Nat→St→Prop) (m:Nat) (h0 : ∃ s',Ac s s'∧I m s') (round : ∀ m s,I m s→AW P x (EF (fun s'=>∃ m',m'<m ∧ ∃ s'',Ac s' s''∧I m' s'') Q) s):AW P (.loop x) Q s:=by
 intro z hz c0 a w hs
 obtain ⟨s0,hw0,hI0⟩:=h0
 refine wpIn_loop_ghost (fun k a w=>∃ s,I k s∧Bz c0 s a w) m ⟨s0,hI0,hw0 _ _ _ hs⟩ ?_
 intro k a w ⟨s1,hI,hs1⟩
 refine wpIn_mono (round k s1 hI z (hz.imp id fun h=>h) c0 a w hs1) fun e a' w' ⟨ho,s',hq,hs'⟩=>?_
 cases e with
 | normal=>
  obtain ⟨m',hlt,s'',hw,hI'⟩:=hq
  exact ⟨m',hlt,s'',hI',hw _ _ _ hs'⟩
 | exit id=>exact ⟨ho,s',hq,hs'⟩
 | goto l=>exact ⟨ho,s',hq,hs'⟩
 | ret=>exact ⟨ho,s',hq,hs'⟩
 | panic ch=>exact ⟨ho,s',hq,hs'⟩
 | outgrown=>grind
theorem AW.region {id:Nat} {l:List Oper} (h:AK P l.toArray l s (Q .normal)):AW P (.region id l.toArray false) Q s:=by
 intro z hz c0 a w hs
 exact UC Mk hz (h c0 a w hs _ fun s' a' w' hk hs'=>⟨by simp,s',hk,hs'⟩)
end
theorem Ac.refl (s:St):Ac s s:=fun _ _ _ h=>h
theorem Ac.trans {a b c:St} (h:Ac a b) (k:Ac b c):Ac a c:=fun _ _ _ x=>k _ _ _ (h _ _ _ x)
def JW:AN→AN→Prop
 | [],_=>True
 | (id,o) :: r,h=>(o=none∨hget h id=o)∧JW r h
theorem JW.get {h' h:AN} (k:JW h' h) (t:Nat):hget h' t=none∨hget h' t=hget h t:=by
 induction h' with
 | nil=>exact .inl rfl
 | cons p r ih=>
  obtain ⟨d,v⟩:=p
  rw [Bb]
  split
  ·rename_i hd; subst hd
   rcases k.1 with h1 | h1
   ·grind
   ·grind
  ·exact ih k.2
theorem Yc {y:Cx} (hok:y.ok) (H':Nat→Option AT) (hH : ∀ id o,H' id=some o→y.H id=some o) (n':Nat) (hn:y.n≤n') :
  y.le { y with H:=H',n:=n' } ∧ ({ y with H:=H',n:=n' } : Cx).ok:=by
 have hle:y.le { y with H:=H',n:=n' }:=⟨Nat.le_refl _,rfl,rfl,rfl,fun _ _=>rfl,fun _ h=>h,rfl,hn,fun id o h _=>⟨o,hH id o h,rfl,rfl,rfl⟩,fun id o h hf _ _=>⟨o,hH id o h,hf,rfl,rfl,rfl,rfl⟩⟩
 refine ⟨hle,hok.S_lt,hok.F_lt,hok.SF,fun id o h=>?_,fun id o b k h=>hok.own id o b k (hH _ _ h),fun id id' o o' b k k' h h'=>hok.inj id id' o o' b k k' (hH _ _ h) (hH _ _ h'),hok.extOf (fun id o h=>⟨o,hH id o h⟩) rfl rfl (Nat.le_refl _) (fun id o b k h ha=>(hok.own' id o b k (hH _ _ h) ha).2.1) (fun id o b k h ha=>(hok.own' id o b k (hH _ _ h) ha).2.2),hok.tabs.le hle⟩
 obtain ⟨h1,h2⟩:=hok.obj id o (hH _ _ h)
 exact ⟨Nat.lt_of_lt_of_le h1 hn,h2.mono hle (fun _ _ _=>rfl) fun _ _ _ _=>rfl⟩
section
variable {x:Cx} {w':World}
def GV (x:Cx) (w':World):Prop:=∀ b,x.S b→w'.heap[b]? = x.w.heap[b]? ∨ ∀ k,x.w.cell? ⟨b,k,none⟩=none
theorem GV.cell (h:GV x w') {b k:Nat} {v:Value} (hS:x.S b) (hc:x.w.cell? ⟨b,k,none⟩=some v):w'.cell? ⟨b,k,none⟩=some v:=by
 rcases h b hS with h | h
 ·rw [← hc]; exact World.cell?_of_block h
 ·rw [h k] at hc; cases hc
theorem Ar.off (hb:GV x w') {d:RV} {v:Value} (h:Ar x.w x.S d v):Ar w' x.S d v:=by
 induction h with
 | int k n=>exact .int k n
 | bool b=>exact .bool b
 | str s=>exact .str s
 | snil=>exact .snil
 | sl0 a=>exact .sl0 a
 | sl b off xs cap size u hS1 hc hm hsz hcell hrep ih=>
  refine .sl b off xs cap size u hS1 hc hm hsz (fun i row c x h1 h2=>?_) ih
  have hne:xs≠[]:=by rintro rfl; simp at h1
  exact hb.cell (hS1 hne) (hcell i row c x h1 h2)
 | any v h=>exact .any v h
 | slf _ hf ih=>exact .slf ih hf
 | ptr b=>exact .ptr b
theorem AR.off (hb:GV x w') {a:AV} {v:Value} (ha:AR x a v):AR { x with w:=w' } a v:=by
 induction ha with
 | r hr=>exact .r (hr.off hb)
 | agg hl _ ih=>exact .agg hl ih
 | tup hl _ ih=>exact .tup hl ih
 | own hg h1 ho=>exact .own hg h1 ho
 | pre hg h1 ho=>exact .pre hg h1 ho
 | ptr hg h1 ho=>exact .ptr hg h1 ho
 | mref hg h1 ho=>exact .mref hg h1 ho
 | yld hg h1 ho=>exact .yld hg h1 ho
 | pk hg hv h1 ho=>exact .pk hg hv h1 ho
 | fo hg hv h1 ho=>exact .fo hg hv h1 ho
 | full hr hf=>exact .full (hr.off hb) hf
 | @rop row k b off u hS hc hr=>
  refine .rop u hS (fun j d hj=>?_) (fun j d hj=>(hr j d hj).off hb)
  have hne:row≠[]:=fun e=>by subst e; simp at hj
  exact hb.cell (hS hne) (hc j d hj)
 | fn hl _ ih=>exact .fn hl ih
 | cst v=>exact .cst v
 | whn _ h2 ih=>exact .whn ih h2
 | ifc h1 h h2=>exact .ifc h1 h h2
 | any v=>exact .any v
theorem CQ.off (hb:GV x w') {β:Option (Nat × Nat)} {κ:Nat→Option (Nat × Nat)} (hblk : ∀ b k,β=some (b,k)→w'.heap[b]? = x.w.heap[b]?) (hκ : ∀ j b k,κ j=some (b,k)→w'.heap[b]? = x.w.heap[b]?) {o:AT} (hno:o.isCal=false) (ho:CQ x β κ o):CQ { x with w:=w' } β κ o:=by
 have hrow : ∀ {e:TypeId} {sz:Nat} {hdr:Value} {len:Nat} {us:List Value},Bk β len hdr→x.w.ownsRow 0 e sz hdr len us→w'.ownsRow 0 e sz hdr len us:=by
  intro e sz hdr len us hh ⟨hl,hr⟩
  refine ⟨hl,?_⟩
  rcases hr with hr | ⟨gg,cap,cur,hv,h1,h2,h3,h4,h5,h6⟩
  ·exact .inl hr
  ·refine .inr ⟨gg,cap,cur,hv,h1,?_,h3,h4,h5,h6⟩
   rw [← h2]
   subst hv
   cases β with
   | none=>obtain ⟨_,hh⟩:=hh; cases hh
   | some p=>
    obtain ⟨b,k⟩:=p
    simp only [Bk,Value.slice.injEq,Option.some.injEq,Addr.mk.injEq] at hh
    rw [hh.1.1]
    exact hblk b k rfl
 cases o with
 | arr g e sz xs=>
  obtain ⟨h0,h1,hdr,us,hh,hown,hc⟩:=ho
  exact ⟨h0,h1,hdr,us,hh,hrow hh hown,fun i row c d h1 h2=>let ⟨u,h3,h4⟩:=hc i row c d h1 h2; ⟨u,h3,h4.off hb⟩⟩
 | box g e cs=>
  obtain ⟨b,cur,hβ,hh,hs,hc⟩:=ho
  exact ⟨b,cur,hβ,(hblk b 1 hβ).trans hh,hs,fun j c hj=>let ⟨u,h1,h2,h3⟩:=hc j c hj; ⟨u,h1,h2,h3.off hb⟩⟩
 | hot g e xs k id g'=>
  obtain ⟨h0,h1,hdr,us,hh,hown,hc,u0,hk,hu⟩:=ho
  exact ⟨h0,h1,hdr,us,hh,hrow hh hown,fun i row d hne h1 h2=>let ⟨u,h3,h4⟩:=hc i row d hne h1 h2; ⟨u,h3,h4.off hb⟩,u0,hk,hu.off hb⟩
 | it g s pos=>obtain ⟨b,hβ,hh⟩:=ho; exact ⟨b,hβ,(hblk b 1 hβ).trans hh⟩
 | mp g ks vs clock=>obtain ⟨b,us,hβ,h1,h2,hh,hc⟩:=ho; exact ⟨b,us,hβ,h1,h2,(hblk b 1 hβ).trans hh,fun j c u k1 k2=>(hc j c u k1 k2).off hb⟩
 | mi g mid mg since seen last=>obtain ⟨b,m,hβ,hh,hm⟩:=ho; exact ⟨b,m,hβ,(hblk b 1 hβ).trans hh,hm.off hb⟩
 | lp g e N ps assign body st pend=>
  obtain ⟨b,r,hβ,hh,h1,h2,h3,h4,h5,h6,he⟩:=ho
  exact ⟨b,r,hβ,(hblk b 1 hβ).trans hh,h1,h2,h3,h4,h5,h6,fun t=>(he t).off hb⟩
 | md g l=>
  obtain ⟨b,es,hβ,hh,hl,hc⟩:=ho
  exact ⟨b,es,hβ,(hblk b 1 hβ).trans hh,hl,fun j k d hj=>let ⟨m,k1,k2,k3,k4⟩:=hc j k d hj; ⟨m,k1,k2,k3,k4.off hb⟩⟩
 | mb g v e l=>
  obtain ⟨h0,b,es,hβ,hh,hl,hc⟩:=ho
  exact ⟨h0,b,es,hβ,(hblk b 1 hβ).trans hh,hl,fun j k cs hj=>let ⟨m,bb,cur,k1,k2,k3,k4,k5,k6,k7,k8⟩:=hc j k cs hj; ⟨m,bb,cur,k1,k2,k3,k4,k5,(hκ j bb 1 k4).trans k6,k7,fun i c hi=>let ⟨u,e1,e2,e3⟩:=k8 i c hi; ⟨u,e1,e2,e3.off hb⟩⟩⟩
 | mr g v e sz hole l=>
  obtain ⟨h0,hv,b,es,hβ,hh,hl,hc⟩:=ho
  refine ⟨h0,hv,b,es,hβ,(hblk b 1 hβ).trans hh,hl,fun j k xs hj=>?_⟩
  obtain ⟨hr,bb,cap,us,e1,⟨hl2,e3⟩,e4,e5⟩:=hc j k xs hj
  refine ⟨hr,bb,cap,us,e1,⟨hl2,?_⟩,fun i row c d q1 q2=>let ⟨u,q3,q4⟩:=e4 i row c d q1 q2; ⟨u,q3,q4.off hb⟩,e5⟩
  rcases e3 with e3 | ⟨gg,cap',cur,hv',f1,f2,f3,f4,f5,f6⟩
  ·exact .inl e3
  ·refine .inr ⟨gg,cap',cur,hv',f1,?_,f3,f4,f5,f6⟩
   rw [← f2]
   simp only [Value.slice.injEq,Option.some.injEq,Addr.mk.injEq] at hv'
   rw [← hv'.1.1]
   exact hκ j bb cap e1
 | mj g mid mg len seen=>
  obtain ⟨b,m,hβ,hh,hm⟩:=ho
  exact ⟨b,m,hβ,(hblk b 1 hβ).trans hh,hm.off hb⟩
 | avr g e xs=>
  obtain ⟨hdr,us,h1,h2,h3⟩:=ho
  exact ⟨hdr,us,h1,hrow h1 h2,fun j a hj=>let ⟨u,k1,k2,k3⟩:=h3 j a hj; ⟨u,k1,k2,k3.off hb⟩⟩
 | ml g bs=>
  obtain ⟨b,es,hβ,hh,hl,hc⟩:=ho
  exact ⟨b,es,hβ,(hblk b 1 hβ).trans hh,hl,hc⟩
 | fam g v co e l=>
  obtain ⟨h0,h1,h3⟩:=ho
  exact ⟨h0,h1,fun j cs hj=>let ⟨bb,cur,k2,kc,k3,k4,k5⟩:=h3 j cs hj; ⟨bb,cur,k2,kc,(hκ j bb 1 k2).trans k3,k4,fun i c hi=>let ⟨u,e1,e2,e3⟩:=k5 i c hi; ⟨u,e1,e2,e3.off hb⟩⟩⟩
 | rr g e sz col e2 sz2 hole xs=>
  obtain ⟨h0,hdr,us,h1,h2,h3,h4⟩:=ho
  exact ⟨h0,hdr,us,h1,hrow h1 h2,fun i row c d hc k1 k2=>let ⟨u,k3,k4⟩:=h3 i row c d hc k1 k2; ⟨u,k3,k4.off hb⟩,fun i row hi=>let ⟨u,k1,k2⟩:=h4 i row hi
   ⟨u,k1,k2.imp (fun ⟨r,g',k3,k4⟩=>⟨r,g',k3,k4.off hb⟩) fun ⟨k3,ys,k4,k5,k6,us2,k7,k8⟩=>⟨k3,ys,k4,k5,k6,us2,Lw (hκ i) k6 k7,fun i row c d q1 q2=>let ⟨v,q3,q4⟩:=k8 i row c d q1 q2; ⟨v,q3,q4.off hb⟩⟩⟩⟩
 | cal g W ys=>cases hno
end
theorem YM {y:Cx} (hok:y.ok) {D:Nat} (hS:y.S D) (hc : ∀ k,y.w.cell? ⟨D,k,none⟩=none) (hF : ∃ W0:World,ND W0∧Go.RowKit.Below W0.heap.size W0 y.w∧(∀ b,b<W0.heap.size→y.S b)∧W0.heap.size≤D) (hno : ∀ id ob,y.H id=some ob→ob.isCal=false) (o:Obj):GV y (y.w.putObj D o)∧({ y with w:=y.w.putObj D o } : Cx).ok:=by
 have hoff:GV y (y.w.putObj D o):=fun b _=>by
  by_cases h:b=D
  ·subst h; exact .inr hc
  ·exact .inl (World.putObj_heap_other h)
 refine ⟨hoff,?_⟩
 refine ⟨fun b hb=>by show b<(y.w.putObj D o).heap.size; rw [World.putObj_size]; exact hok.S_lt b hb,fun b hb=>by show b<(y.w.putObj D o).heap.size; rw [World.putObj_size]; exact hok.F_lt b hb,hok.SF,fun id ob h=>?_,fun id ob b k h1 h2=>?_,hok.inj,hok.extOf (y:={ y with w:=y.w.putObj D o }) (fun id o h=>⟨o,h⟩) rfl rfl (by show _≤(y.w.putObj D o).heap.size; rw [World.putObj_size]; exact Nat.le_refl _) (fun id o b k h ha=>(hok.own' id o b k h ha).2.1) (fun id o b k h ha=>(hok.own' id o b k h ha).2.2),?_⟩
 ·obtain ⟨h1,h2⟩:=hok.obj id ob h
  exact ⟨h1,h2.off hoff (fun b k hb=>World.putObj_heap_other fun e=>by subst e; exact (hok.own id ob b k h hb).2.1 hS) (fun j b k hb=>World.putObj_heap_other fun e=>by subst e; exact (hok.own' id ob b k h (.inr ⟨j,hb⟩)).2.1 hS) (hno id ob h)⟩
 ·have:=hok.own id ob b k h1 h2
  exact ⟨by show b<(y.w.putObj D o).heap.size; rw [World.putObj_size]; exact this.1,this.2⟩
 ·refine ⟨fun g row hg=>(hok.tabs.tab g row hg).off hoff,fun g cs hg=>?_,by
   obtain ⟨W0,f1,f2,f3,f4⟩:=hF
   exact ⟨W0,f1,⟨f2.os,f2.tape,f2.output,by rw [World.putObj_size]; exact f2.size,fun b hb=>(World.putObj_heap_other (by omega)).trans (f2.block b hb)⟩,f3⟩⟩
  obtain ⟨h1,h0,t,p,h2⟩:=hok.tabs.whole g cs hg
  refine ⟨h1,h0,t,p,?_⟩
  have hne:g≠D:=by
   intro e
   subst e
   have h3:=hc 0
   unfold World.cell? at h3
   rw [h2] at h3
   simp only [Array.getElem?_eq_getElem h0] at h3
   cases h3
  show (y.w.putObj D o).heap[g]? = _
  rw [World.putObj_heap_other hne,h2]
theorem PC {P:Program} {fn:Func} {tmps:Array Value} {R:Ending→World→Prop} {c0:Cx} {e:AU} : ∀ (ds:List Deferred) (y:Cx),y.ok→c0.ok→c0.leM ds y→(∀ t,AR y (get e t) (tmps.getD t undef)) →
  (∀ y',c0.le y'→y'.ok→y'.H=y.H→y'.n=y.n→(∀ t,AR y' (get e t) (tmps.getD t undef)) → ∃ u,(results fn tmps).run P y'.w = .ok u y'.w∧R (.returned u) y'.w)→LeavesInM Fence.wide 0 P fn tmps R ds .returning y.w
 | [],y,hok,_,hle,he,fin=>fin y hle.le hok rfl rfl he
 | d :: ds,y,hok,hok0,hle,he,fin=>by
  obtain ⟨D,h1,h2,h3,h4⟩:=hle.marks.2 d (List.mem_cons_self ..)
  have hnd:=List.nodup_cons.1 hle.marks.1.1
  have hc : ∀ k,y.w.cell? ⟨D,k,none⟩=none:=fun k=>by simp [World.cell?,h4]
  obtain ⟨t1,t2⟩:=YM hok h3 hc (by
   obtain ⟨W0,f1,f2,f3⟩:=hok0.tabs.fact
   exact ⟨W0,f1,⟨hle.le.os.trans f2.os,hle.le.tape.trans f2.tape,hle.le.output.trans f2.output,Nat.le_trans f2.size hle.le.size,fun b hb=>(hle.le.blk b (.inl (f3 b hb))).trans (f2.block b hb)⟩,fun b hb=>hle.le.S b (f3 b hb),Nat.le_trans f2.size h2⟩) (hle.marks.1.2 (List.cons_ne_nil _ _)) (.deferred none)
  have hleq:c0.le { y with w:=y.w.putObj D (.deferred none) }:=
   ⟨by show _≤(y.w.putObj D (.deferred none)).heap.size; rw [World.putObj_size]; exact hle.le.size,hle.le.os,hle.le.tape,hle.le.output,fun b hb=>by
    refine (World.putObj_heap_other fun e=>?_).trans (hle.le.blk b hb)
    subst e
    have:=hb.elim (hok0.S_lt b) (hok0.F_lt b)
    omega,hle.le.S,hle.le.F,hle.le.n,hle.le.H,hle.le.K⟩
  refine ⟨by simp,.inl ⟨D,_,by rw [h1],run_takeDeferred h4,?_⟩⟩
  refine PC ds { y with w:=y.w.putObj D (.deferred none) } t2 hok0 ⟨hleq,⟨hnd.2,fun _=>hle.marks.1.2 (List.cons_ne_nil _ _)⟩,fun d' hd'=>?_⟩ (fun t=>(he t).off t1) fun y' k1 k2 k3 k4 k5=>fin y' k1 k2 k3 k4 k5
  obtain ⟨D',e1,e2,e3,e4⟩:=hle.marks.2 d' (List.mem_cons_of_mem _ hd')
  refine ⟨D',e1,e2,e3,(World.putObj_heap_other fun e=>?_).trans e4⟩
  subst e
  exact hnd.1 (by rw [h1,← e1]; exact hd')
theorem OZ {P:Program} {f:FuncId} {fn:Func} {code:Code} {vs:Array Value} {R:Ending→World→Prop} {c0:Cx} {s0:St} {Q:Exit→St→Prop} (hf:P.funcs[f]? = some fn) (hb:fn.body=some code) (hok0:c0.ok)
  (hsim:Bz c0 s0 { tmps:=vs++Array.replicate (fn.ntmps-vs.size) undef,defers:=[] } c0.w) (hw:AW P code Q s0)
  (fin : ∀ (e:Exit) (s:St) (a:Act) (y:Cx),Q e s→c0.le y→y.ok→y.H=hget s.h→y.n=s.n→BN y s.e a→(e = .normal∨e = .ret) ∧ ∃ u,(results fn a.tmps).run P y.w = .ok u y.w∧R (.returned u) y.w):Calls P f vs c0.w R:=by
 refine callsIn_wide.1 (callsIn_of_wp_marks (n:=0) hf hb trivial (wpIn_mono (hw none (.inl rfl) c0 _ _ hsim) fun e a w ⟨ho,s,hq,hs⟩=>?_))
 obtain ⟨ds,hdef,_,y,hyw,hle,hok,hH,hn,he⟩:=hs
 subst hyw
 have key:LeavesInM Fence.wide 0 P fn a.tmps R a.defers .returning y.w:=by
  rw [hdef]
  exact PC (e:=s.e) ds y hok hok0 hle he fun y' k1 k2 k3 k4 k5=>(fin e s a y' hq k1 k2 (k3.trans hH) (k4.trans hn) k5).2
 have hex:=(fin e s a y hq hle.le hok hH hn he).1
 rcases hex with rfl | rfl
 ·exact key
 ·exact key
def Gg:TypeDesc→Bool
 | .struct _ | .array _ _=>false
 | _=>true
def A8 (P:Program) (t:TypeId):Prop:=∃ d i,P.underlying t=some d∧Gg d=true∧P.info? t=some i∧i.size=1
def BH (P:Program) (t:TypeId) (sz:Nat):Prop:=∃ d i,P.underlying t=some d∧Gg d=false∧P.info? t=some i∧i.size=sz
def Dq (P:Program) (t e:TypeId) (sz:Nat):Prop:=P.underlying t=some (.slice e) ∧ ∃ i,P.info? e=some i∧i.size=sz
def Ai (P:Program) (t:TypeId) (f off:Nat):Prop:=∃ fs fl i,P.underlying t=some (.struct fs)∧fs[f]? = some fl∧fl.offset=off∧P.info? fl.type=some i∧i.size≠0
section
variable {P:Program} {c:Bool} {o:Oper} {R:AU} {h:AN}
theorem HS {t:TypeId} {d:TypeDesc} (hd:P.underlying t=some d) (w:World):(isAgg t).run P w = .ok (!Gg d) w:=by
 cases d <;> simp [isAgg,run_underlying hd,Gg]
theorem C4 {t:TypeId} {i:TypeInfo} (hi:P.info? t=some i) (w:World):(sizeOf t).run P w = .ok i.size w:=by
 simp [sizeOf,typeInfo,hi]
theorem Lt {x:Operand} {v:AV} (ho:o.op = .move x) (hx:Ev c R x v):AY P c o R h v:=by
 intro hc y a _ _ he
 exact ⟨a.eval x,fun _ _=>by unfold execOp; rw [ho]; rfl,hx.rep he hc⟩
theorem Co {x:Operand} {v:AV} (ho:o.op = .assign x) (hx:Ev c R x v):AY P c o R h v:=by
 intro hc y a _ _ he
 exact ⟨a.eval x,fun _ _=>by unfold execOp; rw [ho]; rfl,hx.rep he hc⟩
theorem Bw {x:Cx} {k:IntKind} {n:Int} {v:Value} (h:AR x (.r (.int k n)) v):v = .int k n:=by
 cases h with
 | r h=>cases h; rfl
theorem EJ {x:Cx} {b:Bool} {v:Value} (h:AR x (.r (.bool b)) v):v = .bool b:=by
 cases h with
 | r h=>cases h; rfl
theorem Fr {x:Cx} {s:List UInt8} {v:Value} (h:AR x (.r (.str s)) v):v = .string ⟨s.toArray⟩:=by
 cases h with
 | r h=>cases h; rfl
theorem Eg {op:BinOp} {t t':TypeId} {x y:Operand} {k:IntKind} {m n:Int} {v:RV} {u:Value} (ho:o.op = .binOp op t x y t') (hx:Ev c R x (.r (.int k m))) (hy:Ev c R y (.r (.int k n)))
  (hr : ∀ w,(binOp op t (.int k m) (.int k n)).run P w = .ok u w) (hu : ∀ w S,Ar w S v u):AY P c o R h (.r v):=by
 intro hc z a _ _ he
 refine ⟨u,fun w2 hag=>?_,.r (hu _ _)⟩
 unfold execOp
 rw [ho]
 simp only [Bw (hx.rep he hc),Bw (hy.rep he hc),eqGuard_at_int]
 simp [hr]
theorem R2 {t t':TypeId} {x y:Operand} {k:IntKind} {m n:Int} (ho:o.op = .binOp .add t x y t') (hx:Ev c R x (.r (.int k m))) (hy:Ev c R y (.r (.int k n)))
  (hb:k.wrap (m+n)=m+n):AY P c o R h (.r (.int k (m+n))):=
 Eg ho hx hy (fun w=>by rw [binOp_add]; simp only [Op.intArith,hb]; rfl) (fun _ _=>.int _ _)
theorem XE {t t':TypeId} {x y:Operand} {k:IntKind} {m n:Int} (ho:o.op = .binOp .sub t x y t') (hx:Ev c R x (.r (.int k m))) (hy:Ev c R y (.r (.int k n)))
  (hb:k.wrap (m-n)=m-n):AY P c o R h (.r (.int k (m-n))):=
 Eg ho hx hy (fun w=>by rw [binOp_sub]; simp only [Op.intArith,hb]; rfl) (fun _ _=>.int _ _)
theorem Qk {t t':TypeId} {x y:Operand} {k:IntKind} {m n:Int} (ho:o.op = .binOp .eql t x y t') (hx:Ev c R x (.r (.int k m))) (hy:Ev c R y (.r (.int k n))) :
  AY P c o R h (.r (.bool (decide (m=n)))):=
 Eg ho hx hy (fun w=>by rw [binOp_eql]; rfl) (fun _ _=>.bool _)
theorem Ba {t t':TypeId} {x y:Operand} {k:IntKind} {m n:Int} (ho:o.op = .binOp .neq t x y t') (hx:Ev c R x (.r (.int k m))) (hy:Ev c R y (.r (.int k n))) :
  AY P c o R h (.r (.bool (!decide (m=n)))):=
 Eg ho hx hy (fun w=>by rw [binOp_neq]; rfl) (fun _ _=>.bool _)
theorem Bn {t t':TypeId} {x y:Operand} {k:IntKind} {m n:Int} (ho:o.op = .binOp .lss t x y t') (hx:Ev c R x (.r (.int k m))) (hy:Ev c R y (.r (.int k n))) :
  AY P c o R h (.r (.bool (decide (m<n)))):=
 Eg ho hx hy (fun w=>by rw [binOp_lss]; rfl) (fun _ _=>.bool _)
theorem DW {t t':TypeId} {x y:Operand} {k:IntKind} {m n:Int} (ho:o.op = .binOp .leq t x y t') (hx:Ev c R x (.r (.int k m))) (hy:Ev c R y (.r (.int k n))) :
  AY P c o R h (.r (.bool (decide (m≤n)))):=
 Eg ho hx hy (fun w=>by rw [binOp_leq]; rfl) (fun _ _=>.bool _)
theorem BB {t t':TypeId} {x y:Operand} {k:IntKind} {m n:Int} (ho:o.op = .binOp .gtr t x y t') (hx:Ev c R x (.r (.int k m))) (hy:Ev c R y (.r (.int k n))) :
  AY P c o R h (.r (.bool (decide (n<m)))):=
 Eg ho hx hy (fun w=>by rw [binOp_gtr]; rfl) (fun _ _=>.bool _)
theorem Bf {t t':TypeId} {x y:Operand} {k:IntKind} {m n:Int} (ho:o.op = .binOp .geq t x y t') (hx:Ev c R x (.r (.int k m))) (hy:Ev c R y (.r (.int k n))) :
  AY P c o R h (.r (.bool (decide (n≤m)))):=
 Eg ho hx hy (fun w=>by rw [binOp_geq]; rfl) (fun _ _=>.bool _)
def Bt (a b:List UInt8):Bool:=Op.bytesLess a b
theorem L1 {op:BinOp} {t t':TypeId} {x y:Operand} {a b:List UInt8} {v:RV} {u:Value} (ho:o.op = .binOp op t x y t') (hx:Ev c R x (.r (.str a))) (hy:Ev c R y (.r (.str b)))
  (hr : ∀ w,(binOp op t (.string ⟨a.toArray⟩) (.string ⟨b.toArray⟩)).run P w = .ok u w) (hu : ∀ w S,Ar w S v u):AY P c o R h (.r v):=by
 intro hc z w _ _ he
 refine ⟨u,fun w2 hag=>?_,.r (hu _ _)⟩
 unfold execOp
 rw [ho]
 simp only [Fr (hx.rep he hc),Fr (hy.rep he hc),eqGuard_at_string]
 simp [hr]
theorem Ec {t t':TypeId} {x y:Operand} {a b:List UInt8} (ho:o.op = .binOp .eql t x y t') (hx:Ev c R x (.r (.str a))) (hy:Ev c R y (.r (.str b))) :
  AY P c o R h (.r (.bool (decide (a=b)))):=
 L1 (u:=.bool (a == b)) ho hx hy (fun w=>by simp [binOp,Op.stringOp,ByteArray.toList_eq]) (fun _ _=>by
  have:(a == b)=decide (a=b):=by grind
  rw [this]; exact .bool _)
theorem DZ {t t':TypeId} {x y:Operand} {a b:List UInt8} (ho:o.op = .binOp .neq t x y t') (hx:Ev c R x (.r (.str a))) (hy:Ev c R y (.r (.str b))) :
  AY P c o R h (.r (.bool (!decide (a=b)))):=
 L1 (u:=.bool (!(a == b))) ho hx hy (fun w=>by simp [binOp,Op.stringOp,ByteArray.toList_eq]) (fun _ _=>by
  have:(a == b)=decide (a=b):=by grind
  rw [this]; exact .bool _)
theorem T8 {t t':TypeId} {x y:Operand} {a b:List UInt8} (ho:o.op = .binOp .geq t x y t') (hx:Ev c R x (.r (.str a))) (hy:Ev c R y (.r (.str b))) :
  AY P c o R h (.r (.bool (!Bt a b))):=
 L1 (u:=.bool (!Bt a b)) ho hx hy (fun w=>by simp [binOp,Op.stringOp,ByteArray.toList_eq,Bt]) (fun _ _=>.bool _)
theorem Uq {t t':TypeId} {x y:Operand} {a b:List UInt8} (ho:o.op = .binOp .leq t x y t') (hx:Ev c R x (.r (.str a))) (hy:Ev c R y (.r (.str b))) :
  AY P c o R h (.r (.bool (Bt a b || decide (a=b)))):=
 L1 (u:=.bool (Bt a b || (a == b))) ho hx hy (fun w=>by simp [binOp,Op.stringOp,ByteArray.toList_eq,Bt]) (fun _ _=>by
  have:(a == b)=decide (a=b):=by grind
  rw [this]; exact .bool _)
theorem VA {t:TypeId} {x:Operand} {b:Bool} (ho:o.op = .unOp .not t x) (hx:Ev c R x (.r (.bool b))):AY P c o R h (.r (.bool (!b))):=by
 intro hc z w _ _ he
 refine ⟨.bool (!b),fun w2 hag=>?_,.r (.bool _)⟩
 unfold execOp
 rw [ho]
 simp [EJ (hx.rep he hc),Op.unary]
theorem A6 {x y:Operand} {a b:Bool} (ho:o.op = .pick x y (.const (.bool false))) (hx:Ev c R x (.r (.bool a))) (hy:Ev (c && (a == true)) R y (.r (.bool b))) :
  AY P c o R h (.r (.bool (a && b))):=by
 intro hc z w _ _ he
 refine ⟨.bool (a && b),fun w2 hag=>?_,.r (.bool _)⟩
 unfold execOp
 rw [ho]
 simp only [EJ (hx.rep he hc),asBool]
 cases a with
 | true=>
  have h2:w.eval y = .bool b:=EJ (hy.rep he (by simp [hc]))
  simp [h2]
 | false=>simp [Act.eval]
theorem Bp {x y:Operand} {a b:Bool} (ho:o.op = .pick x (.const (.bool true)) y) (hx:Ev c R x (.r (.bool a))) (hy:Ev (c && (a == false)) R y (.r (.bool b))) :
  AY P c o R h (.r (.bool (a || b))):=by
 intro hc z w _ _ he
 refine ⟨.bool (a || b),fun w2 hag=>?_,.r (.bool _)⟩
 unfold execOp
 rw [ho]
 simp only [EJ (hx.rep he hc),asBool]
 cases a with
 | false=>
  have h2:w.eval y = .bool b:=EJ (hy.rep he (by simp [hc]))
  simp [h2]
 | true=>simp [Act.eval]
theorem Lg {x:Cx} {xs:List (List RV)} {v:Value} (hv:AR x (.r (.sl xs)) v):(xs=[]∧(v = .slice none 0 0 ∨ ∃ a,v = .slice (some a) 0 0)) ∨
  ∃ (b off cap size:Nat) (u:Nat→Nat→Value),v = .slice (some ⟨b,off,none⟩) xs.length cap∧(xs≠[]→x.S b)∧xs.length≤cap∧cap≤maxLen∧(∀ row∈xs,row.length=size) ∧
   (∀ i row k d,xs[i]? = some row→row[k]? = some d→x.w.cell? ⟨b,off+i * size+k,none⟩=some (u i k)) ∧
   ∀ i row k d,xs[i]? = some row→row[k]? = some d→Ar x.w x.S d (u i k):=by
 cases hv with
 | r h=>cases h with
  | snil=>grind
  | sl0 a=>grind
  | sl b off _ cap size u h1 h2 h3 h4 h5 h6=>exact .inr ⟨b,off,cap,size,u,rfl,h1,h2,h3,h4,h5,h6⟩
theorem UF {t:TypeId} {e:TypeId} {sz:Nat} {x:Operand} {xs:List (List RV)} (ho:o.op = .call { callee:=.builtin .len,args:=#[x],argTypes:=#[t] }) (ht:Dq P t e sz) (hx:Ev c R x (.r (.sl xs))) :
  AY P c o R h (.r (.int .i64 xs.length)):=by
 intro hc z w _ _ he
 refine ⟨.int .i64 xs.length,fun w2 hag=>?_,.r (.int _ _)⟩
 unfold execOp
 rw [ho]
 rcases Lg (hx.rep he hc) with ⟨h1,h2 | ⟨a,h2⟩⟩ | ⟨b,off,cap,size,u,h2,_⟩
 ·subst h1; simp [resolve,invoke,builtin,h2,Builtin.len_,run_underlying ht.1,goInt]
 ·subst h1; simp [resolve,invoke,builtin,h2,Builtin.len_,run_underlying ht.1,goInt]
 ·simp [resolve,invoke,builtin,h2,Builtin.len_,run_underlying ht.1,goInt]
theorem TQ {t:TypeId} {e e':TypeId} {sz sz':Nat} {x:Operand} {id g:Nat} {xs:List (List RV)} (ho:o.op = .call { callee:=.builtin .len,args:=#[x],argTypes:=#[t] }) (ht:Dq P t e sz) (hx:Ev c R x (.own id g))
  (hh:hget h id=some (.arr g e' sz' xs)):AY P c o R h (.r (.int .i64 xs.length)):=by
 intro hc z w _ hH he
 refine ⟨.int .i64 xs.length,fun w2 hag=>?_,.r (.int _ _)⟩
 unfold execOp
 rw [ho]
 have h0:=hx.rep he hc
 generalize hv:w.eval x=v at h0
 cases h0 with
 | own _ _ h1=>
  have h2:=h1 _ (by rw [hH]; exact hh) rfl
  simp only [AT.shape] at h2
  unfold Bk at h2
  split at h2
  ·obtain ⟨h3,rfl⟩:=h2
   simp [resolve,invoke,builtin,hv,h3,Builtin.len_,run_underlying ht.1,goInt]
  ·subst h2
   simp [resolve,invoke,builtin,hv,Builtin.len_,run_underlying ht.1,goInt]
theorem CY {t:TypeId} {x:Operand} {s:List UInt8} (ho:o.op = .call { callee:=.builtin .len,args:=#[x],argTypes:=#[t] }) (ht:P.underlying t=some .string) (hx:Ev c R x (.r (.str s))) :
  AY P c o R h (.r (.int .i64 s.length)):=by
 intro hc z w _ _ he
 refine ⟨.int .i64 s.length,fun w2 hag=>?_,.r (.int _ _)⟩
 unfold execOp
 rw [ho]
 have hsz:(⟨s.toArray⟩:ByteArray).size=s.length:=rfl
 simp [resolve,invoke,builtin,Fr (hx.rep he hc),Builtin.len_,run_underlying ht,goInt,hsz]
theorem Xj {t e:TypeId} {sz:Nat} {x i:Operand} {xs:List (List RV)} {k:IntKind} {n:Int} {row:List RV} (ho:o.op = .indexAddr t x i) (ht:Dq P t e sz) (hx:Ev c R x (.r (.sl xs)))
  (hi:Ev c R i (.r (.int k n))) (h0:c=true→0≤n) (hrow:c=true→xs[n.toNat]? = some row) (hlen:row.length=sz):AY P c o R h (.rop row 0):=by
 intro hc z w _ _ he
 obtain ⟨ht1,ii,ht2,ht3⟩:=ht
 have hr:=hrow hc
 have hlt:n.toNat<xs.length:=(List.getElem?_eq_some_iff.1 hr).1
 have h0':=h0 hc
 have hlt':n<xs.length:=by omega
 rcases Lg (hx.rep he hc) with ⟨h1,_⟩ | ⟨b,off,cap,size,u,h2,hS,hcap,hm,hsz,hcell,hrep⟩
 ·grind
 ·have hsize:size=sz:=by rw [← hsz row (List.mem_of_getElem? hr)]; exact hlen
  subst hsize
  refine ⟨.pointer (some ⟨b,(off+n.toNat * size)+0,none⟩),fun w2 hag=>?_,.rop (fun j=>u n.toNat j) (fun _=>hS (by rintro rfl; simp at hlt)) (fun j d hj=>hcell _ _ _ _ hr hj) (fun j d hj=>hrep _ _ _ _ hr hj)⟩
  unfold execOp
  rw [ho]
  simp [h2,Bw (hi.rep he hc),Instr.indexAt,asIntOf,run_underlying ht1,h0',hlt',C4 ht2,ht3,Addr.add_lit]
theorem KX {x:Cx} (hok:x.ok) {id g:Nat} {e:TypeId} {sz:Nat} {xs:List (List RV)} {v:Value} (hH:x.H id=some (.arr g e sz xs)) (hv:AR x (.own id g) v) :
  0<sz∧(∀ row∈xs,row.length=sz) ∧ ∃ us,Bk (x.β id) xs.length v∧x.w.ownsRow 0 e sz v xs.length us ∧
   ∀ i row c d,xs[i]? = some row→row[c]? = some d → ∃ u,us[i * sz+c]? = some u∧Ar x.w x.S d u:=by
 obtain ⟨_,h0,h1,hdr,us,h2,h3,h4⟩:=hok.obj _ _ hH
 cases hv with
 | own _ _ hv=>
  have h5:=hv _ hH rfl
  simp only [AT.shape] at h5
  have:v=hdr:=by
   unfold Bk at h2 h5
   split at h2 <;> simp_all
  grind
theorem R9 {t e:TypeId} {sz:Nat} {x i:Operand} {id g:Nat} {e':TypeId} {xs:List (List RV)} {k:IntKind} {n:Int} (ho:o.op = .indexAddr t x i) (ht:Dq P t e sz) (hx:Ev c R x (.own id g))
  (hh:hget h id=some (.arr g e' sz xs)) (hi:Ev c R i (.r (.int k n))) (h0:c=true→0≤n) (h1:c=true→n<xs.length):AY P c o R h (.ptr id g n.toNat 0):=by
 intro hc z w hok hH he
 obtain ⟨ht1,ii,ht2,ht3⟩:=ht
 have h0':=h0 hc
 have hlt':=h1 hc
 have hHid:z.H id=some (.arr g e' sz xs):=by simp_all
 have hv:=hx.rep he hc
 obtain ⟨_,_,us,hd,_,_⟩:=KX hok hHid hv
 have hg:g<z.n:=by cases hv with | own hg _ _=>exact hg
 cases hβ:z.β id with
 | none=>rw [hβ] at hd; have:=hd.1; omega
 | some p=>
  obtain ⟨b,cap⟩:=p
  rw [hβ] at hd
  simp only [Bk] at hd
  refine ⟨.pointer (some ⟨b,n.toNat * sz+0,none⟩),fun w2 hag=>?_,.ptr hg rfl fun o' ho' hgen=>?_⟩
  ·unfold execOp
   rw [ho]
   simp [hd,Bw (hi.rep he hc),Instr.indexAt,asIntOf,run_underlying ht1,h0',hlt',C4 ht2,ht3,Addr.add_lit]
  ·rw [hHid] at ho'; cases ho'
   exact ⟨b,cap,hβ,rfl⟩
end
section
variable {P:Program} {c:Bool} {o:Oper} {R:AU} {h:AN}
theorem SA {t:TypeId} {x i:Operand} {s:List UInt8} {k:IntKind} {n:Int} {ch:UInt8} (ho:o.op = .index t x i) (ht:P.underlying t=some .string) (hx:Ev c R x (.r (.str s)))
  (hi:Ev c R i (.r (.int k n))) (h0:c=true→0≤n) (hrow:c=true→s[n.toNat]? = some ch):AY P c o R h (.r (.int .u8 ch.toNat)):=by
 intro hc z w _ _ he
 refine ⟨.int .u8 ch.toNat,fun w2 hag=>?_,.r (.int _ _)⟩
 obtain ⟨hl,hv⟩:=List.getElem?_eq_some_iff.1 (hrow hc)
 have hl':n.toNat<(⟨s.toArray⟩:ByteArray).size:=hl
 have h1:(if 0≤n then (⟨s.toArray⟩:ByteArray)[n.toNat]? else none)=some ch:=by
  rw [if_pos (h0 hc),ByteArray.getElem?_lt' _ _ hl']
  exact congrArg some hv
 unfold execOp
 rw [ho]
 simp only [Fr (hx.rep he hc),Bw (hi.rep he hc),Instr.index,asIntOf]
 simp [run_underlying ht,h1]
theorem Ug {t:TypeId} {x:Operand} {f off:Nat} {row:List RV} {k:Nat} (ho:o.op = .fieldAddr t x f) (ht:Ai P t f off) (hx:Ev c R x (.rop row k)):AY P c o R h (.rop row (k+off)):=by
 intro hc z w _ _ he
 obtain ⟨fs,fl,i,h1,h2,h3,h4,h5⟩:=ht
 have hv:=hx.rep he hc
 generalize hw:w.eval x=v at hv
 cases hv with
 | @rop _ _ b off' u hS hcl hr=>
  refine ⟨.pointer (some ⟨b,off'+(k+off),none⟩),fun w2 hag=>?_,.rop u hS hcl hr⟩
  unfold execOp
  rw [ho]
  simp [hw,Instr.fieldAt,run_underlying h1,h2,Instr.sureAddr,fieldPlace,C4 h4,h5,h3,Addr.add_lit,Nat.add_assoc]
theorem Ft {t:TypeId} {x:Operand} {f off:Nat} {id g i k:Nat} {ob:AT} (ho:o.op = .fieldAddr t x f) (ht:Ai P t f off) (hx:Ev c R x (.ptr id g i k)) (hh:c=true→hget h id=some ob)
  (hg:ob.gen=g):AY P c o R h (.ptr id g i (k+off)):=by
 intro hc z w _ hH he
 obtain ⟨fs,fl,ii,h1,h2,h3,h4,h5⟩:=ht
 have hv:=hx.rep he hc
 generalize hw:w.eval x=v at hv
 cases hv with
 | ptr hgn _ hp=>
  have hob:z.H id=some ob:=by simp_all
  obtain ⟨b,cap,hβ,rfl⟩:=hp ob hob hg
  refine ⟨.pointer (some ⟨b,i * ob.shape.2.1+(k+off),none⟩),fun w2 hag=>?_,.ptr hgn rfl fun o' ho' _=>?_⟩
  ·unfold execOp
   rw [ho]
   simp [hw,Instr.fieldAt,run_underlying h1,h2,Instr.sureAddr,fieldPlace,C4 h4,h5,h3,Addr.add_lit,Nat.add_assoc]
  ·grind
theorem LI {t:TypeId} (ht:A8 P t) {w:World} {b k:Nat} {u:Value} (hc:w.cell? ⟨b,k,none⟩=some u):(Instr.loadAt t (.pointer (some ⟨b,k,none⟩))).run P w = .ok u w:=by
 obtain ⟨d,i,h1,h2,_,_⟩:=ht
 simp [Instr.loadAt,Instr.sureAddr,loadVar,HS h1,h2,hc]
theorem Gd {t:TypeId} {sz:Nat} (ht:BH P t sz) {w:World} {b k:Nat} (f:Nat→Value) (hc : ∀ j,j<sz→w.cell? ⟨b,k+j,none⟩=some (f j)) :
  (Instr.loadAt t (.pointer (some ⟨b,k,none⟩))).run P w = .ok (.agg ((List.range sz).map f).toArray) w:=by
 obtain ⟨d,i,h1,h2,h3,h4⟩:=ht
 have h5:=run_loadCells (P:=P) w ⟨b,k,none⟩ sz f (fun j hj=>by rw [Addr.add_lit]; exact hc j hj)
 simp [Instr.loadAt,Instr.sureAddr,loadVar,HS h1,h2,C4 h3,h4,h5]
theorem Gy {x:Cx} {cs:List AV} {sz:Nat} (hl:cs.length=sz) (f:Nat→Value) (hf : ∀ j a,cs[j]? = some a→AR x a (f j)):AR x (.agg cs) (.agg ((List.range sz).map f).toArray):=by
 refine .agg (by simp [hl]) fun i a u h1 h2=>?_
 grind
theorem Sn {t:TypeId} {x:Operand} {row:List RV} {k:Nat} {d:RV} (ho:o.op = .load t x) (ht:A8 P t) (hx:Ev c R x (.rop row k)) (hd:c=true→row[k]? = some d):AY P c o R h (.r d):=by
 intro hc z w _ _ he
 have hv:=hx.rep he hc
 generalize hw:w.eval x=v at hv
 cases hv with
 | @rop _ _ b off' u hS hcl hr=>
  refine ⟨u k,fun w2 hag=>?_,.r (hr _ _ (hd hc))⟩
  unfold execOp
  rw [ho]
  have hne:row≠[]:=by grind
  simp [hw,LI ht ((hag.cellS (hS hne)).trans (hcl _ _ (hd hc)))]
theorem R1 {t:TypeId} {x:Operand} {row:List RV} {sz:Nat} (ho:o.op = .load t x) (ht:BH P t sz) (hx:Ev c R x (.rop row 0)) (hd:row.length=sz):AY P c o R h (.agg (row.map .r)):=by
 intro hc z w _ _ he
 have hv:=hx.rep he hc
 generalize hw:w.eval x=v at hv
 cases hv with
 | @rop _ _ b off' u hS hcl hr=>
  refine ⟨.agg ((List.range sz).map u).toArray,fun w2 hag=>?_,Gy (by simp [hd]) u fun j a hj=>?_⟩
  ·unfold execOp
   rw [ho]
   have:=Gd ht (w:=w2) (b:=b) (k:=off'+0) u (fun j hj=>(hag.cellS (hS (by rintro rfl; simp at hd; omega))).trans (hcl j (row[j]'(by omega)) (List.getElem?_eq_getElem _)))
   simp_all
  ·simp only [List.getElem?_map,Option.map_eq_some_iff] at hj
   obtain ⟨d,h1,rfl⟩:=hj
   exact .r (hr _ _ h1)
theorem F5 {x:Cx} (hok:x.ok) {id g k:Nat} {e:TypeId} {cs:List AV} {v:Value} (hH:x.H id=some (.box g e cs)) (hv:AR x (.ptr id g 0 k) v) :
  ∃ b cur,x.β id=some (b,1)∧v = .pointer (some ⟨b,k,none⟩)∧x.w.heap[b]? = some (.cells cur e (0,0))∧cur.size=cs.length ∧
   ∀ (j:Nat) (a:AV),cs[j]? = some a → ∃ u:Value,cur[j]? = some u∧u.oneCell'=true∧AR x a u:=by
 obtain ⟨_,b,cur,h1,h2,h3,h4⟩:=hok.obj _ _ hH
 cases hv with
 | ptr _ _ hv=>
  obtain ⟨b',cap,h5,h6⟩:=hv _ hH rfl
  grind
theorem X6 {t:TypeId} {x:Operand} {id g k:Nat} {e:TypeId} {cs:List AV} {a:AV} (ho:o.op = .load t x) (ht:A8 P t) (hx:Ev c R x (.ptr id g 0 k)) (hh:c=true→hget h id=some (.box g e cs))
  (ha:c=true→cs[k]? = some a):AY P c o R h a:=by
 intro hc z w hok hH he
 have hHid:z.H id=some (.box g e cs):=by simp_all
 obtain ⟨b,cur,h1,h2,h3,h4,h5⟩:=F5 hok hHid (hx.rep he hc)
 obtain ⟨u,h6,_,h7⟩:=h5 _ _ (ha hc)
 refine ⟨u,fun w2 hag=>?_,h7⟩
 unfold execOp
 rw [ho]
 simp [h2,LI ht ((hag.cellO hHid h1).trans ((cell_of_row _ b k cur e _ h3).trans h6))]
theorem TN {t:TypeId} {x:Operand} {id g:Nat} {e:TypeId} {sz:Nat} {cs:List AV} (ho:o.op = .load t x) (ht:BH P t sz) (hx:Ev c R x (.ptr id g 0 0)) (hh:c=true→hget h id=some (.box g e cs))
  (hl:cs.length=sz):AY P c o R h (.agg cs):=by
 intro hc z w hok hH he
 have hHid:z.H id=some (.box g e cs):=by simp_all
 obtain ⟨b,cur,h1,h2,h3,h4,h5⟩:=F5 hok hHid (hx.rep he hc)
 have hcell : ∀ j,j<sz→z.w.cell? ⟨b,0+j,none⟩=some ((fun j=>cur.getD j undef) j):=by
  intro j hj
  have hj':j<cur.size:=by omega
  rw [Nat.zero_add,cell_of_row _ b j cur e _ h3]
  simp [hj']
 refine ⟨.agg ((List.range sz).map fun j=>cur.getD j undef).toArray,fun w2 hag=>?_,Gy hl _ fun j a hj=>?_⟩
 ·unfold execOp
  rw [ho]
  simp [h2,Gd ht _ (fun j hj=>(hag.cellO hHid h1).trans (hcell j hj))]
 ·obtain ⟨u,h6,_,h7⟩:=h5 _ _ hj
  simp_all
theorem LH {w:World} {e:TypeId} {sz n cap b:Nat} {us:List Value} (h:w.ownsRow 0 e sz (.slice (some ⟨b,0,none⟩) n cap) n us) {j:Nat} {u:Value} (hj:us[j]? = some u):w.cell? ⟨b,j,none⟩=some u:=by
 have:=h.cells (g:=b) rfl j u hj
 rwa [Addr.add_lit,Nat.zero_add] at this
theorem MU {x:Cx} (hok:x.ok) {id g i k:Nat} {e:TypeId} {sz:Nat} {xs:List (List RV)} {v:Value} (hH:x.H id=some (.arr g e sz xs)) (_hi:i<xs.length) (hv:AR x (.ptr id g i k) v) :
  ∃ b cap us,x.β id=some (b,cap)∧v = .pointer (some ⟨b,i * sz+k,none⟩)∧x.w.ownsRow 0 e sz (.slice (some ⟨b,0,none⟩) xs.length cap) xs.length us∧(∀ row∈xs,row.length=sz) ∧
   ∀ i row c d,xs[i]? = some row→row[c]? = some d → ∃ u,us[i * sz+c]? = some u∧Ar x.w x.S d u:=by
 obtain ⟨_,h0,h1,hdr,us,h2,h3,h4⟩:=hok.obj _ _ hH
 cases hv with
 | ptr _ _ hv=>
  obtain ⟨b,cap,h5,h6⟩:=hv _ hH rfl
  rw [h5] at h2
  simp only [Bk] at h2
  subst h2
  exact ⟨b,cap,us,h5,h6,h3,h1,h4⟩
theorem Xc {t:TypeId} {x:Operand} {id g i k:Nat} {e:TypeId} {sz:Nat} {xs:List (List RV)} {row:List RV} {d:RV} (ho:o.op = .load t x) (ht:A8 P t) (hx:Ev c R x (.ptr id g i k)) (hh:c=true→hget h id=some (.arr g e sz xs))
  (hrow:c=true→xs[i]? = some row) (ha:c=true→row[k]? = some d):AY P c o R h (.r d):=by
 intro hc z w hok hH he
 have hHid:z.H id=some (.arr g e sz xs):=by simp_all
 obtain ⟨b,cap,us,h1,h2,h3,_,h5⟩:=MU hok hHid (List.getElem?_eq_some_iff.1 (hrow hc)).1 (hx.rep he hc)
 obtain ⟨u,h6,h7⟩:=h5 _ _ _ _ (hrow hc) (ha hc)
 refine ⟨u,fun w2 hag=>?_,.r h7⟩
 unfold execOp
 rw [ho]
 simp [h2,LI ht ((hag.cellO hHid h1).trans (LH h3 h6))]
theorem U7 {t:TypeId} {x:Operand} {id g i:Nat} {e:TypeId} {sz:Nat} {xs:List (List RV)} {row:List RV} (ho:o.op = .load t x) (ht:BH P t sz) (hx:Ev c R x (.ptr id g i 0)) (hh:c=true→hget h id=some (.arr g e sz xs))
  (hrow:c=true→xs[i]? = some row):AY P c o R h (.agg (row.map .r)):=by
 intro hc z w hok hH he
 have hHid:z.H id=some (.arr g e sz xs):=by simp_all
 obtain ⟨b,cap,us,h1,h2,h3,h4,h5⟩:=MU hok hHid (List.getElem?_eq_some_iff.1 (hrow hc)).1 (hx.rep he hc)
 have hl:=h4 row (List.mem_of_getElem? (hrow hc))
 have hcell : ∀ j,j<sz→z.w.cell? ⟨b,i * sz+0+j,none⟩=some ((fun j=>us.getD (i * sz+j) undef) j):=by
  intro j hj
  obtain ⟨u,h6,_⟩:=h5 i row j (row[j]'(by omega)) (hrow hc) (List.getElem?_eq_getElem _)
  grind [LH]
 refine ⟨.agg ((List.range sz).map fun j=>us.getD (i * sz+j) undef).toArray,fun w2 hag=>?_,Gy (by simp [hl]) _ fun j a hj=>?_⟩
 ·unfold execOp
  rw [ho]
  simp only [h2,Gd ht _ (fun j hj=>(hag.cellO hHid h1).trans (hcell j hj)),Sem.run_bind,Result.andThen_ok,Sem.run_pure]
 ·simp only [List.getElem?_map,Option.map_eq_some_iff] at hj
  obtain ⟨d,h6,rfl⟩:=hj
  obtain ⟨u,h7,h8⟩:=h5 i row j d (hrow hc) h6
  simpa [List.getD,h7] using AR.r h8
theorem M6 {x:Operand} {vs:List AV} {i:Nat} {a:AV} (ho:o.op = .extract x i) (hx:Ev c R x (.tup vs)) (ha:vs[i]? = some a):AY P c o R h a:=by
 intro hc z w _ _ he
 have hv:=hx.rep he hc
 generalize hw:w.eval x=v at hv
 cases hv with
 | @tup _ us hl hall=>
  have hi:i<us.size:=by grind
  refine ⟨us[i],fun w2 hag=>?_,hall i a us[i] ha (Array.getElem?_eq_getElem hi)⟩
  unfold execOp
  rw [ho]
  simp [hw,Instr.extract,Array.getElem?_eq_getElem hi]
theorem Sl {x:Operand} {id g i k:Nat} {ob:AT} (ho:o.op = .nilCheck x) (hx:Ev c R x (.ptr id g i k)) (hh:c=true→hget h id=some ob) (hg:ob.gen=g):AY P c o R h (.ptr id g i k):=by
 intro hc z w _ hH he
 have hv:=hx.rep he hc
 refine ⟨w.eval x,fun w2 hag=>?_,hv⟩
 generalize hw:w.eval x=v at hv
 cases hv with
 | ptr hgn _ hp=>
  obtain ⟨b,cap,hβ,rfl⟩:=hp ob (by rw [hH]; exact hh hc) hg
  unfold execOp
  simp_all
theorem Ux {t t':TypeId} {x:Operand} {k k':IntKind} {n:Int} {d:TypeDesc} (ho:o.op = .convert t t' x) (ht:P.underlying t=some d) (ht':P.underlying t'=some (.int k')) (hx:Ev c R x (.r (.int k n))) :
  AY P c o R h (.r (.int k' (k'.wrap n))):=by
 intro hc z w _ _ he
 refine ⟨.int k' (k'.wrap n),fun w2 hag=>?_,.r (.int _ _)⟩
 unfold execOp
 rw [ho]
 simp [Bw (hx.rep he hc),convert,run_underlying ht,run_underlying ht',Conv.intToInt]
theorem Jc {ats:Array TypeId} {x y:Operand} {k:IntKind} {m n:Int} (ho:o.op = .call { callee:=.builtin .min,args:=#[x,y],argTypes:=ats }) (hx:Ev c R x (.r (.int k m))) (hy:Ev c R y (.r (.int k n))) :
  AY P c o R h (.r (.int k (min m n))):=by
 intro hc z w _ _ he
 refine ⟨.int k (if n<m then n else m),fun w2 hag=>?_,?_⟩
 ·unfold execOp
  rw [ho]
  simp [resolve,invoke,builtin,Bw (hx.rep he hc),Bw (hy.rep he hc),Builtin.min_,Builtin.min2]
 ·have:(if n<m then n else m)=min m n:=by omega
  rw [this]; exact .r (.int _ _)
theorem Mx {ats:Array TypeId} {x y:Operand} {k:IntKind} {m n:Int} (ho:o.op = .call { callee:=.builtin .max,args:=#[x,y],argTypes:=ats }) (hx:Ev c R x (.r (.int k m))) (hy:Ev c R y (.r (.int k n))) :
  AY P c o R h (.r (.int k (max m n))):=by
 intro hc z w _ _ he
 refine ⟨.int k (if n > m then n else m),fun w2 hag=>?_,?_⟩
 ·unfold execOp
  rw [ho]
  simp [resolve,invoke,builtin,Bw (hx.rep he hc),Bw (hy.rep he hc),Builtin.max_,Builtin.max2]
 ·have:(if n > m then n else m)=max m n:=by omega
  rw [this]; exact .r (.int _ _)
end
section
variable {P:Program} {c:Bool} {o:Oper} {R:AU} {h:AN} {n:Nat}
theorem CS (id:Nat) (ob:AT) (h:AN):(fun i=>if id=i then some ob else hget h i)=hget ((id,some ob) :: h):=by
 funext i; rw [Bb]
def BF:AV→List AV
 | .agg cs=>cs
 | a=>[a]
theorem Jb {x:Cx} {a:AV} {v:Value} (hv:AR x a v) (h1 : ∀ b∈BF a,b.one=true) :
  v.cells.size=(BF a).length∧(∀ (j:Nat) (b:AV),(BF a)[j]? = some b → ∃ u:Value,v.cells[j]? = some u∧u.oneCell'=true∧AR x b u) ∧ ∀ u∈v.cells.toList,u.oneCell'=true:=by
 have key : ∀ (cs:List AV) (us:Array Value),cs.length=us.size→(∀ (i:Nat) (c:AV) (u:Value),cs[i]? = some c→us[i]? = some u→AR x c u)→(∀ b∈cs,b.one=true) →
   us.size=cs.length∧(∀ (j:Nat) (b:AV),cs[j]? = some b → ∃ u:Value,us[j]? = some u∧u.oneCell'=true∧AR x b u) ∧ ∀ u∈us.toList,u.oneCell'=true:=by
  intro cs us hl hall hone
  refine ⟨hl.symm,fun j b hj=>?_,fun u hu=>?_⟩
  ·have hjl:j<us.size:=by have:=(List.getElem?_eq_some_iff.1 hj).1; omega
   exact ⟨us[j],Array.getElem?_eq_getElem hjl,(hall j b us[j] hj (Array.getElem?_eq_getElem hjl)).one (hone b (List.mem_of_getElem? hj)),hall j b us[j] hj (Array.getElem?_eq_getElem hjl)⟩
  ·obtain ⟨j,hj⟩:=List.mem_iff_getElem?.1 hu
   have hjl:j<cs.length:=by grind
   have h1:=hall j cs[j] u (List.getElem?_eq_getElem hjl) (by simpa using hj)
   exact h1.one (hone _ (List.getElem_mem hjl))
 cases a with
 | agg cs=>
  cases hv with
  | agg hl hall=>exact key _ _ hl hall h1
 | _=>
  have h2:=hv.one (h1 _ (by simp [BF]))
  have h3:v.cells = #[v]:=by cases v <;> first | rfl | (simp [Value.oneCell'] at h2)
  grind [BF]
theorem Qm {x:Cx} (hok:x.ok) (id:Nat) (e:TypeId) (a:AV) {v:Value} (hv:AR x a v) (h1 : ∀ b∈BF a,b.one=true) :
  ∃ y:Cx,x.le y∧y.ok∧y.w=x.w.alloc (.cells v.cells e)∧y.H=(fun i=>if id=i then some (.box x.n e (BF a)) else x.H i)∧y.n=x.n+1 ∧
   AR y (.ptr id x.n 0 0) (.pointer (some ⟨x.w.heap.size,0,none⟩)):=by
 obtain ⟨hs,hcell,_⟩:=Jb hv h1
 have:=Dz hok id (.box x.n e (BF a)) (x.w.alloc (.cells v.cells e)) (some (x.w.heap.size,1)) (x.n+1) (by simp) rfl rfl rfl
  (fun b hb _=>heap_alloc_old _ _ hb) (fun b k hb=>by cases hb; simp) (by omega) (by simp [AT.gen]) (fun hg=>absurd hg (by simp [AT.gen]))
  (fun hle=>⟨x.w.heap.size,v.cells,rfl,heap_alloc_new _ _,hs,fun j b hj=>by
   obtain ⟨u,k1,k2,k3⟩:=hcell j b hj
   exact ⟨u,k1,k2,k3.mono hle⟩⟩)
 refine ⟨_,this.1,this.2,rfl,rfl,rfl,.ptr (by simp) rfl fun o' ho' _=>?_⟩
 grind
theorem On {t:TypeId} {v:Value} {w:World} : (newVar t v).run P w = .ok ⟨w.heap.size,0,none⟩ (w.alloc (.cells v.cells t)):=by
 simp [newVar,newRow]
def Bx (P:Program) (t:TypeId) (z:Value):Prop:=∃ i,P.info? t=some i∧i.zero=some z
def F8 (z:Value):AV:=
 match z with
 | .agg cs=>.agg (cs.toList.map Hf)
 | v=>Hf v
theorem P3 (x:Cx) (z:Value):AR x (F8 z) z:=by
 cases z with
 | agg cs=>
  refine .agg (by simp) fun i a u h1 h2=>?_
  grind [LT]
 | _=>grind [F8,LT]
theorem Ww {t:TypeId} {x:Operand} {a:AV} (id:Nat) (ho:o.op = .box t x) (hx:Ev c R x a) (h1:(BF a).all AV.one=true):BC P c o R h n (.ptr id n 0 0) ((id,some (.box n t (BF a))) :: h) (n+1):=by
 intro hc z w hok hH hn he K Q hK
 obtain ⟨y,k1,k2,k3,k4,k5,k6⟩:=Qm hok id t a (hx.rep he hc) (fun b hb=>List.all_eq_true.1 h1 b hb)
 unfold Oper.wp execOp
 rw [ho]
 simp only [Instr.box,Sem.run_bind,On,Result.andThen_ok,Sem.run_pure]
 have:=hK (.pointer (some ⟨z.w.heap.size,0,none⟩)) y k1 k2 (by rw [k4,hH,hn,CS]) (by rw [k5,hn]) (by rw [← hn]; exact k6)
 rw [k3] at this
 exact this
theorem Ut {t:TypeId} {zv:Value} (id:Nat) (ho:o.op = .alloc t) (hz:Bx P t zv) (h1:(BF (F8 zv)).all AV.one=true) :
  BC P c o R h n (.ptr id n 0 0) ((id,some (.box n t (BF (F8 zv)))) :: h) (n+1):=by
 intro hc z w hok hH hn he K Q hK
 obtain ⟨i,hi,hz⟩:=hz
 obtain ⟨y,k1,k2,k3,k4,k5,k6⟩:=Qm hok id t (F8 zv) (P3 z zv) (fun b hb=>List.all_eq_true.1 h1 b hb)
 unfold Oper.wp execOp
 rw [ho]
 simp only [Instr.alloc,zeroValue,typeInfo,Sem.run_bind,run_program,Result.andThen_ok,hi,Sem.run_pure,hz,On]
 have:=hK (.pointer (some ⟨z.w.heap.size,0,none⟩)) y k1 k2 (by rw [k4,hH,hn,CS]) (by rw [k5,hn]) (by rw [← hn]; exact k6)
 rw [k3] at this
 exact this
theorem Nb {t:TypeId} {i:TypeInfo} (hi:P.info? t=some i) {w:World} {b k:Nat} {e:TypeId} {cur:Array Value} (hh:w.heap[b]? = some (.cells cur e (0,0))) {v:Value} (hs:v.cells.size=i.size)
  (h1 : ∀ u∈v.cells.toList,u.oneCell'=true) (hfit:k+v.cells.size≤cur.size) :
  (Instr.storeAt t (.pointer (some ⟨b,k,none⟩)) v).run P w = .ok () (w.setRow b (cur.toList.take k++v.cells.toList++cur.toList.drop (k+v.cells.size)).toArray):=by
 have:=run_storeCells_at P b k e v.cells.toList 0 cur w hh (by simpa using hfit) h1
 simp only [Nat.add_zero,Array.length_toList] at this
 simp [Instr.storeAt,Instr.sureAddr,storeVar,C4 hi,hs,this]
theorem Ib {α:Type} (l vs:List α) (k j:Nat) (hk:k+vs.length≤l.length):(l.take k++vs++l.drop (k+vs.length))[j]? = if k≤j∧j<k+vs.length then vs[j-k]? else l[j]?:=by
 by_cases h1:j<k
 ·grind
 ·grind
def ER (cs:List AV) (k:Nat) (vs:List AV):List AV:=cs.take k++vs++cs.drop (k+vs.length)
theorem S8 {t:TypeId} {x y:Operand} {id g k:Nat} {e:TypeId} {cs:List AV} {a:AV} {sz:Nat} (ho:o.op = .store t x y) (ht : ∃ i,P.info? t=some i∧i.size=sz) (hx:Ev c R x (.ptr id g 0 k))
  (hh:hget h id=some (.box g e cs)) (hy:Ev c R y a) (hsz:(BF a).length=sz) (h1:(BF a).all AV.one=true) (hfit:Nat.ble (k+sz) cs.length=true) :
  BC P c o R h n .any ((id,some (.box g e (ER cs k (BF a)))) :: h) n:=by
 intro hc z w hok hH hn he K Q hK
 obtain ⟨ii,hi,hisz⟩:=ht
 have hHid:z.H id=some (.box g e cs):=by simp_all
 have hfit':k+sz≤cs.length:=Nat.le_of_ble_eq_true hfit
 obtain ⟨b,cur,hβ,hx2,hrow,hcs,hcells⟩:=F5 hok hHid (hx.rep he hc)
 obtain ⟨hvs,hvc,hv1⟩:=Jb (hy.rep he hc) (fun b hb=>List.all_eq_true.1 h1 b hb)
 have hrun:=Nb (P:=P) (k:=k) hi hrow (v:=w.eval y) (by omega) hv1 (by omega)
 have hgn:=(hok.obj _ _ hHid).1
 have hl:(ER cs k (BF a)).length=cs.length:=by simp [ER]; omega
 have hup:=Dz hok id (.box g e (ER cs k (BF a))) (z.w.setRow b (cur.toList.take k++(w.eval y).cells.toList++cur.toList.drop (k+(w.eval y).cells.size)).toArray) (some (b,1)) z.n (by simp [World.setRow]) rfl rfl rfl
  (fun b' _ hne=>setRow_other _ _ _ _ (fun e=>hne _ 1 hHid (by rw [e]; exact hβ))) (fun b' k' hb=>by
   cases hb
   exact ⟨by simpa [World.setRow] using (hok.own id _ b 1 hHid hβ).1,.inr ⟨_,_,hHid,hβ⟩⟩) (Nat.le_refl _) hgn
  (fun _=>⟨_,hHid,rfl,by simp [AT.shape,hl],hβ.symm⟩)
  (fun hle=>⟨b,_,rfl,setRow_heap _ _ _ _ _ _ hrow,by simp; omega,fun j d hj=>by
   have hsp:=Ib cs (BF a) k j (by omega)
   have hsp2:=Ib cur.toList (w.eval y).cells.toList k j (by simp; omega)
   rw [Array.length_toList] at hsp2
   rw [List.getElem?_toArray,hsp2]
   unfold ER at hj
   rw [hsp,← hvs] at hj
   split at hj
   ·rename_i hc'
    obtain ⟨u,k1,k2,k3⟩:=hvc _ _ hj
    exact ⟨u,by rw [if_pos hc']; simpa using k1,k2,k3.mono hle⟩
   ·rename_i hc'
    obtain ⟨u,k1,k2,k3⟩:=hcells _ _ hj
    exact ⟨u,by rw [if_neg hc']; simpa using k1,k2,k3.mono hle⟩⟩)
 unfold Oper.wp execOp
 rw [ho]
 simp only [hx2,Sem.run_bind,hrun,Result.andThen_ok,Sem.run_pure]
 exact hK undef _ hup.1 hup.2 (by simp only [hH]; exact CS _ _ _) hn (.any _)
end
section
variable {P:Program} {c:Bool} {o:Oper} {R:AU} {h:AN} {n:Nat}
def A7 (P:Program) (t e:TypeId) (sz by_:Nat):Prop:=
 P.underlying t=some (.slice e) ∧ ∃ i z,P.info? e=some i∧i.size=sz∧i.bytes=by_∧i.zero=some z∧z.cells.size=sz∧(∀ u∈z.cells.toList,u.oneCell'=true)∧0<sz
theorem A7.slice {t e:TypeId} {sz b:Nat} (h:A7 P t e sz b):Dq P t e sz:=by
 obtain ⟨h1,i,z,h2,h3,_⟩:=h
 exact ⟨h1,i,h2,h3⟩
def JZ:Value→Option (Nat × Nat)
 | .slice (some a) _ cap=>some (a.block,cap)
 | _=>none
theorem UV {xs:List (List RV)} {sz:Nat} (hrow : ∀ row∈xs,row.length=sz) {us:List Value} {Q:RV→Value→Prop}
  (hl:us.length=xs.length * sz) (hq : ∀ j u,us[j]? = some u → ∃ row d,xs[j / sz]? = some row∧row[j % sz]? = some d∧Q d u) (hsz:0<sz) {i k:Nat} {row:List RV} {d:RV} (h1:xs[i]? = some row) (h2:row[k]? = some d) :
  ∃ u,us[i * sz+k]? = some u∧Q d u:=by
 have hi:i<xs.length:=(List.getElem?_eq_some_iff.1 h1).1
 have hk:k<sz:=by grind
 have hlt:i * sz+k<us.length:=by
  rw [hl]
  calc i * sz+k<i * sz+sz:=by omega
   _=(i+1) * sz:=by rw [Nat.add_mul,Nat.one_mul]
   _≤xs.length * sz:=Nat.mul_le_mul_right _ hi
 refine ⟨us[i * sz+k],List.getElem?_eq_getElem hlt,?_⟩
 obtain ⟨row',d',h3,h4,h5⟩:=hq _ _ (List.getElem?_eq_getElem hlt)
 have e1:(i * sz+k) / sz=i:=by rw [Nat.mul_comm,Nat.mul_add_div hsz,Nat.div_eq_of_lt hk,Nat.add_zero]
 have e2:(i * sz+k) % sz=k:=by rw [Nat.mul_comm,Nat.mul_add_mod,Nat.mod_eq_of_lt hk]
 grind
def Lm (x:Cx) (v:Value) (sz:Nat) (ys:List (List RV)):Prop:=
 (ys=[] ∧ ∃ c,v = .slice none 0 c) ∨ ∃ (a:Addr) (cap:Nat) (news:List Value),v = .slice (some a) ys.length cap∧news.length=ys.length * sz∧(∀ j u,news[j]? = some u→x.w.cell? (Addr.add a j)=some u)∧(∀ u∈news,u.oneCell'=true) ∧
  ∀ i row k d,ys[i]? = some row→row[k]? = some d → ∃ u,news[i * sz+k]? = some u∧Ar x.w x.S d u
theorem Vg {x:Cx} {v:Value} {ys:List (List RV)} {sz:Nat} (hv:AR x (.r (.sl ys)) v) (hsz : ∀ row∈ys,row.length=sz) (h0:0<sz):Lm x v sz ys:=by
 rcases Lg hv with ⟨rfl,rfl | ⟨a,rfl⟩⟩ | ⟨b,off,cap,size,u,rfl,hS,hcap,hm,hrow,hcell,hrep⟩
 ·exact .inl ⟨rfl,0,rfl⟩
 ·exact .inr ⟨_,0,[],rfl,by simp,by simp,by simp,by simp⟩
 ·by_cases hy:ys=[]
  ·subst hy
   exact .inr ⟨_,cap,[],rfl,by simp,by simp,by simp,by simp⟩
  ·have hs:size=sz:=by
    obtain ⟨row,hr⟩:=List.exists_mem_of_ne_nil _ hy
    grind
   subst hs
   have hget : ∀ j,j<ys.length * size → ∃ row d,ys[j / size]? = some row∧row[j % size]? = some d:=by
    intro j hj
    have h1:j / size<ys.length:=by rw [Nat.div_lt_iff_lt_mul h0]; exact hj
    have h2:j % size<(ys[j / size]).length:=by rw [hrow _ (List.getElem_mem _)]; exact Nat.mod_lt _ h0
    exact ⟨_,_,List.getElem?_eq_getElem h1,List.getElem?_eq_getElem h2⟩
   have hdm : ∀ j,j / size * size+j % size=j:=fun j=>Nat.div_add_mod' j size
   refine .inr ⟨⟨b,off,none⟩,cap,(List.range (ys.length * size)).map fun j=>u (j / size) (j % size),rfl,by simp,fun j w hj=>?_,fun w hw=>?_,fun i row k d h1 h2=>?_⟩
   ·simp only [List.getElem?_map,Option.map_eq_some_iff] at hj
    obtain ⟨j',h3,rfl⟩:=hj
    obtain ⟨h4,h5⟩:=List.getElem?_eq_some_iff.1 h3
    simp only [List.getElem_range] at h5; subst h5
    simp only [List.length_range] at h4
    obtain ⟨row,d,k1,k2⟩:=hget _ h4
    rw [Addr.add_lit,← hcell _ _ _ _ k1 k2,Nat.add_assoc,hdm]
   ·simp only [List.mem_map,List.mem_range] at hw
    obtain ⟨j,hj,rfl⟩:=hw
    obtain ⟨row,d,k1,k2⟩:=hget _ hj
    exact (hrep _ _ _ _ k1 k2).one
   ·refine UV hrow (Q:=fun d u=>Ar x.w x.S d u) (by simp) (fun j w hj=>?_) h0 h1 h2
    grind
theorem U9 {x:Cx} {sz:Nat} {xs:List (List RV)} {us:List Value} (hl:us.length=xs.length * sz) (h0:0<sz) (hrow : ∀ row∈xs,row.length=sz)
  (hc : ∀ i row k d,xs[i]? = some row→row[k]? = some d → ∃ u,us[i * sz+k]? = some u∧Ar x.w x.S d u) : ∀ u∈us,u.oneCell'=true:=by
 intro u hu
 obtain ⟨j,hj⟩:=List.mem_iff_getElem?.1 hu
 have hj1:j<xs.length * sz:=by grind
 have h1:j / sz<xs.length:=by rw [Nat.div_lt_iff_lt_mul h0]; exact hj1
 have h2:j % sz<(xs[j / sz]).length:=by rw [hrow _ (List.getElem_mem _)]; exact Nat.mod_lt _ h0
 obtain ⟨v,h3,h4⟩:=hc _ _ _ _ (List.getElem?_eq_getElem h1) (List.getElem?_eq_getElem h2)
 rw [Nat.div_add_mod',hj] at h3
 cases h3
 exact h4.one
theorem XY {x:Cx} (hok:x.ok) {id g:Nat} {e:TypeId} {sz:Nat} {ys:List (List RV)} {v:Value} (hH:x.H id=some (.arr g e sz ys)) (hv:AR x (.own id g) v):Lm x v sz ys:=by
 obtain ⟨h0,hrow,us,hd,hown,hc⟩:=KX hok hH hv
 have hone:=U9 hown.1 h0 hrow hc
 unfold Bk at hd
 split at hd
 ·have hy:ys=[]:=List.eq_nil_of_length_eq_zero hd.1
  exact .inl ⟨hy,0,hd.2⟩
 ·subst hd
  exact .inr ⟨_,_,us,rfl,hown.1,hown.cells (by rfl),hone,hc⟩
theorem QC {x:Cx} (hok:x.ok) {t e:TypeId} {sz by_:Nat} (ht:A7 P t e sz by_) (id:Nat) {xs ys:List (List RV)} {us:List Value} {v u:Value} (hown:x.w.ownsRow 0 e sz v xs.length us)
  (hβ : ∀ b,v.ownBlock=some b → ∃ o0 k,x.H id=some o0∧x.β id=some (b,k)) (hrow : ∀ row∈xs,row.length=sz)
  (hc : ∀ i row k d,xs[i]? = some row→row[k]? = some d → ∃ u,us[i * sz+k]? = some u∧Ar x.w x.S d u)
  (hsrc:Lm x u sz ys) (hrow' : ∀ row∈ys,row.length=sz) (hm:xs.length+ys.length≤maxLen) (hb:(xs.length+ys.length) * by_≤140737488355328) (ty:TypeId) :
  ∃ v' y,(Builtin.append_ #[t,t] ty #[v,u]).run P x.w = .ok v' y.w∧x.le y∧y.ok∧y.H=(fun i=>if id=i then some (.arr x.n e sz (xs++ys)) else x.H i)∧y.n=x.n+1∧AR y (.own id x.n) v':=by
 obtain ⟨ht1,ii,z,hi,hisz,hiby,hz,hzs,_,h0⟩:=ht
 have key : ∃ (v':Value) (w':World) (news:List Value),(Builtin.append_ #[t,t] ty #[v,u]).run P x.w = .ok v' w'∧w'.ownsRow 0 e sz v' (xs.length+ys.length) (us++news)∧x.w.grownBy w' v.ownBlock ∧
   (v'.ownBlock=v.ownBlock∨v'.ownBlock=some x.w.heap.size)∧news.length=ys.length * sz ∧ ∀ i row k d,ys[i]? = some row→row[k]? = some d → ∃ u,news[i * sz+k]? = some u∧Ar x.w x.S d u:=by
  rcases hsrc with ⟨hy,cc,rfl⟩ | ⟨a,cap,news,rfl,hl,hcells,hone,hrep⟩
  ·subst hy
   refine ⟨v,x.w,[],?_,by simpa using hown,⟨rfl,rfl,rfl,Nat.le_refl _,fun _ _ _=>rfl⟩,.inl rfl,by simp,by simp⟩
   rcases hown.2 with ⟨rfl,h1⟩ | ⟨g,cap,cur,rfl,_,_,hnc,_⟩
   ·simp [Builtin.append_,run_underlying ht1,sizeOf,typeInfo,hi,Builtin.lenOf,Builtin.firstCells]
   ·simp [Builtin.append_,run_underlying ht1,sizeOf,typeInfo,hi,Builtin.lenOf,Builtin.firstCells,hnc,storeCells]
  ·obtain ⟨v',w',hrun,k1,k2,_,k4⟩:=run_append_own_at (P:=P) x.w 0 t ty e ii z sz by_ ht1 hi hz hisz hiby hzs h0 v xs.length us hown a ys.length cap news hl hcells hone hm hb (Nat.zero_le _)
   grind
 obtain ⟨v',w',news,hrun,hown',hgr,hblk,hnl,hnews⟩:=key
 have hlt:=hown'.lt
 have hhdr:Bk (JZ v') (xs++ys).length v':=by
  rcases hown'.2 with ⟨rfl,h1⟩ | ⟨g,cap,cur,rfl,_⟩
  ·exact ⟨by rw [List.length_append]; exact h1,rfl⟩
  ·simp [Bk,JZ]
 have hbo : ∀ b k,JZ v'=some (b,k)→v'.ownBlock=some b:=by
  intro b k hbk
  cases v' with
  | slice a l cp=>
   cases a with
   | none=>cases hbk
   | some a=>simp only [JZ,Option.some.injEq,Prod.mk.injEq] at hbk; simp [Value.ownBlock,hbk.1]
  | _=>cases hbk
 have hup:=Dz hok id (.arr x.n e sz (xs++ys)) w' (JZ v') (x.n+1) hgr.size hgr.os hgr.tape hgr.output
  (fun b hbl hne=>hgr.block b hbl (fun heq=>by
   grind))
  (fun b k hbk=>by
   grind)
  (by omega) (by simp [AT.gen]) (fun hg=>absurd hg (by simp [AT.gen]))
  (fun hle=>by
   have hbs : ∀ b,x.S b→w'.heap[b]? = x.w.heap[b]?:=fun b hb=>hle.blk b (.inl hb)
   refine ⟨h0,fun row hr=>(List.mem_append.1 hr).elim (hrow row) (hrow' row),v',us++news,hhdr,by rw [List.length_append]; exact hown',fun i row k d h1 h2=>?_⟩
   have hul:=hown.1
   by_cases hi':i<xs.length
   ·rw [List.getElem?_append_left hi'] at h1
    obtain ⟨u,h3,h4⟩:=hc i row k d h1 h2
    refine ⟨u,?_,h4.mono hbs (fun _ h=>h)⟩
    grind
   ·rw [List.getElem?_append_right (by omega)] at h1
    obtain ⟨u,h3,h4⟩:=hnews _ row k d h1 h2
    refine ⟨u,?_,h4.mono hbs (fun _ h=>h)⟩
    have e1:i * sz+k=us.length+((i-xs.length) * sz+k):=by
     rw [hul,Nat.sub_mul]
     have:xs.length * sz≤i * sz:=Nat.mul_le_mul_right _ (by omega)
     omega
    grind)
 refine ⟨v',_,hrun,hup.1,hup.2,rfl,rfl,.own (by simp) ?_ fun o' ho' _=>?_⟩
 ·rcases hown'.2 with ⟨rfl,_⟩ | ⟨g,cap,cur,rfl,_⟩ <;> rfl
 ·grind [AT.shape]
end
section
variable {P:Program} {c:Bool} {o:Oper} {R:AU} {h:AN} {n:Nat}
def Kr (c:Bool) (R:AU) (h:AN) (x:Operand) (sz:Nat) (ys:List (List RV)):Prop:=
 (Ev c R x (.r (.sl ys))∧(c=true → ∀ row∈ys,row.length=sz))∨(∃ id g e,Ev c R x (.own id g)∧hget h id=some (.arr g e sz ys))∨(Ev c R x (.cst (.slice none 0 0))∧ys=[])
theorem Kr.src {x:Operand} {sz:Nat} {ys:List (List RV)} (hx:Kr c R h x sz ys) (h0:0<sz) (hc:c=true) {z:Cx} {a:Act} (hok:z.ok) (hH:z.H=hget h) (he:BN z R a) :
  Lm z (a.eval x) sz ys ∧ ∀ row∈ys,row.length=sz:=by
 rcases hx with ⟨h1,h2⟩ | ⟨id,g,e,h1,h2⟩ | ⟨h1,rfl⟩
 ·exact ⟨Vg (h1.rep he hc) (h2 hc) h0,h2 hc⟩
 ·have hHid:z.H id=some (.arr g e sz ys):=by rw [hH]; exact h2
  exact ⟨XY hok hHid (h1.rep he hc),(KX hok hHid (h1.rep he hc)).2.1⟩
 ·have h2:=h1.rep he hc
  generalize a.eval x=v at h2 ⊢
  cases h2
  exact ⟨.inl ⟨rfl,0,rfl⟩,by simp⟩
theorem Tm {t e:TypeId} {sz by_:Nat} {s x:Operand} {id g:Nat} {xs ys:List (List RV)} (ho:o.op = .call { callee:=.builtin .append,args:=#[s,x],argTypes:=#[t,t] }) (ht:A7 P t e sz by_)
  (hs:Ev c R s (.own id g)) (hh:hget h id=some (.arr g e sz xs)) (hx:Kr c R h x sz ys) (hm:(xs.length+ys.length) * by_≤140737488355328) (hm2:xs.length+ys.length≤9223372036854775807) :
  BC P c o R h n (.own id n) ((id,some (.arr n e sz (xs++ys))) :: h) (n+1):=by
 intro hc z w hok hH hn he K Q hK
 have hHid:z.H id=some (.arr g e sz xs):=by simp_all
 obtain ⟨h0,hrow,us,hd,hown,hcell⟩:=KX hok hHid (hs.rep he hc)
 obtain ⟨hsrc,hrow'⟩:=hx.src h0 hc hok hH he
 obtain ⟨v',y,hrun,k1,k2,k3,k4,k5⟩:=QC hok ht id hown (fun b hb=>by
  refine ⟨_,?_,hHid,?_⟩
  ·exact match z.β id with | some p=>p.2 | none=>0
  ·unfold Bk at hd
   split at hd
   ·rw [hd.2] at hb; cases hb
   ·rename_i heq; rw [hd] at hb; simp only [Value.ownBlock,Option.some.injEq] at hb; subst hb; simp [heq]) hrow hcell hsrc hrow' (by unfold maxLen; omega) hm o.type
 unfold Oper.wp execOp
 simp only [ho,resolve,invoke,builtin,Sem.run_bind,Sem.run_pure,Result.andThen_ok,List.map_toArray,List.map_cons,List.map_nil,hrun]
 exact hK v' y k1 k2 (by rw [k3,hH,hn,CS]) (by rw [k4,hn]) (by rw [← hn]; exact k5)
theorem T4 {t e:TypeId} {sz by_:Nat} {s x:Operand} (id:Nat) {ys:List (List RV)} (ho:o.op = .call { callee:=.builtin .append,args:=#[s,x],argTypes:=#[t,t] }) (ht:A7 P t e sz by_)
  (hs:Ev c R s (.cst (.slice none 0 0))) (hx:Kr c R h x sz ys) (hm:ys.length * by_≤140737488355328) (hm2:ys.length≤9223372036854775807) :
  BC P c o R h n (.own id n) ((id,some (.arr n e sz ys)) :: h) (n+1):=by
 intro hc z w hok hH hn he K Q hK
 have ht0:=ht
 obtain ⟨_,_,_,_,_,_,_,_,_,h0⟩:=ht0
 obtain ⟨hsrc,hrow'⟩:=hx.src h0 hc hok hH he
 have hsv:w.eval s = .slice none 0 0:=by
  have h2:=hs.rep he hc
  generalize w.eval s=v at h2 ⊢
  cases h2; rfl
 obtain ⟨v',y,hrun,k1,k2,k3,k4,k5⟩:=QC (xs:=[]) hok ht id (World.ownsRow_nil z.w 0 e sz) (fun b hb=>by cases hb) (by simp) (by simp) hsrc hrow' (by unfold maxLen; simp; omega) (by simpa using hm) o.type
 unfold Oper.wp execOp
 simp only [ho,resolve,invoke,builtin,Sem.run_bind,Sem.run_pure,Result.andThen_ok,List.map_toArray,List.map_cons,List.map_nil,hsv,hrun]
 exact hK v' y k1 k2 (by rw [k3,hH,hn,CS,List.nil_append]) (by rw [k4,hn]) (by rw [← hn]; exact k5)
theorem QY (off:Nat) : ∀ (vs:List Value) (j:Nat) (cells:Array Value),off+j+vs.length≤cells.size →
  ((vs.zipIdx j).foldl (fun cs p=>cs.setIfInBounds (off+p.2) p.1) cells).size=cells.size ∧
  ∀ k,((vs.zipIdx j).foldl (fun cs p=>cs.setIfInBounds (off+p.2) p.1) cells)[k]? = if off+j≤k∧k<off+j+vs.length then vs[k-(off+j)]? else cells[k]?
 | [],j,cells,_=>⟨rfl,fun k=>by simp; omega⟩
 | v :: vs,j,cells,hl=>by
  simp only [List.length_cons] at hl
  obtain ⟨h1,h2⟩:=QY off vs (j+1) (cells.setIfInBounds (off+j) v) (by simp; omega)
  simp only [List.zipIdx_cons,List.foldl_cons]
  refine ⟨by rw [h1]; simp,fun k=>?_⟩
  rw [h2]
  by_cases hk:k=off+j
  ·subst hk
   rw [if_neg (by omega),if_pos (by simp)]
   simp [show off+j<cells.size by omega]
  ·by_cases hk2:off+j≤k∧k<off+j+(v :: vs).length
   ·rw [if_pos hk2,if_pos (by simp only [List.length_cons] at hk2; omega)]
    rw [show k-(off+j)=(k-(off+(j+1)))+1 by omega,List.getElem?_cons_succ]
   ·rw [if_neg hk2,if_neg (by simp only [List.length_cons] at hk2; omega)]
    simp [show off+j≠k from fun e=>hk e.symm]
theorem QX (off:Nat) (v:Value) (cells:Array Value) (hl:off+v.cells.size≤cells.size) :
  (v.cells.zipIdx.foldl (fun cs (c,j)=>cs.setIfInBounds (off+j) c) cells).size=cells.size ∧
  ∀ k,(v.cells.zipIdx.foldl (fun cs (c,j)=>cs.setIfInBounds (off+j) c) cells)[k]? = if off≤k∧k<off+v.cells.size then v.cells[k-off]? else cells[k]?:=by
 have:=QY off v.cells.toList 0 cells (by simpa using hl)
 simp only [Nat.add_zero,Array.length_toList] at this
 rw [← Array.foldl_toList,Array.toList_zipIdx]
 grind
theorem Nk (size:Nat) : ∀ (vals:List (Nat × Value)) (start:Nat) (us:Array Value),(∀ j p,vals[j]? = some p→p.1=start+j∧p.2.cells.size=size)→(start+vals.length) * size≤us.size →
  ∃ us',Instr.fill (fun i=>some (i * size,size)) us vals=some us'∧us'.size=us.size∧(∀ k,k<start * size→us'[k]? = us[k]?) ∧
   ∀ j p k,vals[j]? = some p→k<size→us'[(start+j) * size+k]? = p.2.cells[k]?
 | [],start,us,_,_=>⟨us,rfl,rfl,fun _ _=>rfl,by simp⟩
 | p :: vals,start,us,hp,hl=>by
  obtain ⟨i,v⟩:=p
  obtain ⟨h1,h2⟩:=hp 0 (i,v) rfl
  simp only [Nat.add_zero] at h1 h2
  subst h1
  have hle:i * size+size≤us.size:=by
   have:(i+1) * size≤(i+(vals.length+1)) * size:=Nat.mul_le_mul_right _ (by omega)
   simp only [List.length_cons] at hl
   rw [Nat.add_mul,Nat.one_mul] at this
   omega
  obtain ⟨k1,k2⟩:=QX (i * size) v us (by rw [h2]; exact hle)
  obtain ⟨us',f1,f2,f3,f4⟩:=Nk size vals (i+1) _ (fun j q hq=>by
   have:=hp (j+1) q (by simpa using hq)
   exact ⟨by omega,this.2⟩) (by rw [k1]; simp only [List.length_cons] at hl; rwa [show i+1+vals.length=i+(vals.length+1) by omega])
  refine ⟨us',?_,f2.trans k1,fun k hk=>?_,fun j q k hq hk=>?_⟩
  ·simp only [Instr.fill]
   rw [if_neg (by simp [h2]; omega)]
   exact f1
  ·rw [f3 k (by rw [Nat.add_mul]; omega),k2,if_neg (by omega)]
  ·cases j with
   | zero=>
    cases hq
    rw [Nat.add_zero,f3 _ (by rw [Nat.add_mul]; omega),k2,if_pos (by omega)]
    congr 1; omega
   | succ j=>
    have:=f4 j q k (by simpa using hq) hk
    rwa [show i+1+j=i+(j+1) by omega] at this
def GE:AV→Option RV
 | .r d=>some d
 | .cst (.slice none 0 0)=>some (.sl [])
 | .full xs=>some (.slf xs)
 | _=>none
def I4:List AV→Option (List RV)
 | []=>some []
 | a :: l=>match GE a,I4 l with
  | some d,some r=>some (d :: r)
  | _,_=>none
def GZ (a:AV):Option (List RV):=I4 (BF a)
theorem NR {x:Cx} {a:AV} {d:RV} {v:Value} (h:GE a=some d) (hv:AR x a v):Ar x.w x.S d v:=by
 unfold GE at h
 split at h
 ·cases h; cases hv with | r hr=>exact hr
 ·cases h; cases hv; exact .snil
 ·cases h; cases hv with | full h1 h2=>exact .slf h1 h2
 ·cases h
theorem QF {l:List AV} {row:List RV} (h:I4 l=some row):row.length=l.length ∧ ∀ (j:Nat) (d:RV),row[j]? = some d → ∃ a:AV,l[j]? = some a∧GE a=some d:=by
 induction l generalizing row with
 | nil=>grind [I4]
 | cons a l ih=>
  grind [I4]
theorem Nw {a:AV} {d:RV} (h:GE a=some d):a.one=true:=by
 unfold GE at h
 split at h <;> first | rfl | cases h
theorem JI {x:Cx} {a:AV} {row:List RV} {v:Value} (h:GZ a=some row) (hv:AR x a v):v.cells.size=row.length ∧ ∀ (k:Nat) (d:RV),row[k]? = some d → ∃ u:Value,v.cells[k]? = some u∧Ar x.w x.S d u:=by
 obtain ⟨h1,h2⟩:=QF h
 have hone : ∀ b∈BF a,b.one=true:=by
  intro b hb
  obtain ⟨j,hj⟩:=List.mem_iff_getElem?.1 hb
  have hjl:j<row.length:=by grind
  obtain ⟨a',k1,k2⟩:=h2 j _ (List.getElem?_eq_getElem hjl)
  grind [Nw]
 grind [Jb,NR]
def GM (c:Bool) (R:AU):Nat→List (Nat × Operand)→List (List RV)→Prop
 | _,[],[]=>True
 | i,(j,x) :: r,row :: rows=>j=i∧(∃ a,Ev c R x a∧GZ a=some row)∧GM c R (i+1) r rows
 | _,_,_=>False
theorem GM.get {ps:List (Nat × Operand)} {rows:List (List RV)} : ∀ {i:Nat},GM c R i ps rows→ps.length=rows.length ∧ ∀ (j:Nat) (p:Nat × Operand),ps[j]? = some p→p.1=i+j ∧ ∃ row a,rows[j]? = some row∧Ev c R p.2 a∧GZ a=some row:=by
 induction ps generalizing rows with
 | nil=>intro i h; cases rows with | nil=>exact ⟨rfl,by simp⟩ | cons _ _=>exact h.elim
 | cons p ps ih=>
  intro i h
  cases rows with
  | nil=>exact h.elim
  | cons row rows=>
   obtain ⟨h1,⟨a,h2,h3⟩,h4⟩:=h
   grind
theorem OH {x:Cx} (hok:x.ok) (id:Nat) (e:TypeId) (sz:Nat) (xs:List (List RV)) (cells:Array Value) (h0:0<sz) (hrow : ∀ row∈xs,row.length=sz) (hl:cells.size=xs.length * sz) (hm:xs.length≤maxLen)
  (hc : ∀ i row k d,xs[i]? = some row→row[k]? = some d → ∃ u,cells[i * sz+k]? = some u∧Ar x.w x.S d u) :
  ∃ y:Cx,x.le y∧y.ok∧y.w=x.w.alloc (.cells cells e)∧y.H=(fun i=>if id=i then some (.arr x.n e sz xs) else x.H i)∧y.n=x.n+1 ∧
   AR y (.own id x.n) (.slice (some ⟨x.w.heap.size,0,none⟩) xs.length xs.length):=by
 have hup:=Dz hok id (.arr x.n e sz xs) (x.w.alloc (.cells cells e)) (some (x.w.heap.size,xs.length)) (x.n+1) (by simp) rfl rfl rfl
  (fun b hb _=>heap_alloc_old _ _ hb) (fun b k hb=>by cases hb; simp) (by omega) (by simp [AT.gen]) (fun hg=>absurd hg (by simp [AT.gen]))
  (fun hle=>⟨h0,hrow,_,cells.toList,rfl,⟨by simpa using hl,.inr ⟨x.w.heap.size,xs.length,cells,rfl,Nat.zero_le _,heap_alloc_new _ _,Nat.le_refl _,hm,hl,by rw [← hl,← Array.length_toList]; exact List.take_length⟩⟩,fun i row k d h1 h2=>by
   obtain ⟨u,k1,k2⟩:=hc i row k d h1 h2
   exact ⟨u,by simpa using k1,k2.mono (fun b hb=>hle.blk b (.inl hb)) (fun _ h=>h)⟩⟩)
 refine ⟨_,hup.1,hup.2,rfl,rfl,rfl,.own (by simp) rfl fun o' ho' _=>?_⟩
 simp only [if_pos] at ho'
 cases ho'
 show Bk (if id=id then _ else _) _ _
 rw [if_pos rfl]
 rfl
theorem Vo {t e:TypeId} {sz by_ len:Nat} {parts:Array (Nat × Operand)} (id:Nat) {rows:List (List RV)} (ho:o.op = .buildSlice t len parts) (ht:A7 P t e sz by_)
  (hp:GM c R 0 parts.toList rows) (hlen:rows.length=len) (hrow : ∀ row∈rows,row.length=sz) (hsmall:Nat.ble (len * sz) 16777216=true) :
  BC P c o R h n (.own id n) ((id,some (.arr n e sz rows)) :: h) (n+1):=by
 intro hc z w hok hH hn he K Q hK
 obtain ⟨ht1,ii,zv,hi,hisz,_,hz,hzs,_,h0⟩:=ht
 have hsm:len * sz≤16777216:=Nat.le_of_ble_eq_true hsmall
 have hlm:len≤len * sz:=Nat.le_mul_of_pos_right _ h0
 obtain ⟨hpl,hpg⟩:=hp.get
 have hinit : ∃ init:Array Value,init.size=len * sz ∧ ∀ W,(Instr.buildSlice t len (parts.map fun (i,x)=>(i,w.eval x))).run P W =
   match Instr.fill (fun i=>some (i * sz,sz)) init (parts.toList.map fun (i,x)=>(i,w.eval x)) with
   | some cells=>.ok (.slice (some ⟨W.heap.size,0,none⟩) len len) (W.alloc (.cells cells e))
   | none => .halt (.stuck "buildSlice: a part of the wrong size") W := by
  refine ⟨(Array.range (len * sz)).map (fun i=>(if len * sz=0 then #[] else zv.cells)[i % (if len * sz=0 then #[] else zv.cells).size]!),by simp,fun W=>?_⟩
  have hnot : ¬ 2 ^ 24<len * sz:=by omega
  by_cases hl0:len * sz=0
  ·simp only [Instr.buildSlice,Sem.run_bind,run_underlying ht1,Result.andThen_ok,C4 hi,hisz,hl0]
   simp
   split <;> simp_all [newRow,Instr.fill]
  ·simp only [Instr.buildSlice,Sem.run_bind,run_underlying ht1,Result.andThen_ok,C4 hi,hisz]
   simp only [hnot,hl0,zeroValue,typeInfo,if_false,Sem.run_bind,run_program,Result.andThen_ok,hi,hz,Sem.run_pure,Array.toList_map]
   generalize Instr.fill _ _ _=r
   cases r <;> simp [newRow]
 obtain ⟨init,hisize,hrun⟩:=hinit
 obtain ⟨us',f1,f2,_,f4⟩:=Nk sz (parts.toList.map fun (i,x)=>(i,w.eval x)) 0 init (fun j p hj=>by
  simp only [List.getElem?_map,Option.map_eq_some_iff] at hj
  obtain ⟨q,hq,rfl⟩:=hj
  obtain ⟨h1,row,a,h2,h3,h4⟩:=hpg j q hq
  refine ⟨by simpa using h1,?_⟩
  rw [(JI h4 (h3.rep he hc)).1]
  exact hrow row (List.mem_of_getElem? h2)) (by rw [hisize]; simp only [List.length_map,hpl,hlen,Nat.zero_add]; exact Nat.le_refl _)
 obtain ⟨y,k1,k2,k3,k4,k5,k6⟩:=OH hok id e sz rows us' h0 hrow (by rw [f2,hisize,hlen]) (by unfold maxLen; omega) (fun i row k d h1 h2=>by
  have hi':i<parts.toList.length:=by rw [hpl]; exact (List.getElem?_eq_some_iff.1 h1).1
  obtain ⟨_,row',a,h3,h4,h5⟩:=hpg i _ (List.getElem?_eq_getElem hi')
  rw [h1] at h3; cases h3
  obtain ⟨u,h6,h7⟩:=(JI h5 (h4.rep he hc)).2 k d h2
  refine ⟨u,?_,h7⟩
  have hk:k<sz:=by rw [← hrow row (List.mem_of_getElem? h1)]; exact (List.getElem?_eq_some_iff.1 h2).1
  have:=f4 i (parts.toList[i].1,w.eval parts.toList[i].2) k (by simp [List.getElem?_map,List.getElem?_eq_getElem hi']) hk
  rw [Nat.zero_add] at this
  rw [this]; exact h6)
 unfold Oper.wp execOp
 simp only [ho,Sem.run_bind,hrun,f1,Result.andThen_ok,Sem.run_pure]
 have:=hK _ y k1 k2 (by rw [k4,hH,hn,CS]) (by rw [k5,hn]) (by rw [← hn]; exact k6)
 rw [k3,hlen] at this
 exact this
end
section
variable {P:Program} {c:Bool} {o:Oper} {R:AU} {h:AN} {n:Nat}
def Fy (P:Program) (e:TypeId) (zrow:List RV):Prop:=∃ i zv,P.info? e=some i∧i.zero=some zv∧GZ (F8 zv)=some zrow
theorem Ui {t e:TypeId} {sz by_:Nat} {l k:Operand} (id:Nat) {m:Int} {zrow:List RV} (ho:o.op = .makeSlice t l k) (ht:A7 P t e sz by_) (hz:Fy P e zrow)
  (hl:Ev c R l (.r (.int .i64 m))) (hk:Ev c R k (.r (.int .i64 m))) (h0:0≤m) (hb:m * by_≤281474976710656) (hm:m≤9223372036854775807) :
  BC P c o R h n (.own id n) ((id,some (.arr n e sz (List.replicate m.toNat zrow))) :: h) (n+1):=by
 intro hc z w hok hH hn he K Q hK
 obtain ⟨ht1,ii,zv,hi,hisz,hiby,hiz,hzs,_,hpos⟩:=ht
 obtain ⟨i2,zv2,hi2,hz2,hzr⟩:=hz
 rw [hi] at hi2; cases hi2
 rw [hiz] at hz2; cases hz2
 have hrun:=run_make (P:=P) z.w t e ii zv ht1 hi hiz .i64 .i64 m m h0 (Int.le_refl _) (by rw [hiby,Int.mul_comm]; exact hb) hm
 obtain ⟨k1,k2⟩:=JI hzr (P3 z zv)
 have hzl:zrow.length=sz:=by rw [← k1,hzs]
 obtain ⟨y,e1,e2,e3,e4,e5,e6⟩:=OH hok id e sz (List.replicate m.toNat zrow) (madeCells zv.cells (m.toNat * ii.size)) hpos (fun row hr=>by rw [(List.mem_replicate.1 hr).2]; exact hzl)
  (by rw [size_madeCells,hisz]; simp) (by unfold maxLen; simp; omega) (fun i row k d h1 h2=>by
   obtain ⟨hi',hrow⟩:=List.getElem?_eq_some_iff.1 h1
   simp only [List.length_replicate] at hi'
   rw [List.getElem_replicate] at hrow
   subst hrow
   have hkl:k<sz:=by rw [← hzl]; exact (List.getElem?_eq_some_iff.1 h2).1
   obtain ⟨u,h3,h4⟩:=k2 k d h2
   refine ⟨u,?_,h4⟩
   have hlt:i * sz+k<m.toNat * sz:=by
    calc i * sz+k<i * sz+sz:=by omega
     _=(i+1) * sz:=by rw [Nat.add_mul,Nat.one_mul]
     _≤m.toNat * sz:=Nat.mul_le_mul_right _ hi'
   have hmod:(i * sz+k) % zv.cells.size=k:=by rw [hzs,Nat.mul_comm,Nat.mul_add_mod,Nat.mod_eq_of_lt hkl]
   simp only [madeCells,hisz]
   rw [Array.getElem?_map,Array.getElem?_range,if_pos hlt]
   simp only [Option.map_some,hmod]
   rw [← h3]
   have hks:k<zv.cells.size:=by omega
   rw [getElem!_pos zv.cells k hks,Array.getElem?_eq_getElem hks])
 unfold Oper.wp execOp
 simp only [ho,Bw (hl.rep he hc),Bw (hk.rep he hc),Sem.run_bind,hrun,Result.andThen_ok,Sem.run_pure]
 have:=hK _ y e1 e2 (by rw [e4,hH,hn,CS]) (by rw [e5,hn]) (by rw [← hn]; exact e6)
 rw [e3,List.length_replicate] at this
 exact this
theorem XB {t:TypeId} {x y:Operand} {id g i k:Nat} {e:TypeId} {sz:Nat} {xs:List (List RV)} {row:List RV} {a:AV} {d:RV} (ho:o.op = .store t x y) (ht : ∃ i,P.info? t=some i∧i.size=1)
  (hx:Ev c R x (.ptr id g i k)) (hh:hget h id=some (.arr g e sz xs)) (hrow:xs[i]? = some row) (hk:k<row.length) (hy:Ev c R y a) (hd:GE a=some d) (h1:(BF a).length=1) :
  BC P c o R h n .any ((id,some (.arr g e sz (xs.set i (row.set k d)))) :: h) n:=by
 intro hc z w hok hH hn he K Q hK
 obtain ⟨ii,hi,hisz⟩:=ht
 have hHid:z.H id=some (.arr g e sz xs):=by rw [hH]; exact hh
 have hil:i<xs.length:=(List.getElem?_eq_some_iff.1 hrow).1
 obtain ⟨b,cap,us,hβ,hx2,hown,hrows,hcells⟩:=MU hok hHid hil (hx.rep he hc)
 have hgn:=(hok.obj _ _ hHid).1
 obtain ⟨hus,hown2⟩:=hown
 rcases hown2 with ⟨hv,_⟩ | ⟨b',cap',cur,hv,_,hcur,hnc,hcm,hcs,htake⟩
 ·cases hv
 simp only [Value.slice.injEq,Option.some.injEq,Addr.mk.injEq,true_and,and_true] at hv
 obtain ⟨rfl,rfl⟩:=hv
 have hsz:0<sz:=(hok.obj _ _ hHid).2.1
 have hrl:=hrows row (List.mem_of_getElem? hrow)
 have hone:a.one=true:=Nw hd
 have hcl:BF a=[a]:=by cases a <;> first | rfl | (simp [AV.one] at hone)
 have hvr:=hy.rep he hc
 have hvc:(w.eval y).cells = #[w.eval y]:=by
  have h2:=hvr.one hone
  generalize w.eval y=v at h2 ⊢
  cases v <;> first | rfl | (simp [Value.oneCell'] at h2)
 have hbase:i * sz+sz≤xs.length * sz:=by
  have:(i+1) * sz≤xs.length * sz:=Nat.mul_le_mul_right _ hil
  rwa [Nat.add_mul,Nat.one_mul] at this
 have hcap:xs.length * sz≤cur.size:=by rw [hcs]; exact Nat.mul_le_mul_right _ hnc
 have hrun:=Nb (P:=P) (k:=i * sz+k) hi hcur (v:=w.eval y) (by rw [hvc,hisz]; rfl) (by rw [hvc]; simpa using hvr.one hone) (by rw [hvc]; simp; omega)
 rw [hvc] at hrun
 simp only [List.size_toArray,List.length_singleton] at hrun
 have hsp2:=fun j=>Ib cur.toList [w.eval y] (i * sz+k) j (by simp; omega)
 simp only [List.length_singleton] at hsp2
 let cur':Array Value:=(cur.toList.take (i * sz+k)++[w.eval y]++cur.toList.drop (i * sz+k+1)).toArray
 have hcur's:cur'.size=cur.size:=by simp [cur']; omega
 have hup:=Dz hok id (.arr g e sz (xs.set i (row.set k d))) (z.w.setRow b cur') (some (b,cap)) z.n (by simp [World.setRow]) rfl rfl rfl
  (fun b' _ hne=>setRow_other _ _ _ _ (fun e=>hne _ cap hHid (by rw [e]; exact hβ))) (fun b' k' hb=>by
   cases hb
   exact ⟨by simpa [World.setRow] using (hok.own id _ b cap hHid hβ).1,.inr ⟨_,_,hHid,hβ⟩⟩) (Nat.le_refl _) hgn
  (fun _=>⟨_,hHid,rfl,by simp [AT.shape],hβ.symm⟩)
  (fun hle=>by
   have hbs : ∀ b',z.S b'→(z.w.setRow b cur').heap[b']? = z.w.heap[b']?:=fun b' hb=>hle.blk b' (.inl hb)
   refine ⟨hsz,fun r hr=>?_,.slice (some ⟨b,0,none⟩) xs.length cap,cur'.toList.take (xs.length * sz),by simp [Bk],⟨by simp [hcur's]; omega,.inr ⟨b,cap,cur',by simp,Nat.zero_le _,setRow_heap _ _ _ _ _ _ hcur,by simpa using hnc,hcm,by rw [hcur's,hcs],by simp⟩⟩,fun i' row' c' d' k1 k2=>?_⟩
   ·rcases List.mem_or_eq_of_mem_set hr with hr | rfl
    ·exact hrows r hr
    ·simpa using hrl
   ·have hi'l:i'<xs.length:=by simpa using (List.getElem?_eq_some_iff.1 k1).1
    have hc'l:c'<sz:=by
     have:=(List.getElem?_eq_some_iff.1 k2).1
     rw [List.getElem?_set] at k1
     split at k1
     ·cases k1; simpa [hrl] using this
     ·rw [← hrows row' (List.mem_of_getElem? k1)]; exact this
    have hlt:i' * sz+c'<xs.length * sz:=by
     calc i' * sz+c'<i' * sz+sz:=by omega
      _=(i'+1) * sz:=by rw [Nat.add_mul,Nat.one_mul]
      _≤xs.length * sz:=Nat.mul_le_mul_right _ hi'l
    have hget:(cur'.toList.take (xs.length * sz))[i' * sz+c']? = if i * sz+k≤i' * sz+c'∧i' * sz+c'<i * sz+k+1 then [w.eval y][i' * sz+c' - (i * sz+k)]? else cur.toList[i' * sz+c']?:=by
     rw [List.getElem?_take,if_pos hlt]
     simp only [cur']
     exact hsp2 _
    have huniq:i * sz+k=i' * sz+c'→i=i'∧k=c':=by
     intro heq
     have e1:(i * sz+k) / sz=i:=by rw [Nat.mul_comm,Nat.mul_add_div hsz,Nat.div_eq_of_lt (by omega),Nat.add_zero]
     have e2:(i' * sz+c') / sz=i':=by rw [Nat.mul_comm,Nat.mul_add_div hsz,Nat.div_eq_of_lt (by omega),Nat.add_zero]
     have:i=i':=by rw [← e1,← e2,heq]
     subst this
     exact ⟨rfl,by omega⟩
    by_cases heq:i * sz+k=i' * sz+c'
    ·obtain ⟨rfl,rfl⟩:=huniq heq
     rw [List.getElem?_set,if_pos rfl,if_pos hil] at k1
     cases k1
     rw [List.getElem?_set,if_pos rfl,if_pos hk] at k2
     cases k2
     refine ⟨w.eval y,by rw [hget,if_pos (by omega)]; simp,(NR hd hvr).mono hbs (fun _ h=>h)⟩
    ·have hold : ∃ row0,xs[i']? = some row0∧row0[c']? = some d':=by
      rw [List.getElem?_set] at k1
      split at k1
      ·rename_i hii; subst hii
       cases k1
       rw [List.getElem?_set] at k2
       split at k2
       ·rename_i hkk; subst hkk; exact absurd rfl heq
       ·exact ⟨row,hrow,k2⟩
      ·exact ⟨row',k1,k2⟩
     obtain ⟨row0,k3,k4⟩:=hold
     obtain ⟨u,k5,k6⟩:=hcells _ _ _ _ k3 k4
     refine ⟨u,?_,k6.mono hbs (fun _ h=>h)⟩
     rw [hget,if_neg (by omega),← k5,← htake,List.getElem?_take,if_pos hlt])
 unfold Oper.wp execOp
 rw [ho]
 simp only [hx2,Sem.run_bind,hrun,Result.andThen_ok,Sem.run_pure]
 exact hK undef _ hup.1 hup.2 (by simp only [hH]; exact CS _ _ _) hn (.any _)
end
section
variable {P:Program} {c:Bool} {o:Oper} {R:AU} {h:AN} {n:Nat}
def MF (c:Bool) (R:AU) (dflt:Nat):Option Operand→Nat→Prop
 | none,m=>m=dflt
 | some x,m=>∃ k z,Ev c R x (.r (.int k z))∧(c=true→0≤z)∧z.toNat=m
theorem Ko {k:IntKind} {z:Int} {y:Nat} (h0:0≤z) (h1:z≤y) (code:BoundsCode) (w:World):(Instr.sliceBound (.int k z) y code).run P w = .ok z.toNat w:=by
 simp [Instr.sliceBound,asIntOf,h0,h1]
theorem V9 {t e:TypeId} {sz:Nat} {x:Operand} {lo hi:Option Operand} {xs:List (List RV)} {l m:Nat} (ho:o.op = .slice t x lo hi none) (ht:Dq P t e sz) (hx:Ev c R x (.r (.sl xs)))
  (hlo:MF c R 0 lo l) (hhi:MF c R xs.length hi m) (h1:c=true→l≤m) (h2:c=true→m≤xs.length) (hrow : ∀ row∈xs,row.length=sz):AY P c o R h (.r (.sl ((xs.drop l).take (m-l)))):=by
 intro hc z w _ _ he
 obtain ⟨ht1,ii,ht2,ht3⟩:=ht
 have h1':=h1 hc
 have h2':=h2 hc
 have hbnd : ∀ (len cap:Nat),len=xs.length→xs.length≤cap → ∀ W,(Instr.sliceBounds true len cap (lo.map w.eval) (hi.map w.eval) none).run P W = .ok (l,m,cap) W:=by
  intro len cap hlen hcap W
  have hL : ∀ W,(∃ y,lo=some y∧(Instr.sliceBound (w.eval y) m .sliceB).run P W = .ok l W)∨lo=none∧l=0:=by
   intro W
   cases lo with
   | none=>exact .inr ⟨rfl,hlo⟩
   | some v=>
    obtain ⟨k,zz,e1,e2,e3⟩:=hlo
    refine .inl ⟨v,rfl,?_⟩
    rw [Bw (e1.rep he hc),Ko (e2 hc) (by have:=e2 hc; omega),e3]
  cases hi with
  | none=>
   simp only [MF] at hhi
   rcases hL W with ⟨y,rfl,hr⟩ | ⟨rfl,rfl⟩
   ·rw [hhi] at hr; simp [Instr.sliceBounds,hlen,hr,hhi]
   ·simp [Instr.sliceBounds,hlen,hhi]
  | some v=>
   obtain ⟨k,zz,e1,e2,e3⟩:=hhi
   have hH:(Instr.sliceBound (w.eval v) cap .sliceAcap).run P W = .ok m W:=by
    rw [Bw (e1.rep he hc),Ko (e2 hc) (by have:=e2 hc; omega),e3]
   rcases hL W with ⟨y,rfl,hr⟩ | ⟨rfl,rfl⟩
   ·simp [Instr.sliceBounds,hH,hr]
   ·simp [Instr.sliceBounds,hH]
 rcases Lg (hx.rep he hc) with ⟨rfl,hv⟩ | ⟨b,off,cap,size,u,hv,hS,hcap,hm,hsz,hcell,hrep⟩
 ·simp only [List.length_nil,Nat.le_zero] at h2'
  subst h2'
  have hl0:l=0:=by omega
  subst hl0
  rcases hv with hv | ⟨a0,hv⟩
  ·refine ⟨.slice none 0 0,fun w2 hag=>?_,by simpa using AR.r .snil⟩
   unfold execOp
   rw [ho]
   simp [hv,Instr.sliceAt,Instr.slice,run_underlying ht1,C4 ht2,hbnd 0 0 rfl (Nat.le_refl _)]
  ·refine ⟨.slice (some a0) 0 0,fun w2 hag=>?_,by simpa using AR.r (.sl0 a0)⟩
   unfold execOp
   rw [ho]
   simp [hv,Instr.sliceAt,Instr.slice,run_underlying ht1,C4 ht2,hbnd 0 0 rfl (Nat.le_refl _)]
 ·let k0:=if cap=l then 0 else l * sz
  refine ⟨.slice (some ⟨b,off+k0,none⟩) ((xs.drop l).take (m-l)).length (cap-l),fun w2 hag=>?_,.r (.sl b (off+k0) _ (cap-l) size (fun i k=>u (l+i) k) (fun hne=>hS (by rintro rfl; simp at hne)) ?_ (by omega) ?_ (fun i row k d k1 k2=>?_) (fun i row k d k1 k2=>?_))⟩
  ·unfold execOp
   rw [ho]
   have hlen:((xs.drop l).take (m-l)).length=m-l:=by simp; omega
   by_cases hcl:cap=l
   ·have hk0:k0=0:=if_pos hcl
    have hb2:=hbnd _ cap rfl hcap w2
    rw [hk0,hlen]
    simp only [hv,Instr.sliceAt,Instr.slice,Sem.run_bind,run_underlying ht1,Result.andThen_ok,Option.map_none,hb2,C4 ht2,Sem.run_pure,if_pos hcl,Nat.add_zero]
   ·simp [hv,Instr.sliceAt,Instr.slice,run_underlying ht1,C4 ht2,ht3,hbnd _ cap rfl hcap,hcl,k0,Addr.add_lit]
    omega
  ·simp; omega
  ·grind
  ·grind
  ·grind
theorem HK {s:St} (t id:Nat) (e:TypeId) (sz:Nat) (h0:0<sz) (ht:get s.e t = .cst (.slice none 0 0)):Ac s ⟨(t,.own id s.n) :: s.e,(id,some (.arr s.n e sz [])) :: s.h,s.n+1,s.N⟩:=by
 intro c0 a w ⟨_,hdef,hsz,y,hyw,hle,hok,hH,hyn,henv⟩
 have hup:=Dz hok id (.arr s.n e sz []) y.w none (y.n+1) (Nat.le_refl _) rfl rfl rfl (fun _ _ _=>rfl) (fun b k hb=>by cases hb) (by omega) (by simp [AT.gen,hyn]) (fun hg=>absurd hg (by simp [AT.gen,hyn]))
  (fun hle=>⟨h0,by simp,.slice none 0 0,[],⟨rfl,rfl⟩,World.ownsRow_nil _ _ _ _,by simp⟩)
 refine ⟨_,hdef,hsz,{ y with H:=fun i=>if id=i then some (.arr s.n e sz []) else y.H i,β:=fun i=>if id=i then none else y.β i,K:=fun i=>if id=i then fun _=>none else y.K i,n:=y.n+1 },hyw,hle.trans hup.1,hup.2,by simp only [hH]; exact CS _ _ _,by simp [hyn],fun t'=>?_⟩
 rw [C3]
 split
 ·rename_i htt; subst htt
  have h1:=henv t
  rw [ht] at h1
  generalize a.tmps.getD t undef=u at h1 ⊢
  cases h1
  refine .own (by simp [hyn]) rfl fun o ho _=>?_
  simp only [if_pos] at ho ⊢
  cases ho
  exact ⟨rfl,rfl⟩
 ·exact (henv t').mono hup.1
theorem Mr {y:Cx} (hok:y.ok) {id g:Nat} {e:TypeId} {sz:Nat} {xs:List (List RV)} {v:Value} (hH:y.H id=some (.arr g e sz xs)) (hv:AR y (.own id g) v) {S':Nat→Prop}
  (hS : ∀ b,y.S b→S' b) (hS' : ∀ b k,y.β id=some (b,k)→S' b):Ar y.w S' (.sl xs) v:=by
 obtain ⟨h0,hrow,us,hd,hown,hc⟩:=KX hok hH hv
 unfold Bk at hd
 split at hd
 ·have:xs=[]:=List.eq_nil_of_length_eq_zero hd.1
  subst this
  rw [hd.2]; exact .snil
 ·rename_i b cap heq
  subst hd
  have hnc:xs.length≤cap∧cap≤maxLen:=by
   rcases hown.2 with ⟨h1,_⟩ | ⟨g',cap',cur,h1,_,_,h2,h3,_⟩
   ·cases h1
   ·grind
  have hch : ∀ i row k d,xs[i]? = some row→row[k]? = some d→us[i * sz+k]? = some (us.getD (i * sz+k) undef)∧Ar y.w y.S d (us.getD (i * sz+k) undef):=by
   grind
  refine .sl b 0 xs cap sz (fun i k=>us.getD (i * sz+k) undef) (fun _=>hS' b cap heq) hnc.1 hnc.2 hrow (fun i row k d h1 h2=>?_) (fun i row k d h1 h2=>(hch i row k d h1 h2).2.mono (fun _ _=>rfl) hS)
  grind [LH]
theorem TP {y:Cx} (hok:y.ok) {id g m:Nat} {e:TypeId} {sz:Nat} {xs:List (List RV)} {v:Value} (hH:y.H id=some (.arr g e sz xs)) (hv:AR y (.pre id g m) v) {S':Nat→Prop}
  (hS : ∀ b,y.S b→S' b) (hS' : ∀ b k,y.β id=some (b,k)→S' b):Ar y.w S' (.sl (xs.take m)) v:=by
 obtain ⟨_,h0,hrow,hdr,us,hd,hown,hc⟩:=hok.obj _ _ hH
 have hp:m≤xs.length∧Bk (y.β id) m v:=by
  cases hv with
  | pre _ _ h=>exact h _ hH rfl
 obtain ⟨hm,hp⟩:=hp
 unfold Bk at hd hp
 split at hd
 ·rename_i heq
  rw [heq] at hp
  obtain ⟨rfl,rfl⟩:=hp
  rw [List.take_zero]; exact .snil
 ·rename_i b cap heq
  rw [heq] at hp
  subst hd; subst hp
  have hnc:xs.length≤cap∧cap≤maxLen:=by
   rcases hown.2 with ⟨h1,_⟩ | ⟨g',cap',cur,h1,_,_,h2,h3,_⟩
   ·cases h1
   ·grind
  have hch : ∀ i row k d,xs[i]? = some row→row[k]? = some d→us[i * sz+k]? = some (us.getD (i * sz+k) undef)∧Ar y.w y.S d (us.getD (i * sz+k) undef):=by
   grind
  have htk : ∀ i row,(xs.take m)[i]? = some row→xs[i]? = some row:=fun i row h=>by
   rw [List.getElem?_take] at h
   split at h
   ·exact h
   ·cases h
  have hlen:(xs.take m).length=m:=by grind
  have:=Ar.sl (w:=y.w) (S:=S') b 0 (xs.take m) cap sz (fun i k=>us.getD (i * sz+k) undef) (fun _=>hS' b cap heq) (by omega) hnc.2 (fun row hr=>hrow row (List.mem_of_mem_take hr))
   (fun i row k d h1 h2=>by rw [Nat.zero_add]; exact LH hown (hch i row k d (htk i row h1) h2).1) (fun i row k d h1 h2=>(hch i row k d (htk i row h1) h2).2.mono (fun _ _=>rfl) hS)
  rwa [hlen] at this
theorem AK.weak {ops:Array Oper} {rest:List Oper} {s s':St} {K:St→Prop} (hw:Ac s s') (h:AK P ops rest s' K):AK P ops rest s K:=fun c0 a w hs=>h c0 a w (hw _ _ _ hs)
def KB (P : Program) (f : FuncId) : Prop := ∃ fn, P.funcs[f]? = some fn ∧ fn.body.isNone = false ∧ (fn.name == "runtime.NumGoroutine") = false
mutual
def AV.closed:AV→Bool
 | .r _=>true
 | .cst _=>true
 | .any=>true
 | .rop _ _=>true
 | .agg cs=>Du cs
 | .tup cs=>Du cs
 | .fn _ cs=>Du cs
 | .ifc _=>true
 | .own _ _=>false
 | .pre _ _ _=>false
 | .ptr _ _ _ _=>false
 | .mref _ _=>false
 | .pk _ _ _ _ _=>false
 | .fo _ _ _ _=>false
 | .yld _ _=>false
 | .full _=>false
 | .whn _ _=>false
def Du:List AV→Bool
 | []=>true
 | a :: l=>a.closed && Du l
end
theorem IX {cs:List AV} (h:Du cs=true) {i:Nat} {a:AV} (hi:cs[i]? = some a):a.closed=true:=by
 induction cs generalizing i with
 | nil=>simp at hi
 | cons b l ih=>
  grind [Du]
theorem Xh (row:List RV):Du (row.map AV.r)=true:=by
 induction row with
 | nil=>rfl
 | cons d l ih=>simp [Du,AV.closed,ih]
theorem Vi (row:List RV):(AV.agg (row.map AV.r)).closed=true:=by simp [AV.closed,Xh]
theorem Ig {x y:Cx} (hw:y.w=x.w) (hS : ∀ b,x.S b→y.S b) {a:AV} {v:Value} (hv:AR x a v) (ha:a.closed=true):AR y a v:=by
 have hb : ∀ b,x.S b→y.w.heap[b]? = x.w.heap[b]?:=fun _ _=>by rw [hw]
 induction hv with
 | r h=>exact .r (h.mono hb hS)
 | cst v=>exact .cst v
 | any v=>exact .any v
 | ifc h1 h h2=>exact .ifc h1 h h2
 | rop u h1 h2 h3=>exact .rop u (fun h=>hS _ (h1 h)) (fun j d hj=>by rw [hw]; exact h2 j d hj) (fun j d hj=>(h3 j d hj).mono hb hS)
 | agg hl _ ih=>simp only [AV.closed] at ha; exact .agg hl fun i c u h1 h2=>ih i c u h1 h2 (IX ha h1)
 | tup hl _ ih=>simp only [AV.closed] at ha; exact .tup hl fun i c u h1 h2=>ih i c u h1 h2 (IX ha h1)
 | fn hl _ ih=>simp only [AV.closed] at ha; exact .fn hl fun i c u h1 h2=>ih i c u h1 h2 (IX ha h1)
 | _=>simp [AV.closed] at ha
def G7 (x:Cx) (ars:List AV) (vs:List Value):Prop:=vs.length=ars.length ∧ ∀ (i:Nat) (a:AV) (u:Value),ars[i]? = some a→vs[i]? = some u→AR x a u
def AX (P:Program) (f:FuncId) (args:List AV) (r:AV):Prop:=
 KB P f∧r.closed=true ∧ ∀ (x:Cx) (vs:Array Value),x.ok→(x.H=fun _=>none)→G7 x args vs.toList →
  Calls P f vs x.w fun e w'=>∃ u y,e = .returned u∧y.w=w'∧x.le y∧y.ok∧AR y r u
inductive Ep (h:AN):AV→AV→Prop
 | closed (a:AV) (ha:a.closed=true):Ep h a a
 | own {id g:Nat} {e:TypeId} {sz:Nat} {xs:List (List RV)} (hh:hget h id=some (.arr g e sz xs)):Ep h (.own id g) (.r (.sl xs))
 | nil:Ep h (.cst (.slice none 0 0)) (.r (.sl []))
 | pre {α:Type} {f:α→List RV} {id g k:Nat} {e:TypeId} {sz:Nat} {l l':List α} (hh:hget h id=some (.arr g e sz (l.map f))) (hl:l'=l.take k):Ep h (.pre id g k) (.r (.sl (l'.map f)))
 | full {xs:List (List RV)} : Ep h (.full xs) (.r (.sl xs))
def MO (h:AN):List AV→List AV→Prop
 | [],[]=>True
 | a :: l,b :: m=>Ep h a b∧MO h l m
 | _,_=>False
inductive Fz (h:AN):AV→AV→Prop
 | one {a b:AV} (h1:Ep h a b):Fz h a b
 | agg {cs ds:List AV} (h1:MO h cs ds):Fz h (.agg cs) (.agg ds)
def Cx.frozen (y:Cx):Cx:={ w:=y.w,S:=fun b=>y.S b ∨ ∃ id o k,y.H id=some o∧y.atk id b k,F:=y.F,H:=fun _=>none,β:=fun _=>none,K:=fun _ _=>none,n:=y.n }
theorem OS {y:Cx} : y.le y.frozen:=⟨Nat.le_refl _,rfl,rfl,rfl,fun _ _=>rfl,fun _ h=>.inl h,rfl,Nat.le_refl _,(fun _ _ h=>by cases h),fun _ _ h=>by cases h⟩
theorem OR {y:Cx} (hok:y.ok):y.frozen.ok:=by
 refine ⟨fun b hb=>?_,hok.F_lt,fun b hb=>?_,(fun _ _ h=>by cases h),(fun _ _ _ _ h=>by cases h),(fun _ _ _ _ _ _ _ h=>by cases h),(fun _ _ _ _ _ h=>by cases h),hok.tabs.le OS⟩
 ·rcases hb with hb | ⟨id,o,k,h1,h2⟩
  ·exact hok.S_lt b hb
  ·exact (hok.own' id o b k h1 h2).1
 ·rcases hb with hb | ⟨id,o,k,h1,h2⟩
  ·exact hok.SF b hb
  ·exact (hok.own' id o b k h1 h2).2.2
theorem Ep.rep {y:Cx} (hok:y.ok) {h:AN} (hH:y.H=hget h) {a b:AV} (hf:Ep h a b) {v:Value} (hv:AR y a v):AR y.frozen b v:=by
 cases hf with
 | closed _ ha=>exact Ig (x:=y) (y:=y.frozen) rfl (fun b h=>Or.inl h) hv ha
 | @own id g e sz xs hh=>
  have hHid:y.H id=some (.arr g e sz xs):=by simp_all
  exact .r (Mr hok hHid hv (fun _ h=>.inl h) fun b k hb=>.inr ⟨_,_,k,hHid,.inl hb⟩)
 | nil=>cases hv; exact .r .snil
 | full=>cases hv with | full h _=>exact (AR.r h).mono OS
 | @pre α f id g k e sz l l' hh hl=>
  subst hl
  have hHid:y.H id=some (.arr g e sz (l.map f)):=by simp_all
  rw [List.map_take]
  exact .r (TP hok hHid hv (fun _ h=>.inl h) fun b k hb=>.inr ⟨_,_,k,hHid,.inl hb⟩)
theorem MO.get {h:AN} {cs ds:List AV} (hf:MO h cs ds):cs.length=ds.length ∧ ∀ (i:Nat) (b:AV),ds[i]? = some b → ∃ a,cs[i]? = some a∧Ep h a b:=by
 induction cs generalizing ds with
 | nil=>cases ds with | nil=>exact ⟨rfl,by simp⟩ | cons _ _=>exact hf.elim
 | cons a l ih=>
  cases ds with
  | nil=>exact hf.elim
  | cons b m=>
   obtain ⟨h1,h2⟩:=ih hf.2
   refine ⟨by simp [h1],fun i c hi=>?_⟩
   cases i with
   | zero=>simp at hi; subst hi; exact ⟨a,rfl,hf.1⟩
   | succ i=>grind
theorem Fz.rep {y:Cx} (hok:y.ok) {h:AN} (hH:y.H=hget h) {a b:AV} (hf:Fz h a b) {v:Value} (hv:AR y a v):AR y.frozen b v:=by
 cases hf with
 | one h1=>exact h1.rep hok hH hv
 | agg h1=>
  obtain ⟨h2,h3⟩:=h1.get
  cases hv with
  | agg hl hall=>
   refine .agg (by omega) fun i c u k1 k2=>?_
   obtain ⟨a',k3,k4⟩:=h3 i c k1
   exact k4.rep hok hH (hall i a' u k3 k2)
end
section
variable {P:Program} {c:Bool} {o:Oper} {R:AU} {h:AN} {n:Nat}
theorem L9 {f:FuncId} (hf:KB P f) {fo:Operand} {xs:Array Operand} {ats:Array TypeId} (ho:o.op = .call { callee:=.value fo,args:=xs,argTypes:=ats }) {ρ:Operand→Value} {us:Array Value}
  (hfo:ρ fo = .func (.func f) #[] us) (w:World):(execOp ρ o).run P w = .ok (.enter f (xs.map ρ++us)) w:=by
 obtain ⟨fn,h1,h2,h3⟩:=hf
 unfold execOp
 rw [ho]
 simp only [resolve,hfo,Deferred.ofValue,Sem.run_bind,Sem.run_pure,Result.andThen_ok,invoke,callFunc,run_program,h1,h3,h2]
 simp
def FR (c:Bool) (R:AU) (h:AN):List Operand→List AV→Prop
 | [],[]=>True
 | x :: xs,b :: bs=>(∃ a,Ev c R x a∧Fz h a b)∧FR c R h xs bs
 | _,_=>False
theorem FR.get {xs:List Operand} {bs:List AV} (hx:FR c R h xs bs):xs.length=bs.length ∧ ∀ (i:Nat) (b:AV),bs[i]? = some b → ∃ x a,xs[i]? = some x∧Ev c R x a∧Fz h a b:=by
 induction xs generalizing bs with
 | nil=>cases bs with | nil=>exact ⟨rfl,by simp⟩ | cons _ _=>exact hx.elim
 | cons x l ih=>
  cases bs with
  | nil=>exact hx.elim
  | cons b m=>
   obtain ⟨h1,h2⟩:=ih hx.2
   obtain ⟨a,k1,k2⟩:=hx.1
   grind
def AV.flat:AV→Bool
 | .r (.int _ _) | .r (.bool _) | .r (.str _)=>true
 | .tup cs=>cs.all fun | .r (.int _ _) | .r (.bool _) | .r (.str _) | .ifc _=>true | _=>false
 | _=>false
theorem Pp {x y:Cx} {d:RV} (hd:(AV.r d).flat=true) {v:Value} (hv:AR x (.r d) v):AR y (.r d) v:=by
 cases hv with
 | r h=>cases h <;> first | exact .r (.int _ _) | exact .r (.bool _) | exact .r (.str _) | (simp [AV.flat] at hd)
theorem Wa {x y:Cx} {a:AV} (ha:a.flat=true) {v:Value} (hv:AR x a v):AR y a v:=by
 cases a with
 | r d=>exact Pp ha hv
 | tup cs=>
  cases hv with
  | tup hl hall=>
   refine .tup hl fun i c u h1 h2=>?_
   have h3:=List.all_eq_true.1 ha c (List.mem_of_getElem? h1)
   cases c with
   | r d=>grind [Pp,AV.flat]
   | ifc b=>
    cases hall i _ u h1 h2 with
    | ifc a1 a2 a3=>exact .ifc a1 a2 a3
   | _=>simp at h3
 | _=>simp [AV.flat] at ha
theorem DY {f:FuncId} {fo:Operand} {xs:Array Operand} {ats:Array TypeId} {caps bs:List AV} {r:AV} (ho:o.op = .call { callee:=.value fo,args:=xs,argTypes:=ats }) (hfo:Ev c R fo (.fn f caps)) (hcaps:Du caps=true)
  (hx:FR c R h xs.toList bs) (hr:c=true→AX P f (bs++caps) r) (hfl:r.flat=true):BC P c o R h n r h n:=by
 intro hc z w hok hH hn he K Q hK
 obtain ⟨hcall,_,hcon⟩:=hr hc
 obtain ⟨hlen,hget⟩:=hx.get
 have hv:=hfo.rep he hc
 generalize hfv:w.eval fo=v at hv
 cases hv with
 | @fn _ _ us hl hall=>
  have hrun:=L9 hcall ho hfv z.w
  have hargs:G7 z.frozen (bs++caps) (xs.map w.eval++us).toList:=by
   refine ⟨by simp [hl]; simpa using hlen,fun i a u h1 h2=>?_⟩
   have h2':((xs.toList.map w.eval)++us.toList)[i]? = some u:=by grind
   by_cases hi:i<bs.length
   ·rw [List.getElem?_append_left hi] at h1
    obtain ⟨x,b,k1,k2,k3⟩:=hget i a h1
    rw [List.getElem?_append_left (by simp at hlen ⊢; omega),List.getElem?_map,k1] at h2'
    simp only [Option.map_some,Option.some.injEq] at h2'
    subst h2'
    exact k3.rep hok hH (k2.rep he hc)
   ·rw [List.getElem?_append_right (by omega)] at h1
    rw [List.getElem?_append_right (by simp at hlen ⊢; omega)] at h2'
    have hxl:(xs.toList.map w.eval).length=bs.length:=by grind
    rw [hxl] at h2'
    exact Ig (x:=z) (y:=z.frozen) rfl (fun b h=>Or.inl h) (hall _ a u h1 (by simpa using h2')) (IX hcaps h1)
  unfold Oper.wp
  rw [hrun]
  refine (hcon z.frozen _ (OR hok) rfl hargs).mono fun e w' ⟨u,y,he',hyw,hle,hyok,hyr⟩=>?_
  subst he'
  subst hyw
  have hupd:z.le { y with S:=z.S,H:=z.H,β:=z.β,K:=z.K,n:=z.n } ∧ ({ y with S:=z.S,H:=z.H,β:=z.β,K:=z.K,n:=z.n } : Cx).ok:=by
   have hle2:z.le { y with S:=z.S,H:=z.H,β:=z.β,K:=z.K,n:=z.n }:=
    ⟨hle.size,hle.os,hle.tape,hle.output,fun b hb=>hle.blk b (hb.imp (fun h=>Or.inl h) id),fun _ h=>h,hle.F,Nat.le_refl _,fun id o h _=>⟨o,h,rfl,rfl,rfl⟩,fun id o h hf _ _=>⟨o,h,hf,rfl,rfl,rfl,rfl⟩⟩
   refine ⟨hle2,fun b hb=>Nat.lt_of_lt_of_le (hok.S_lt b hb) hle.size,hyok.F_lt,fun b hb=>?_,fun id ob hob=>?_,fun id ob b k h1 h2=>?_,hok.inj,hok.extOf (fun id o h=>⟨o,h⟩) rfl rfl hle.size (fun id o b k h ha=>(hok.own' id o b k h ha).2.1) (fun id o b k h ha hF=>(hok.own' id o b k h ha).2.2 (by rw [← show y.F=z.F from hle.F]; exact hF)),hok.tabs.le hle2⟩
   ·rw [show ({ y with S:=z.S,H:=z.H,β:=z.β,K:=z.K,n:=z.n } : Cx).F=z.F from hle.F]; exact hok.SF b hb
   ·obtain ⟨k1,k2⟩:=hok.obj id ob hob
    exact ⟨k1,k2.mono hle2 (fun b k hb=>hle.blk b (.inl (.inr ⟨id,ob,k,hob,.inl hb⟩))) fun j b k hb=>hle.blk b (.inl (.inr ⟨id,ob,k,hob,.inr ⟨j,hb⟩⟩))⟩
   ·obtain ⟨k1,k2,k3⟩:=hok.own id ob b k h1 h2
    exact ⟨Nat.lt_of_lt_of_le k1 hle.size,k2,by rw [show ({ y with S:=z.S,H:=z.H,β:=z.β,K:=z.K,n:=z.n } : Cx).F=z.F from hle.F]; exact k3⟩
  exact hK u { y with S:=z.S,H:=z.H,β:=z.β,K:=z.K,n:=z.n } hupd.1 hupd.2 hH hn (Wa hfl hyr)
def LL (c:Bool) (R:AU):List Operand→List AV→Prop
 | [],[]=>True
 | x :: xs,b :: bs=>((Ev c R x b∧b.closed=true)∨(Ev c R x (.cst (.slice none 0 0))∧b = .r (.sl [])))∧LL c R xs bs
 | _,_=>False
theorem LL.get {xs:List Operand} {bs:List AV} (hx:LL c R xs bs):xs.length=bs.length ∧ ∀ (i:Nat) (b:AV),bs[i]? = some b → ∃ x,xs[i]? = some x∧((Ev c R x b∧b.closed=true)∨(Ev c R x (.cst (.slice none 0 0))∧b = .r (.sl []))):=by
 induction xs generalizing bs with
 | nil=>cases bs with | nil=>exact ⟨rfl,by simp⟩ | cons _ _=>exact hx.elim
 | cons x l ih=>
  cases bs with
  | nil=>exact hx.elim
  | cons b m=>
   obtain ⟨h1,h2⟩:=ih hx.2
   refine ⟨by simp [h1],fun i c hi=>?_⟩
   cases i with
   | zero=>simp at hi; subst hi; exact ⟨x,rfl,hx.1⟩
   | succ i=>grind
def Cx.aside (z:Cx):Cx:={ w:=z.w,S:=z.S,F:=fun b=>z.F b ∨ ∃ id o k,z.H id=some o∧z.atk id b k,H:=fun _=>none,β:=fun _=>none,K:=fun _ _=>none,n:=z.n }
theorem YX {z:Cx} (hok:z.ok):z.aside.ok:=by
 refine ⟨hok.S_lt,fun b hb=>?_,fun b hb hf=>?_,(fun _ _ h=>by cases h),(fun _ _ _ _ h=>by cases h),(fun _ _ _ _ _ _ _ h=>by cases h),(fun _ _ _ _ _ h=>by cases h),hok.tabs.same rfl (fun _ h=>h)⟩
 ·rcases hb with hb | ⟨id,o,k,h1,h2⟩
  ·exact hok.F_lt b hb
  ·exact (hok.own' id o b k h1 h2).1
 ·rcases hf with hf | ⟨id,o,k,h1,h2⟩
  ·exact hok.SF b hb hf
  ·exact (hok.own' id o b k h1 h2).2.1 hb
theorem Dp {f:FuncId} {fo:Operand} {xs:Array Operand} {ats:Array TypeId} {caps bs:List AV} {r:AV} (ho:o.op = .call { callee:=.value fo,args:=xs,argTypes:=ats }) (hfo:Ev c R fo (.fn f caps)) (hcaps:Du caps=true)
  (hx:LL c R xs.toList bs) (hr:c=true→AX P f (bs++caps) r):BC P c o R h n r h n:=by
 intro hc z w hok hH hn he K Q hK
 obtain ⟨hcall,hrcl,hcon⟩:=hr hc
 obtain ⟨hlen,hget⟩:=hx.get
 have hv:=hfo.rep he hc
 generalize hfv:w.eval fo=v at hv
 cases hv with
 | @fn _ _ us hl hall=>
  have hrun:=L9 hcall ho hfv z.w
  have hargs:G7 z.aside (bs++caps) (xs.map w.eval++us).toList:=by
   refine ⟨by simp [hl]; simpa using hlen,fun i a u h1 h2=>?_⟩
   have h2':((xs.toList.map w.eval)++us.toList)[i]? = some u:=by grind
   by_cases hi:i<bs.length
   ·rw [List.getElem?_append_left hi] at h1
    obtain ⟨x,k1,k2⟩:=hget i a h1
    rw [List.getElem?_append_left (by simp at hlen ⊢; omega),List.getElem?_map,k1] at h2'
    simp only [Option.map_some,Option.some.injEq] at h2'
    subst h2'
    rcases k2 with ⟨k2,k3⟩ | ⟨k2,rfl⟩
    ·exact Ig (x:=z) (y:=z.aside) rfl (fun b h=>h) (k2.rep he hc) k3
    ·have:=k2.rep he hc
     generalize w.eval x=v at this ⊢
     cases this; exact .r .snil
   ·rw [List.getElem?_append_right (by omega)] at h1
    rw [List.getElem?_append_right (by simp at hlen ⊢; omega)] at h2'
    have hxl:(xs.toList.map w.eval).length=bs.length:=by grind
    rw [hxl] at h2'
    exact Ig (x:=z) (y:=z.aside) rfl (fun b h=>h) (hall _ a u h1 (by simpa using h2')) (IX hcaps h1)
  unfold Oper.wp
  rw [hrun]
  refine (hcon z.aside _ (YX hok) rfl hargs).mono fun e w' ⟨u,y,he',hyw,hle,hyok,hyr⟩=>?_
  subst he'
  subst hyw
  have hyF:y.F=z.aside.F:=hle.F
  have hupd:z.le { y with F:=z.F,H:=z.H,β:=z.β,K:=z.K,n:=z.n } ∧ ({ y with F:=z.F,H:=z.H,β:=z.β,K:=z.K,n:=z.n } : Cx).ok:=by
   have hle2:z.le { y with F:=z.F,H:=z.H,β:=z.β,K:=z.K,n:=z.n }:=
    ⟨hle.size,hle.os,hle.tape,hle.output,fun b hb=>hle.blk b (hb.imp id (fun h=>Or.inl h)),fun b h=>hle.S b h,rfl,Nat.le_refl _,fun id o h _=>⟨o,h,rfl,rfl,rfl⟩,fun id o h hf _ _=>⟨o,h,hf,rfl,rfl,rfl,rfl⟩⟩
   refine ⟨hle2,hyok.S_lt,fun b hb=>Nat.lt_of_lt_of_le (hok.F_lt b hb) hle.size,fun b hb hf=>?_,fun id ob hob=>?_,fun id ob b k h1 h2=>?_,hok.inj,hok.extOf (fun id o h=>⟨o,h⟩) rfl rfl hle.size (fun id o b k h ha hS=>hyok.SF b hS (by rw [hyF]; exact .inr ⟨id,o,k,h,ha⟩)) (fun id o b k h ha=>(hok.own' id o b k h ha).2.2),hok.tabs.le hle2⟩
   ·exact hyok.SF b hb (by rw [hyF]; exact .inl hf)
   ·obtain ⟨k1,k2⟩:=hok.obj id ob hob
    exact ⟨k1,k2.mono hle2 (fun b k hb=>hle.blk b (.inr (.inr ⟨id,ob,k,hob,.inl hb⟩))) fun j b k hb=>hle.blk b (.inr (.inr ⟨id,ob,k,hob,.inr ⟨j,hb⟩⟩))⟩
   ·obtain ⟨k1,k2,k3⟩:=hok.own id ob b k h1 h2
    refine ⟨Nat.lt_of_lt_of_le k1 hle.size,fun hs=>?_,k3⟩
    exact hyok.SF b hs (by rw [hyF]; exact .inr ⟨id,ob,k,h1,.inl h2⟩)
  exact hK u { y with F:=z.F,H:=z.H,β:=z.β,K:=z.K,n:=z.n } hupd.1 hupd.2 hH hn (Ig (x:=y) (y:={ y with F:=z.F,H:=z.H,β:=z.β,K:=z.K,n:=z.n }) rfl (fun _ h=>h) hyr hrcl)
def E4:Nat→List AV→AU
 | _,[]=>[]
 | i,a :: l=>(i,a) :: E4 (i+1) l
theorem Oe (l:List AV) : ∀ (i t:Nat),get (E4 i l) t = .any ∨ ∃ j a,t=i+j∧l[j]? = some a∧get (E4 i l) t=a:=by
 induction l with
 | nil=>intro i t; exact .inl rfl
 | cons a l ih=>
  intro i t
  simp only [E4,C3]
  split
  ·rename_i ht; subst ht; exact .inr ⟨0,a,rfl,rfl,rfl⟩
  ·rcases ih (i+1) t with h1 | ⟨j,b,h1,h2,h3⟩
   ·grind
   ·exact .inr ⟨j+1,b,by omega,by simpa using h2,h3⟩
end
section
variable {P:Program} {c:Bool} {o:Oper} {R:AU} {h:AN} {n:Nat}
end
section
variable {P:Program} {ops:Array Oper} {rest:List Oper} {s:St} {K:St→Prop} {o:Oper}
def CC (y:Cx) (w2:World):Prop:=∃ z:Cx,z.w=w2∧y.le z∧z.ok∧z.H=y.H∧(z.β=y.β∧z.K=y.K)∧z.n=y.n∧z.S=y.S∧CV y w2
def AQ (P:Program) (ops:Array Oper) (rest:List Oper) (s:St) (K:St→Prop):Prop:=
 ∀ (y:Cx) (a:Act),y.ok→y.H=hget s.h→y.n=s.n→a.tmps.size=s.N→BN y s.e a → ∀ Qa:Act→Prop,
  (∀ s' a',K s'→s'.h=s.h→s'.n=s.n→s'.N=s.N→a'.tmps.size=s.N→a'.defers=a.defers→BN y s'.e a'→Qa a')→wpQuiet P ops (CC y) Qa rest a
theorem AQ.nil (h:K s):AQ P ops [] s K:=fun _ a _ _ _ hN he _ hQ=>wpQuiet_nil (hQ s a h rfl rfl rfl hN rfl he)
theorem YB {y z:Cx} {w2:World} (hH:z.H=y.H) (hβ:z.β=y.β∧z.K=y.K) (hS:z.S=y.S) (h1:CV y z.w) (h2:CV z w2):CV y w2:=by
 intro b hb
 refine (h2 b ?_).trans (h1 b hb)
 simp_all [Cx.atk]
theorem AQ.step {d:Nat} {v:AV} (hg:o.guard=none) (hd:o.dst=some d) (hN:Nat.blt d s.N=true) (hs:AY P true o s.e s.h v)
  (hr:AQ P ops rest { e:=(d,v) :: s.e,h:=s.h,n:=s.n,N:=s.N } K):AQ P ops (o :: rest) s K:=by
 intro y a hok hH hn hsz he Qa hQ
 obtain ⟨u,hrun,hv⟩:=hs rfl y a hok hH he
 have hN':d<a.tmps.size:=by simp_all
 refine wpQuiet_step fun K' hK'=>?_
 rw [if_pos (by simp [Region.wanted,hg])]
 refine ⟨u,fun w2 hw2=>?_,hK' _ ?_⟩
 ·obtain ⟨z,hz,_,_,_,_,_,_,hag⟩:=hw2
  unfold Oper.quietAt
  rw [hrun w2 hag]
  exact ⟨rfl,rfl⟩
 ·rw [hd]
  refine hr y (a.put (some d) u) hok hH hn (by simpa [Act.put] using hsz) (he.put hN' hv) Qa fun s' a' k1 k2 k3 k4 k5 k6 k7=>hQ s' a' k1 k2 k3 k4 k5 k6 k7
theorem RF {a:Act} {j dj:Nat} {want b:Bool} (hg:o.guard=some (j,want)) (hj:(ops[j]?).bind (·.dst)=some dj) (hbv:a.tmps.getD dj undef = .bool b):Region.wanted o (yielded ops a.tmps)=(b == want):=by
 simp only [Region.wanted,hg,yielded]
 cases hoj:ops[j]? with
 | none=>grind
 | some oj=>
  rw [hoj] at hj
  simp only [Option.bind_some] at hj
  simp only [hj,Option.bind_some]
  have:a.tmps[dj]? = some (.bool b):=by
   have hlt:dj<a.tmps.size:=by
    rcases Nat.lt_or_ge dj a.tmps.size with h | h
    ·exact h
    ·simp [Array.getD,Nat.not_lt.2 h] at hbv; cases hbv
   simp_all
  simp [this]
def FI:AV→Option Value
 | .r (.int k n)=>some (.int k n)
 | .r (.bool b)=>some (.bool b)
 | .r (.str s)=>some (.string ⟨s.toArray⟩)
 | _=>none
def Fx:List AV→Option (List Value)
 | []=>some []
 | a :: l=>match FI a,Fx l with
  | some v,some r=>some (v :: r)
  | _,_=>none
def I0:AV→Option Value
 | .tup vs=>(Fx vs).map fun l=>.tuple l.toArray
 | a=>FI a
theorem Qi {x:Cx} {r:AV} {v u:Value} (h:FI r=some v) (hu:AR x r u):u=v:=by
 unfold FI at h
 grind [Bw,EJ,Fr]
theorem RI {x:Cx} {r:AV} {v:Value} (h:FI r=some v):AR x r v:=by
 unfold FI at h
 split at h
 ·cases h; exact .r (.int _ _)
 ·cases h; exact .r (.bool _)
 ·cases h; exact .r (.str ⟨_⟩)
 ·cases h
theorem OG : ∀ {vs:List AV} {l:List Value},Fx vs=some l→vs.length=l.length ∧ ∀ (i:Nat) (a:AV),vs[i]? = some a → ∃ v:Value,l[i]? = some v∧FI a=some v
 | [],l,h=>by cases h; exact ⟨rfl,by simp⟩
 | a :: vs,l,h=>by
  unfold Fx at h
  split at h
  ·rename_i v r h1 h2
   cases h
   obtain ⟨k1,k2⟩:=OG h2
   refine ⟨by simp [k1],fun i b hb=>?_⟩
   cases i with
   | zero=>cases hb; exact ⟨v,rfl,h1⟩
   | succ i=>simpa using k2 i b (by simpa using hb)
  ·cases h
theorem Vy {x:Cx} {r:AV} {v u:Value} (h:I0 r=some v) (hu:AR x r u):u=v:=by
 cases r with
 | tup vs=>
  change (Fx vs).map (fun l=>Value.tuple l.toArray)=some v at h
  cases hv:Fx vs with
  | none=>grind
  | some l=>
   rw [hv] at h
   simp only [Option.map_some,Option.some.injEq] at h
   subst h
   obtain ⟨k1,k2⟩:=OG hv
   cases hu with
   | @tup _ us hl hall=>
    congr 1
    apply Array.ext
    ·simp; omega
    ·intro i h1 h2
     obtain ⟨w,h3,h4⟩:=k2 i (vs[i]'(by omega)) (List.getElem?_eq_getElem (by omega))
     have h5:=hall i _ us[i] (List.getElem?_eq_getElem (by omega)) (Array.getElem?_eq_getElem h1)
     grind [Qi]
 | _=>first | exact Qi (show FI _=some v from h) hu | cases h
theorem PA {x:Cx} {r:AV} {v:Value} (h:I0 r=some v):AR x r v:=by
 cases r with
 | tup vs=>
  change (Fx vs).map (fun l=>Value.tuple l.toArray)=some v at h
  cases hv:Fx vs with
  | none=>grind
  | some l=>
   rw [hv] at h
   simp only [Option.map_some,Option.some.injEq] at h
   subst h
   obtain ⟨k1,k2⟩:=OG hv
   refine .tup (by simpa using k1) fun i c u h1 h2=>?_
   grind [RI]
 | _=>first | exact RI (show FI _=some v from h) | cases h
theorem AQ.call {c:Bool} {f:FuncId} {fo:Operand} {xs:Array Operand} {ats:Array TypeId} {caps bs:List AV} {r:AV} {v:Value} {a:Act} {y:Cx} {R:AU} {h:AN} (ho:o.op = .call { callee:=.value fo,args:=xs,argTypes:=ats })
  (hfo:Ev c R fo (.fn f caps)) (hcaps:Du caps=true) (hx:FR c R h xs.toList bs) (hr:c=true→AX P f (bs++caps) r) (hfl:I0 r=some v) (hc:c=true) (_hok:y.ok) (hH:y.H=hget h) (he:BN y R a) :
  ∀ w2,CC y w2→o.quietAt P a (CC y) w2 v:=by
 rintro w2 ⟨z,rfl,hyz,hzok,hzH,hzβ,hzn,hzS,hzag⟩
 obtain ⟨hcall,_,hcon⟩:=hr hc
 obtain ⟨hlen,hget⟩:=hx.get
 have hez:=he.mono hyz
 have hHz:z.H=Al.hget h:=hzH.trans hH
 have hv:=hfo.rep hez hc
 generalize hfv:a.eval fo=vv at hv
 cases hv with
 | @fn _ _ us hl hall=>
  have hrun:=L9 hcall ho hfv z.w
  have hargs:G7 z.frozen (bs++caps) (xs.map a.eval++us).toList:=by
   refine ⟨by simp [hl]; simpa using hlen,fun i b u h1 h2=>?_⟩
   have h2':((xs.toList.map a.eval)++us.toList)[i]? = some u:=by grind
   by_cases hi:i<bs.length
   ·rw [List.getElem?_append_left hi] at h1
    obtain ⟨x,b',k1,k2,k3⟩:=hget i b h1
    rw [List.getElem?_append_left (by simp at hlen ⊢; omega),List.getElem?_map,k1] at h2'
    simp only [Option.map_some,Option.some.injEq] at h2'
    subst h2'
    exact k3.rep hzok hHz (k2.rep hez hc)
   ·rw [List.getElem?_append_right (by omega)] at h1
    rw [List.getElem?_append_right (by simp at hlen ⊢; omega)] at h2'
    have hxl:(xs.toList.map a.eval).length=bs.length:=by grind
    rw [hxl] at h2'
    exact Ig (x:=z) (y:=z.frozen) rfl (fun b h=>Or.inl h) (hall _ b u h1 (by simpa using h2')) (IX hcaps h1)
  unfold Oper.quietAt
  rw [hrun]
  refine ⟨rfl,(hcon z.frozen _ (OR hzok) rfl hargs).mono fun e w' ⟨u,q,he',hqw,hle,hqok,hqr⟩=>?_⟩
  subst hqw
  refine ⟨by rw [he',Vy hfl hqr],?_⟩
  have hle2:z.le { q with S:=z.S,H:=z.H,β:=z.β,K:=z.K,n:=z.n }:=
   ⟨hle.size,hle.os,hle.tape,hle.output,fun b hb=>hle.blk b (hb.imp (fun h=>Or.inl h) id),fun _ h=>h,hle.F,Nat.le_refl _,fun id o h _=>⟨o,h,rfl,rfl,rfl⟩,fun id o h hf _ _=>⟨o,h,hf,rfl,rfl,rfl,rfl⟩⟩
  have hFz:({ q with S:=z.S,H:=z.H,β:=z.β,K:=z.K,n:=z.n } : Cx).F=z.F:=hle.F
  refine ⟨{ q with S:=z.S,H:=z.H,β:=z.β,K:=z.K,n:=z.n },rfl,hyz.trans hle2,⟨fun b hb=>Nat.lt_of_lt_of_le (hzok.S_lt b hb) hle.size,hqok.F_lt,fun b hb=>?_,fun id ob hob=>?_,fun id ob b k h1 h2=>?_,hzok.inj,hzok.extOf (fun id o h=>⟨o,h⟩) rfl rfl hle.size (fun id o b k h ha=>(hzok.own' id o b k h ha).2.1) (fun id o b k h ha hF=>(hzok.own' id o b k h ha).2.2 (by rw [← hFz]; exact hF)),hzok.tabs.le hle2⟩,hzH,hzβ,hzn,hzS,?_⟩
  ·rw [hFz]; exact hzok.SF b hb
  ·obtain ⟨k1,k2⟩:=hzok.obj id ob hob
   exact ⟨k1,k2.mono hle2 (fun b k hb=>hle.blk b (.inl (.inr ⟨id,ob,k,hob,.inl hb⟩))) fun j b k hb=>hle.blk b (.inl (.inr ⟨id,ob,k,hob,.inr ⟨j,hb⟩⟩))⟩
  ·obtain ⟨k1,k2,k3⟩:=hzok.own id ob b k h1 h2
   exact ⟨Nat.lt_of_lt_of_le k1 hle.size,k2,by rw [hFz]; exact k3⟩
  ·refine YB hzH hzβ hzS hzag fun b hb=>hle.blk b (.inl (hb.imp id ?_))
   grind
theorem D0 {d:Nat} {f:FuncId} {fo:Operand} {xs:Array Operand} {ats:Array TypeId} {caps bs:List AV} {r:AV} {v:Value} (hg:o.guard=none) (hd:o.dst=some d) (hN:Nat.blt d s.N=true)
  (ho:o.op = .call { callee:=.value fo,args:=xs,argTypes:=ats }) (hfo:Ev true s.e fo (.fn f caps)) (hcaps:Du caps=true) (hx:FR true s.e s.h xs.toList bs) (hr:true=true→AX P f (bs++caps) r) (hfl:I0 r=some v)
  (hk:AQ P ops rest { e:=(d,r) :: s.e,h:=s.h,n:=s.n,N:=s.N } K):AQ P ops (o :: rest) s K:=by
 intro y a hok hH hn hsz he Qa hQ
 have hN':d<a.tmps.size:=by simp_all
 refine wpQuiet_step fun K' hK'=>?_
 rw [if_pos (by simp [Region.wanted,hg])]
 refine ⟨v,AQ.call ho hfo hcaps hx hr hfl rfl hok hH he,hK' _ ?_⟩
 rw [hd]
 exact hk y (a.put (some d) v) hok hH hn (by simpa [Act.put] using hsz) (he.put hN' (PA hfl)) Qa fun s' a' k1 k2 k3 k4 k5 k6 k7=>hQ s' a' k1 k2 k3 k4 k5 k6 k7
theorem YS {id:Nat} {l:List Oper} {Q:Exit→St→Prop} (hm:P.follows .mixedOrders=true) (hB:Region.lexB .any l.toArray=true) (h:AQ P l.toArray l s (Q .normal)):AW P (.region id l.toArray true) Q s:=by
 intro z0 hz0 c0 a w ⟨_,hdef,hsz,y,hyw,hle,hok,hH,hn,he⟩
 subst hyw
 have hcc : ∀ w2:World,w2.heap=y.w.heap→w2.os=y.w.os→w2.tape=y.w.tape→w2.output=y.w.output→CC y w2:=by
  intro w2 h1 h2 h3 h4
  have hle2:y.le { y with w:=w2 }:=⟨by rw [h1]; exact Nat.le_refl _,h2,h3,h4,fun b _=>by rw [h1],fun _ h=>h,rfl,Nat.le_refl _,fun id o h _=>⟨o,h,rfl,rfl,rfl⟩,fun id o h hf _ _=>⟨o,h,hf,rfl,rfl,rfl,rfl⟩⟩
  refine ⟨{ y with w:=w2 },rfl,hle2,⟨fun b hb=>by rw [h1]; exact hok.S_lt b hb,fun b hb=>by rw [h1]; exact hok.F_lt b hb,hok.SF,fun id o ho=>?_,fun id o b k k1 k2=>by rw [h1]; exact hok.own id o b k k1 k2,hok.inj,hok.extOf (y:={ y with w:=w2 }) (fun id o h=>⟨o,h⟩) rfl rfl (by rw [h1]; exact Nat.le_refl _) (fun id o b k h ha=>(hok.own' id o b k h ha).2.1) (fun id o b k h ha=>(hok.own' id o b k h ha).2.2),hok.tabs.le hle2⟩,rfl,⟨rfl,rfl⟩,rfl,rfl,fun b _=>by rw [h1]⟩
  obtain ⟨k1,k2⟩:=hok.obj id o ho
  exact ⟨k1,k2.mono hle2 (fun b k _=>by rw [h1]) fun j b k _=>by rw [h1]⟩
 refine Sk Mk (C:=CC y) hm hB hz0 (hcc _ rfl rfl rfl rfl) ?_
 refine h y a hok hH hn hsz he _ fun s' a' k1 k2 k3 k4 k5 k6 k7 w2 ⟨z,hz,hyz,hzok,hzH,_,hzn,_,_⟩=>?_
 subst hz
 exact ⟨by simp,s',k1,_,k6.trans hdef,by rw [k5,k4],z,rfl,hle.trans hyz,hzok,by rw [hzH,hH,k2],by rw [hzn,hn,k3],k7.mono hyz⟩
end
section
variable {P:Program} {c:Bool} {o:Oper} {R:AU} {h:AN} {n:Nat}
theorem X1 {x:Int} (h1 : -9223372036854775808≤x) (h2:x≤9223372036854775807):IntKind.i64.wrap x=x:=by
 rw [IntKind.wrap_i64]; omega
def DO (P:Program) (t:TypeId) (places:List (Nat × Nat)) (z:List Value):Prop:=
 ∃ fs:Array Field,P.underlying t=some (.struct fs)∧(∀ w,(fs.mapM (m:=Sem) fun f=>do pure (f.offset,← sizeOf f.type)).run P w = .ok places.toArray w) ∧ ∃ i,P.info? t=some i∧i.zero=some (.agg z.toArray)
def Lj:List AV→List (Nat × AV)→List AV
 | cs,[]=>cs
 | cs,(off,a) :: r=>Lj (ER cs off (BF a)) r
def NQ (c:Bool) (R:AU) (places:List (Nat × Nat)) (len:Nat):List (Nat × Operand)→List (Nat × AV)→Prop
 | [],[]=>True
 | (i,x) :: r,(off,a) :: q=>places[i]? = some (off,(BF a).length)∧Nat.ble (off+(BF a).length) len=true∧(BF a).all AV.one=true∧Ev c R x a∧NQ c R places len r q
 | _,_=>False
theorem QW {x:Cx} {a:Act} {places:List (Nat × Nat)} (hc:c=true) (he:BN x R a) : ∀ (ps:List (Nat × Operand)) (q:List (Nat × AV)) (us:Array Value) (cs:List AV),us.size=cs.length →
  (∀ (j:Nat) (b:AV) (u:Value),cs[j]? = some b→us[j]? = some u→AR x b u)→NQ c R places cs.length ps q →
  ∃ us',Instr.fill (places[·]?) us (ps.map fun (i,y)=>(i,a.eval y))=some us'∧us'.size=(Lj cs q).length ∧ ∀ (j:Nat) (b:AV) (u:Value),(Lj cs q)[j]? = some b→us'[j]? = some u→AR x b u
 | [],[],us,cs,hl,hcs,_=>⟨us,rfl,hl,hcs⟩
 | [],_ :: _,_,_,_,_,hp=>hp.elim
 | _ :: _,[],_,_,_,_,hp=>hp.elim
 | (i,y) :: ps,(off,b) :: q,us,cs,hl,hcs,hp=>by
  obtain ⟨h1,h2,h3,h4,h5⟩:=hp
  have h2':off+(BF b).length≤cs.length:=Nat.le_of_ble_eq_true h2
  obtain ⟨k1,k2,_⟩:=Jb (h4.rep he hc) (fun d hd=>List.all_eq_true.1 h3 d hd)
  have hsl:(ER cs off (BF b)).length=cs.length:=by simp [ER]; omega
  obtain ⟨f1,f2⟩:=QX off (a.eval y) us (by omega)
  obtain ⟨us',g1,g2,g3⟩:=QW hc he ps q _ (ER cs off (BF b)) (by rw [f1,hl,hsl]) (fun j d u hj hu=>by
   have hsp:=Ib cs (BF b) off j h2'
   unfold ER at hj
   rw [hsp] at hj
   rw [f2] at hu
   rw [k1] at hu
   split at hj
   ·rename_i hcond
    rw [if_pos hcond] at hu
    obtain ⟨u',m1,_,m2⟩:=k2 _ _ hj
    rw [hu] at m1; cases m1; exact m2
   ·rename_i hcond
    rw [if_neg hcond] at hu
    exact hcs j d u hj hu) (by rw [hsl]; exact h5)
  refine ⟨us',?_,g2,g3⟩
  simp only [List.map_cons,Instr.fill,h1]
  rw [if_neg (by simp [k1]; omega)]
  exact g1
theorem DG {t:TypeId} {parts:Array (Nat × Operand)} {places:List (Nat × Nat)} {z:List Value} {q:List (Nat × AV)} {cs:List AV} (ho:o.op = .build t parts) (ht:DO P t places z)
  (hp:NQ c R places z.length parts.toList q) (hcs:Lj (z.map Hf) q=cs):AY P c o R h (.agg cs):=by
 intro hc y a _ _ he
 subst hcs
 obtain ⟨fs,h1,h2,i,h3,h4⟩:=ht
 obtain ⟨us',f1,f2,f3⟩:=QW hc he parts.toList q z.toArray (z.map Hf) (by simp) (fun j b u k1 k2=>by
  have k2':z[j]? = some u:=by simpa using k2
  rw [List.getElem?_map,k2'] at k1
  simp only [Option.map_some,Option.some.injEq] at k1
  subst k1; exact LT y u) (by rw [List.length_map]; exact hp)
 refine ⟨.agg us',fun w2 _=>?_,.agg f2.symm fun j b u k1 k2=>f3 j b u k1 k2⟩
 unfold execOp
 rw [ho]
 simp only [Instr.build,zeroValue,typeInfo,Sem.run_bind,run_program,Result.andThen_ok,h3,Sem.run_pure,h4,run_underlying h1,h2,Value.cells,Array.toList_map]
 have:(fun x:Nat=>places.toArray[x]?)=(places[·]?):=by funext x; simp
 rw [this,f1]
 rfl
end
section
variable {P:Program} {t e:TypeId} {z:Value} {sz b:Nat}
theorem Fo (h:(P.info? t).map (fun i=>(i.zero,i.size,i.bytes))=some (some z,sz,b)) : ∃ i,P.info? t=some i∧i.zero=some z∧i.size=sz∧i.bytes=b:=by
 cases hi:P.info? t with
 | none=>rw [hi] at h; cases h
 | some i=>
  rw [hi] at h
  simp only [Option.map_some,Option.some.injEq,Prod.mk.injEq] at h
  exact ⟨i,rfl,h.1,h.2.1,h.2.2⟩
theorem A7.of (h1:P.underlying t=some (.slice e)) (h2:(P.info? e).map (fun i=>(i.zero,i.size,i.bytes))=some (some z,sz,b)) (h3:z.cells.size=sz) (h4:z.cells.toList.all Value.oneCell'=true) (h5:0<sz):A7 P t e sz b:=by
 obtain ⟨i,k1,k2,k3,k4⟩:=Fo h2
 exact ⟨h1,i,z,k1,k3,k4,k2,h3,fun u hu=>List.all_eq_true.1 h4 u hu,h5⟩
theorem A8.of {d:TypeDesc} (h1:P.underlying t=some d) (h2:Gg d=true) (h3:(P.info? t).map (fun i=>(i.zero,i.size,i.bytes))=some (some z,1,b)):A8 P t:=by
 obtain ⟨i,k1,_,k3,_⟩:=Fo h3
 exact ⟨d,i,h1,h2,k1,k3⟩
theorem BH.of {d:TypeDesc} (h1:P.underlying t=some d) (h2:Gg d=false) (h3:(P.info? t).map (fun i=>(i.zero,i.size,i.bytes))=some (some z,sz,b)):BH P t sz:=by
 obtain ⟨i,k1,_,k3,_⟩:=Fo h3
 exact ⟨d,i,h1,h2,k1,k3⟩
theorem CH (h3:(P.info? t).map (fun i=>(i.zero,i.size,i.bytes))=some (some z,sz,b)) : ∃ i,P.info? t=some i∧i.size=sz:=by
 obtain ⟨i,k1,_,k3,_⟩:=Fo h3
 exact ⟨i,k1,k3⟩
theorem Bx.of (h3:(P.info? t).map (fun i=>(i.zero,i.size,i.bytes))=some (some z,sz,b)):Bx P t z:=by
 obtain ⟨i,k1,k2,_,_⟩:=Fo h3
 exact ⟨i,k1,k2⟩
theorem Fy.of {zrow:List RV} (h3:(P.info? t).map (fun i=>(i.zero,i.size,i.bytes))=some (some z,sz,b)) (h:GZ (F8 z)=some zrow):Fy P t zrow:=by
 obtain ⟨i,k1,k2,_,_⟩:=Fo h3
 exact ⟨i,z,k1,k2,h⟩
theorem Ai.of {fs:Array Field} {fl:Field} {f off:Nat} (h1:P.underlying t=some (.struct fs)) (h2:fs[f]? = some fl) (h3:fl.offset=off) (h4:(P.info? fl.type).map (fun i=>(i.zero,i.size,i.bytes))=some (some z,sz,b)) (h5:sz≠0):Ai P t f off:=by
 obtain ⟨i,k1,_,k3,_⟩:=Fo h4
 exact ⟨fs,fl,i,h1,h2,h3,k1,by rw [k3]; exact h5⟩
theorem DO.of {fs:Array Field} {places:List (Nat × Nat)} {zs:List Value} (h1:P.underlying t=some (.struct fs)) (h2 : ∀ w,(fs.mapM (m:=Sem) fun f=>do pure (f.offset,← sizeOf f.type)).run P w = .ok places.toArray w)
  (h3:(P.info? t).map (fun i=>(i.zero,i.size,i.bytes))=some (some (.agg zs.toArray),sz,b)):DO P t places zs:=by
 obtain ⟨i,k1,k2,_,_⟩:=Fo h3
 exact ⟨fs,h1,h2,i,k1,k2⟩
end
theorem Va {P:Program} {c:Bool} {o:Oper} {R:AU} {h:AN} {α:Type} {t:TypeId} {e:TypeId} {sz:Nat} {x:Operand} {l:List α} {f:α→List RV} (ho:o.op = .call { callee:=.builtin .len,args:=#[x],argTypes:=#[t] }) (ht:Dq P t e sz)
  (hx:Ev c R x (.r (.sl (l.map f)))):AY P c o R h (.r (.int .i64 l.length)):=by
 have:=UF (h:=h) ho ht hx
 rwa [List.length_map] at this
theorem Tg {P:Program} {c:Bool} {o:Oper} {R:AU} {h:AN} {α:Type} {t:TypeId} {e e':TypeId} {sz sz':Nat} {x:Operand} {id g:Nat} {l:List α} {f:α→List RV} (ho:o.op = .call { callee:=.builtin .len,args:=#[x],argTypes:=#[t] })
  (ht:Dq P t e sz) (hx:Ev c R x (.own id g)) (hh:hget h id=some (.arr g e' sz' (l.map f))):AY P c o R h (.r (.int .i64 l.length)):=by
 have:=TQ ho ht hx hh
 rwa [List.length_map] at this
theorem Pq {x:Cx} {b:Bool} {v:Value} (h:AR x (.r (.bool b)) v):v = .bool b:=by
 cases h with
 | r h=>cases h; rfl
theorem QS {P:Program} {c:Bool} {o:Oper} {R:AU} {h:AN} {op:BinOp} {t t':TypeId} {x y:Operand} {m n:Bool} {v:RV} {u:Value} (ho:o.op = .binOp op t x y t') (hx:Ev c R x (.r (.bool m))) (hy:Ev c R y (.r (.bool n)))
  (hr : ∀ w,(binOp op t (.bool m) (.bool n)).run P w = .ok u w) (hu : ∀ w S,Ar w S v u):AY P c o R h (.r v):=by
 intro hc z a _ _ he
 refine ⟨u,fun w2 hag=>?_,.r (hu _ _)⟩
 unfold execOp
 rw [ho]
 simp only [Pq (hx.rep he hc),Pq (hy.rep he hc),eqGuard_at_bool]
 simp [hr]
theorem ST {P:Program} {c:Bool} {o:Oper} {R:AU} {h:AN} {t t':TypeId} {x y:Operand} {m n:Bool} (ho:o.op = .binOp .eql t x y t') (ht:P.underlying t=some .bool) (hx:Ev c R x (.r (.bool m))) (hy:Ev c R y (.r (.bool n))) :
  AY P c o R h (.r (.bool (m == n))):=QS ho hx hy (fun w=>by simp [binOp,run_equal_bool _ t m n ht]) (fun _ _=>.bool _)
theorem Su {P:Program} {c:Bool} {o:Oper} {R:AU} {h:AN} {t t':TypeId} {x y:Operand} {m n:Bool} (ho:o.op = .binOp .neq t x y t') (ht:P.underlying t=some .bool) (hx:Ev c R x (.r (.bool m))) (hy:Ev c R y (.r (.bool n))) :
  AY P c o R h (.r (.bool (!(m == n)))):=QS ho hx hy (fun w=>by simp [binOp,run_equal_bool _ t m n ht]) (fun _ _=>.bool _)
open Go.ChangeShapes Go.WideShapes Go.Deep Go.WideElems
def Eh (W:World):Cx:={ w:=W,S:=fun b=>b<W.heap.size,F:=fun _=>False,H:=fun _=>none,β:=fun _=>none,K:=fun _ _=>none,n:=0 }
theorem YV (W:World) (ht:EK (Eh W)):(Eh W).ok:=
 ⟨fun _ h=>h,fun _ h=>h.elim,fun _ _ h=>h,(fun _ _ h=>by cases h),(fun _ _ _ _ h=>by cases h),(fun _ _ _ _ _ _ _ h=>by cases h),(fun _ _ _ _ _ h=>by cases h),ht⟩
theorem N6 {W:World} {y:Cx} (h:(Eh W).le y) {b:Nat} (hb:b<W.heap.size):y.w.heap[b]? = W.heap[b]?:=h.blk b (.inl hb)
section
variable {H:Type} {enc:TypeId × Value→H} {P:Program} {W:World}
def I6 (W:World) (cs:List Value) (rs:List RV):Prop:=
 cs.length=rs.length ∧ ∀ (j:Nat) (d:RV) (u:Value),rs[j]? = some d→cs[j]? = some u→Ar W (· < W.heap.size) d u
theorem I6.one {d:RV} {u:Value} (h:Ar W (· < W.heap.size) d u):I6 W [u] [d]:=by
 refine ⟨rfl,fun j d' u' h1 h2=>?_⟩
 cases j with
 | zero=>simp at h1 h2; subst h1; subst h2; exact h
 | succ j=>simp at h1
theorem NC {α:Type} {Q:Nat→α→Prop} (n:Nat) (h : ∀ i,i<n → ∃ b,Q i b) : ∃ l:List α,l.length=n ∧ ∀ i b,l[i]? = some b→Q i b:=by
 induction n with
 | zero=>exact ⟨[],rfl,fun i b h=>by simp at h⟩
 | succ k ih=>
  obtain ⟨l,h1,h3⟩:=ih (fun i hi=>h i (by omega))
  obtain ⟨b,h4⟩:=h k (by omega)
  refine ⟨l++[b],by simp [h1],fun i b' hb'=>?_⟩
  rcases Nat.lt_or_ge i l.length with hil | hil
  ·rw [List.getElem?_append_left hil] at hb'; exact h3 i b' hb'
  ·rw [List.getElem?_append_right hil] at hb'
   have:i=l.length:=by
    have:=(List.getElem?_eq_some_iff.1 hb').1
    simp at this; omega
   subst this
   simp at hb'; subst hb'
   rw [h1]; exact h4
theorem OW (hl:laidOutB P=true) {W':World} {sp':Nat→Bool} : ∀ {ts:List TypeId} {vs:List Value} {ds:List (DataW H)} {ps:List MemPlace},(∀ t∈ts,P.readableRec t=true∧t<P.types.size) →
  DataW.TrodAll enc P W 0 (fun _=>true) true ts vs ds ps→(∀ p∈ps,W.sameAt W' p)→(∀ p∈ps,sp' p.block=true)→DataW.TrodAll enc P W' 0 sp' true ts vs ds ps
 | [],[],[],_,_,h,_,_=>h
 | t :: _,_ :: _,_ :: _,_,hT,⟨p,q,h1,h2,e⟩,hs,hsp=>
  ⟨p,q,Trod_stays hl (hT t (List.mem_cons.2 (.inl rfl))).1 (hT t (List.mem_cons.2 (.inl rfl))).2 h1 (fun x hx=>hs x (by rw [e]; exact List.mem_append_left _ hx)) (fun x hx=>hsp x (by rw [e]; exact List.mem_append_left _ hx)),
   OW hl (fun t ht=>hT t (List.mem_cons.2 (.inr ht))) h2 (fun x hx=>hs x (by rw [e]; exact List.mem_append_right _ hx)) (fun x hx=>hsp x (by rw [e]; exact List.mem_append_right _ hx)),e⟩
theorem VD {y:Cx} (h:(Eh W).le y) {p:MemPlace} (hp:p.block<W.heap.size):W.sameAt y.w p:=by
 cases p with
 | cell b off=>exact World.cell?_of_block (N6 h hp)
 | map b=>exact N6 h hp
theorem XX {y:Cx} (h:(Eh W).le y) (may:MemPlace→Prop):W.keptBut y.w may:=by
 refine ⟨h.os,h.output,fun i hi=>?_⟩
 have:=(World.keptBut_refl W may).2.2 i hi
 rw [N6 h hi]
 exact this
theorem U3 {f:Func} {s:ChangeSpec} {args:Array Value} {v:Value} {ds gs:List (DataW H)} {before:List MemPlace} {y:Cx} (hl:laidOutB P=true) (hts : ∀ t∈f.params.toList,P.readableRec t=true∧t<P.types.size) (hsv:s.vars=[])
  (hW:DataW.Whole enc P f.params.toList s.vars false W args.toList ds gs before) (hle:(Eh W).le y) (hargs:(s.fn H (ds++gs)).args=ds) (hvars:(s.fn H (ds++gs)).vars=[])
  (hres : ∀ (b:Nat) (sp:Nat→Bool) (hd:Bool),DataW.TrodAll enc P y.w b sp hd f.resultTypes.toList (v.resultList f.resultTypes.size) (s.fn H (ds++gs)).results []):s.post enc P f false true false false W args v y.w:=by
 have hW':=hW
 obtain ⟨p,q,hA,hV,rfl,_,_⟩:=hW
 rw [hsv] at hV
 obtain ⟨rfl,rfl⟩:=trodVars_none hV
 have hlt : ∀ x∈p,x.block<W.heap.size:=DataW.TrodAll.lt hA
 refine ⟨ds,[],p++[],[],p,[],hW',hres _ _ _,?_,?_,XX hle _,fun h=>by cases h⟩
 ·rw [hargs]
  exact OW hl hts hA (fun x hx=>VD hle (hlt x hx)) (fun x hx=>by simpa using hlt x hx)
 ·rw [hsv,hvars]; rfl
end
end Go.Proofs.YtioekebmplhlmaaGreatDoor.Al

namespace Go.Proofs.YtioekebmplhlmaaGreatDoor.Al
def BP (L:List Nat) (i:Nat):Nat:=L.getD (i-1000) 0
mutual
def ren (L:List Nat):AV→AV
 | .own id g=>.own (BP L id) g
 | .pre id g k=>.pre (BP L id) g k
 | .ptr id g i k=>.ptr (BP L id) g i k
 | .mref id g=>.mref (BP L id) g
 | .yld id g=>.yld (BP L id) g
 | .full xs=>.full xs
 | .pk id g ve j k=>.pk (BP L id) g ve j k
 | .fo id g ve key=>.fo (BP L id) g ve key
 | .agg cs=>.agg (Cv L cs)
 | .tup cs=>.tup (Cv L cs)
 | .fn f cs=>.fn f (Cv L cs)
 | .r d=>.r d
 | .rop row k=>.rop row k
 | .cst v=>.cst v
 | .whn b v=>.whn b v
 | .ifc b=>.ifc b
 | .any=>.any
def Cv (L:List Nat):List AV→List AV
 | []=>[]
 | a :: l=>ren L a :: Cv L l
end
mutual
def AV.canon (k:Nat):AV→Bool
 | .own id _=>Nat.ble 1000 id && Nat.blt id (1000+k)
 | .pre id _ _=>Nat.ble 1000 id && Nat.blt id (1000+k)
 | .ptr id _ _ _=>Nat.ble 1000 id && Nat.blt id (1000+k)
 | .agg cs=>ED k cs
 | .tup cs=>ED k cs
 | .fn _ cs=>ED k cs
 | .whn _ _=>false
 | .ifc _=>true
 | .mref id _=>Nat.ble 1000 id && Nat.blt id (1000+k)
 | .yld id _=>Nat.ble 1000 id && Nat.blt id (1000+k)
 | .pk id _ _ _ _=>Nat.ble 1000 id && Nat.blt id (1000+k)
 | .fo id _ _ _=>Nat.ble 1000 id && Nat.blt id (1000+k)
 | .full _=>false
 | .r _=>true
 | .rop _ _=>true
 | .cst _=>true
 | .any=>true
def ED (k:Nat):List AV→Bool
 | []=>true
 | a :: l=>a.canon k && ED k l
end
def AT.ren (L:List Nat):AT→AT
 | .arr g e sz xs=>.arr g e sz xs
 | .box g e cs=>.box g e (Cv L cs)
 | .hot g e xs k id g'=>.hot g e xs k id g'
 | .it g s pos=>.it g s pos
 | .mp g ks vs clock=>.mp g ks vs clock
 | .mi g mid mg since seen last=>.mi g mid mg since seen last
 | .lp g e N ps a b st p=>.lp g e N ps a b st p
 | .md g l=>.md g l
 | .mb g v e l=>.mb g v e l
 | .mr g v e sz hole l=>.mr g v e sz hole l
 | .mj g mid mg len seen=>.mj g mid mg len seen
 | .cal g W ys=>.cal g W ys
 | .rr g e sz col e2 sz2 hole xs=>.rr g e sz col e2 sz2 hole xs
 | .avr g e xs=>.avr g e xs
 | .fam g v c e l=>.fam g v c e l
 | .ml g bs=>.ml g bs
def AT.canon (k:Nat):AT→Bool
 | .arr _ _ _ _=>true
 | .box _ _ cs=>ED k cs
 | .hot _ _ _ _ _ _=>false
 | .it _ _ _=>false
 | .mp _ _ _ _=>false
 | .mi _ _ _ _ _ _=>false
 | .lp _ _ _ _ _ _ _ _=>false
 | .md _ _=>true
 | .mb _ _ _ _=>true
 | .mr _ _ _ _ _ _=>true
 | .mj _ _ _ _ _=>false
 | .cal _ _ _=>true
 | .rr _ _ _ _ _ _ hole _=>hole.isNone
 | .avr _ _ _=>false
 | .fam _ _ _ _ _=>true
 | .ml _ _=>false
theorem E5 (L:List Nat) (l:List AV):(Cv L l).length=l.length:=by
 induction l with
 | nil=>rfl
 | cons a l ih=>simp [Cv,ih]
theorem Fc (L:List Nat) (l:List AV) (i:Nat):(Cv L l)[i]? = (l[i]?).map (ren L):=by
 induction l generalizing i with
 | nil=>simp [Cv]
 | cons a l ih=>cases i with
  | zero=>simp [Cv]
  | succ i=>simp [Cv,ih]
theorem FG {k:Nat} {cs:List AV} (h:ED k cs=true) {i:Nat} {a:AV} (hi:cs[i]? = some a):a.canon k=true:=by
 induction cs generalizing i with
 | nil=>simp at hi
 | cons b l ih=>
  simp only [ED,Bool.and_eq_true] at h
  cases i with
  | zero=>simp at hi; subst hi; exact h.1
  | succ i=>exact ih h.2 (by simpa using hi)
theorem E6 (L:List Nat) (o:AT):(o.ren L).gen=o.gen:=by cases o <;> rfl
theorem K0 (L:List Nat) (o:AT):(o.ren L).shape=o.shape:=by cases o <;> simp [AT.ren,AT.shape,E5]
def HR (x:Cx) (i:Nat) (y:Cx) (j:Nat):Prop:=∀ o,x.H i=some o → ∃ o2,y.H j=some o2∧o2.gen=o.gen∧o2.shape=o.shape∧y.β j=x.β i∧(o.isFam=true→o2.isFam=true∧o2.ver=o.ver∧o2.kshape=o.kshape∧y.K j=x.K i)
theorem PP {x y:Cx} {L:List Nat} {k:Nat} (hw:y.w=x.w) (hS : ∀ b,x.S b→y.S b) (hn:x.n≤y.n) (hH : ∀ id,1000≤id→id<1000+k→HR y (BP L id) x id) {a:AV} {v:Value} (hv:AR x a v) (ha:a.canon k=true) :
  AR y (ren L a) v:=by
 have hb : ∀ b,x.S b→y.w.heap[b]? = x.w.heap[b]?:=fun _ _=>by rw [hw]
 induction hv with
 | r h=>exact .r (h.mono hb hS)
 | cst v=>exact .cst v
 | any v=>exact .any v
 | rop u h1 h2 h3=>exact .rop u (fun h=>hS _ (h1 h)) (fun j d hj=>by rw [hw]; exact h2 j d hj) (fun j d hj=>(h3 j d hj).mono hb hS)
 | agg hl _ ih=>
  simp only [AV.canon] at ha
  refine .agg (by rw [E5]; exact hl) fun i c u h1 h2=>?_
  rw [Fc,Option.map_eq_some_iff] at h1
  obtain ⟨c0,h3,rfl⟩:=h1
  exact ih i c0 u h3 h2 (FG ha h3)
 | tup hl _ ih=>
  simp only [AV.canon] at ha
  refine .tup (by rw [E5]; exact hl) fun i c u h1 h2=>?_
  rw [Fc,Option.map_eq_some_iff] at h1
  obtain ⟨c0,h3,rfl⟩:=h1
  exact ih i c0 u h3 h2 (FG ha h3)
 | fn hl _ ih=>
  simp only [AV.canon] at ha
  refine .fn (by rw [E5]; exact hl) fun i c u h1 h2=>?_
  rw [Fc,Option.map_eq_some_iff] at h1
  obtain ⟨c0,h3,rfl⟩:=h1
  exact ih i c0 u h3 h2 (FG ha h3)
 | own hg h1 ho=>
  simp only [AV.canon,Bool.and_eq_true,Nat.ble_eq,Nat.blt_eq] at ha
  refine .own (Nat.lt_of_lt_of_le hg hn) h1 fun o hoo hgen=>?_
  obtain ⟨o2,k1,k2,k3,k4,_⟩:=hH _ ha.1 ha.2 o hoo
  rw [← k4,← k3]
  exact ho o2 k1 (k2.trans hgen)
 | pre hg h1 ho=>
  simp only [AV.canon,Bool.and_eq_true,Nat.ble_eq,Nat.blt_eq] at ha
  refine .pre (Nat.lt_of_lt_of_le hg hn) h1 fun o hoo hgen=>?_
  obtain ⟨o2,k1,k2,k3,k4,_⟩:=hH _ ha.1 ha.2 o hoo
  rw [← k4,← k3]
  exact ho o2 k1 (k2.trans hgen)
 | ptr hg h1 ho=>
  simp only [AV.canon,Bool.and_eq_true,Nat.ble_eq,Nat.blt_eq] at ha
  refine .ptr (Nat.lt_of_lt_of_le hg hn) h1 fun o hoo hgen=>?_
  obtain ⟨o2,k1,k2,k3,k4,_⟩:=hH _ ha.1 ha.2 o hoo
  rw [← k4,← k3]
  exact ho o2 k1 (k2.trans hgen)
 | whn _ _ _=>simp [AV.canon] at ha
 | ifc h1 h h2=>exact .ifc h1 h h2
 | mref hg h1 ho=>
  simp only [AV.canon,Bool.and_eq_true,Nat.ble_eq,Nat.blt_eq] at ha
  refine .mref (Nat.lt_of_lt_of_le hg hn) h1 fun o hoo hgen=>?_
  obtain ⟨o2,k1,k2,k3,k4,_⟩:=hH _ ha.1 ha.2 o hoo
  rw [← k4]
  exact ho o2 k1 (k2.trans hgen)
 | yld hg h1 ho=>
  simp only [AV.canon,Bool.and_eq_true,Nat.ble_eq,Nat.blt_eq] at ha
  refine .yld (Nat.lt_of_lt_of_le hg hn) h1 fun o hoo hgen=>?_
  obtain ⟨o2,k1,k2,k3,k4,_⟩:=hH _ ha.1 ha.2 o hoo
  rw [← k4]
  exact ho o2 k1 (k2.trans hgen)
 | pk hg hv h1 ho=>
  simp only [AV.canon,Bool.and_eq_true,Nat.ble_eq,Nat.blt_eq] at ha
  refine .pk (Nat.lt_of_lt_of_le hg hn) (Nat.lt_of_lt_of_le hv hn) h1 fun o b c q m hoo hf hgen hver hm hp=>?_
  obtain ⟨o2,k1,k2,k3,k4,k5⟩:=hH _ ha.1 ha.2 o hoo
  obtain ⟨e1,e2,e3,e4⟩:=k5 hf
  exact ho o2 b c q m k1 e1 (k2.trans hgen) (e2.trans hver) (by rw [e3]; exact hm) (by rw [e4]; exact hp)
 | fo hg hv h1 ho=>
  simp only [AV.canon,Bool.and_eq_true,Nat.ble_eq,Nat.blt_eq] at ha
  refine .fo (Nat.lt_of_lt_of_le hg hn) (Nat.lt_of_lt_of_le hv hn) h1 fun o hoo hf hgen hver=>?_
  obtain ⟨o2,k1,k2,k3,k4,k5⟩:=hH _ ha.1 ha.2 o hoo
  obtain ⟨e1,e2,e3,e4⟩:=k5 hf
  have:=ho o2 k1 e1 (k2.trans hgen) (e2.trans hver)
  rw [e3,e4] at this
  exact this
 | full _ _=>simp [AV.canon] at ha
theorem Oq {x y:Cx} {L:List Nat} {k:Nat} (hw:y.w=x.w) (hS : ∀ b,x.S b→y.S b) (hn:x.n≤y.n) (hH : ∀ id,1000≤id→id<1000+k→HR y id x (BP L id)) {b:AV} {v:Value} (hv:AR x b v) :
  ∀ a:AV,ren L a=b→a.canon k=true→AR y a v:=by
 have hb : ∀ b,x.S b→y.w.heap[b]? = x.w.heap[b]?:=fun _ _=>by rw [hw]
 induction hv with
 | r h=>intro a he ha; cases a <;> simp only [ren,reduceCtorEq] at he <;> cases he; exact .r (h.mono hb hS)
 | cst v=>intro a he ha; cases a <;> simp only [ren,reduceCtorEq] at he <;> cases he; exact .cst v
 | any v=>intro a he ha; cases a <;> simp only [ren,reduceCtorEq] at he; exact .any v
 | rop u h1 h2 h3=>
  intro a he ha; cases a <;> simp only [ren,reduceCtorEq] at he <;> cases he
  exact .rop u (fun h=>hS _ (h1 h)) (fun j d hj=>by rw [hw]; exact h2 j d hj) (fun j d hj=>(h3 j d hj).mono hb hS)
 | agg hl _ ih=>
  intro a he ha; cases a <;> simp only [ren,reduceCtorEq] at he <;> cases he
  rename_i cs
  simp only [AV.canon] at ha
  rw [E5] at hl
  exact .agg hl fun i c u h1 h2=>ih i _ u (by rw [Fc,h1]; rfl) h2 c rfl (FG ha h1)
 | tup hl _ ih=>
  intro a he ha; cases a <;> simp only [ren,reduceCtorEq] at he <;> cases he
  rename_i cs
  simp only [AV.canon] at ha
  rw [E5] at hl
  exact .tup hl fun i c u h1 h2=>ih i _ u (by rw [Fc,h1]; rfl) h2 c rfl (FG ha h1)
 | fn hl _ ih=>
  intro a he ha; cases a <;> simp only [ren,reduceCtorEq] at he <;> cases he
  rename_i cs
  simp only [AV.canon] at ha
  rw [E5] at hl
  exact .fn hl fun i c u h1 h2=>ih i _ u (by rw [Fc,h1]; rfl) h2 c rfl (FG ha h1)
 | own hg h1 ho=>
  intro a he ha; cases a <;> simp only [ren,reduceCtorEq] at he <;> cases he
  simp only [AV.canon,Bool.and_eq_true,Nat.ble_eq,Nat.blt_eq] at ha
  refine .own (Nat.lt_of_lt_of_le hg hn) h1 fun o hoo hgen=>?_
  obtain ⟨o2,k1,k2,k3,k4,_⟩:=hH _ ha.1 ha.2 o hoo
  rw [← k4,← k3]
  exact ho o2 k1 (k2.trans hgen)
 | pre hg h1 ho=>
  intro a he ha; cases a <;> simp only [ren,reduceCtorEq] at he <;> cases he
  simp only [AV.canon,Bool.and_eq_true,Nat.ble_eq,Nat.blt_eq] at ha
  refine .pre (Nat.lt_of_lt_of_le hg hn) h1 fun o hoo hgen=>?_
  obtain ⟨o2,k1,k2,k3,k4,_⟩:=hH _ ha.1 ha.2 o hoo
  rw [← k4,← k3]
  exact ho o2 k1 (k2.trans hgen)
 | ptr hg h1 ho=>
  intro a he ha; cases a <;> simp only [ren,reduceCtorEq] at he <;> cases he
  simp only [AV.canon,Bool.and_eq_true,Nat.ble_eq,Nat.blt_eq] at ha
  refine .ptr (Nat.lt_of_lt_of_le hg hn) h1 fun o hoo hgen=>?_
  obtain ⟨o2,k1,k2,k3,k4,_⟩:=hH _ ha.1 ha.2 o hoo
  rw [← k4,← k3]
  exact ho o2 k1 (k2.trans hgen)
 | whn _ _ _=>intro a he ha; cases a <;> simp only [ren,reduceCtorEq] at he <;> cases he; simp [AV.canon] at ha
 | ifc h1 h h2=>intro a he ha; cases a <;> simp only [ren,reduceCtorEq] at he <;> cases he; exact .ifc h1 h h2
 | mref hg h1 ho=>
  intro a he ha; cases a <;> simp only [ren,reduceCtorEq] at he <;> cases he
  simp only [AV.canon,Bool.and_eq_true,Nat.ble_eq,Nat.blt_eq] at ha
  refine .mref (Nat.lt_of_lt_of_le hg hn) h1 fun o hoo hgen=>?_
  obtain ⟨o2,k1,k2,k3,k4,_⟩:=hH _ ha.1 ha.2 o hoo
  rw [← k4]
  exact ho o2 k1 (k2.trans hgen)
 | yld hg h1 ho=>
  intro a he ha; cases a <;> simp only [ren,reduceCtorEq] at he <;> cases he
  simp only [AV.canon,Bool.and_eq_true,Nat.ble_eq,Nat.blt_eq] at ha
  refine .yld (Nat.lt_of_lt_of_le hg hn) h1 fun o hoo hgen=>?_
  obtain ⟨o2,k1,k2,k3,k4,_⟩:=hH _ ha.1 ha.2 o hoo
  rw [← k4]
  exact ho o2 k1 (k2.trans hgen)
 | pk hg hv h1 ho=>
  intro a he ha; cases a <;> simp only [ren,reduceCtorEq] at he <;> cases he
  simp only [AV.canon,Bool.and_eq_true,Nat.ble_eq,Nat.blt_eq] at ha
  refine .pk (Nat.lt_of_lt_of_le hg hn) (Nat.lt_of_lt_of_le hv hn) h1 fun o b c q m hoo hf hgen hver hm hp=>?_
  obtain ⟨o2,k1,k2,k3,k4,k5⟩:=hH _ ha.1 ha.2 o hoo
  obtain ⟨e1,e2,e3,e4⟩:=k5 hf
  exact ho o2 b c q m k1 e1 (k2.trans hgen) (e2.trans hver) (by rw [e3]; exact hm) (by rw [e4]; exact hp)
 | fo hg hv h1 ho=>
  intro a he ha; cases a <;> simp only [ren,reduceCtorEq] at he <;> cases he
  simp only [AV.canon,Bool.and_eq_true,Nat.ble_eq,Nat.blt_eq] at ha
  refine .fo (Nat.lt_of_lt_of_le hg hn) (Nat.lt_of_lt_of_le hv hn) h1 fun o hoo hf hgen hver=>?_
  obtain ⟨o2,k1,k2,k3,k4,k5⟩:=hH _ ha.1 ha.2 o hoo
  obtain ⟨e1,e2,e3,e4⟩:=k5 hf
  have:=ho o2 k1 e1 (k2.trans hgen) (e2.trans hver)
  rw [e3,e4] at this
  exact this
 | full _ _=>intro a he ha; cases a <;> simp only [ren,reduceCtorEq] at he <;> cases he; simp [AV.canon] at ha
def EM (h:AN) (L:List Nat):AN→Prop
 | []=>True
 | (id,some o) :: r=>(Nat.ble 1000 id && Nat.blt id (1000+L.length))=true∧hget h (BP L id)=some (o.ren L)∧o.canon L.length=true∧EM h L r
 | (_,none) :: _=>False
theorem EM.get {h:AN} {L:List Nat} {hc:AN} (hs:EM h L hc) {id:Nat} {o:AT} (ho:hget hc id=some o):1000≤id∧id<1000+L.length∧hget h (BP L id)=some (o.ren L)∧o.canon L.length=true:=by
 induction hc with
 | nil=>cases ho
 | cons p r ih=>
  obtain ⟨d,v⟩:=p
  rw [Bb] at ho
  cases v with
  | none=>exact hs.elim
  | some o1=>
   obtain ⟨h1,h2,h3,h4⟩:=hs
   split at ho
   ·rename_i hd; subst hd; cases ho
    simp only [Bool.and_eq_true,Nat.ble_eq,Nat.blt_eq] at h1
    exact ⟨h1.1,h1.2,h2,h3⟩
   ·exact ih h4 ho
def FT (k:Nat):AN→Bool
 | []=>true
 | (id,some o) :: r=>Nat.ble 1000 id && Nat.blt id (1000+k) && o.canon k && FT k r
 | (_,none) :: r=>FT k r
theorem Vx {k:Nat} {h:AN} (hs:FT k h=true) {id:Nat} {o:AT} (ho:hget h id=some o):1000≤id∧id<1000+k∧o.canon k=true:=by
 induction h with
 | nil=>cases ho
 | cons p r ih=>
  obtain ⟨d,v⟩:=p
  rw [Bb] at ho
  cases v with
  | none=>
   split at ho
   ·cases ho
   ·exact ih hs ho
  | some o1=>
   simp only [FT,Bool.and_eq_true,Nat.ble_eq,Nat.blt_eq] at hs
   split at ho
   ·rename_i hd; subst hd; cases ho; exact ⟨hs.1.1.1,hs.1.1.2,hs.1.2⟩
   ·exact ih hs.2 ho
def A1 (P:Program) (f:FuncId) (k:Nat) (args:List AV) (h:AN) (Post:AV→AN→Prop):Prop:=
 KB P f ∧ ∀ (x:Cx) (vs:Array Value),x.ok→x.H=hget h→G7 x args vs.toList →
  Calls P f vs x.w fun e w'=>∃ u y r h',e = .returned u∧y.w=w'∧x.le y∧y.ok∧y.H=hget h'∧AR y r u∧r.canon k=true∧FT k h'=true∧Post r h'
def DM (L:List Nat) (hc:AN):Nat→List Nat→AN
 | _,[]=>[]
 | j,id :: r=>(id,(hget hc j).map (AT.ren L)) :: DM L hc (j+1) r
theorem Pr (L:List Nat) (hc h:AN) (M:List Nat) : ∀ (j i:Nat),hget (DM L hc j M++h) i=if i∈M then (hget hc (j+M.idxOf i)).map (AT.ren L) else hget h i:=by
 induction M with
 | nil=>intro j i; simp [DM]
 | cons m M ih=>
  intro j i
  simp only [DM,List.cons_append,Bb,List.mem_cons]
  by_cases hi:m=i
  ·subst hi; simp
  ·rw [if_neg hi,ih]
   have hi' : ¬ i=m:=fun e=>hi e.symm
   simp only [hi',false_or]
   split
   ·rw [List.idxOf_cons,show (m == i)=false from by simpa using hi,cond_false,show j+1+M.idxOf i=j+(M.idxOf i+1) by omega]
   ·rfl
def CB (L:List Nat) (i:Nat):Nat:=1000+L.idxOf i
theorem Hr {L:List Nat} {i:Nat} (h:i∈L):BP L (CB L i)=i:=by
 have hl:=List.idxOf_lt_length_of_mem h
 simp [BP,CB,List.getD,List.getElem?_eq_getElem hl]
theorem Nv {L:List Nat} {i:Nat} (h1:1000≤i) (h2:i<1000+L.length):BP L i∈L:=by
 have hl:i-1000<L.length:=by omega
 simp only [BP,List.getD,List.getElem?_eq_getElem hl,Option.getD_some]
 exact List.getElem_mem hl
theorem GQ {L:List Nat} (hnd:L.Nodup) {i:Nat} (h1:1000≤i) (h2:i<1000+L.length):CB L (BP L i)=i:=by
 have hl:i-1000<L.length:=by omega
 simp only [BP,List.getD,List.getElem?_eq_getElem hl,Option.getD_some,CB]
 rw [hnd.idxOf_getElem]
 omega
def Cx.view (z:Cx) (L:List Nat) (hc:AN):Cx:=
 { w:=z.w,S:=z.S,F:=fun b=>z.F b ∨ ∃ id o k,id ∉ L∧z.H id=some o∧z.atk id b k,H:=hget hc,β:=fun i=>z.β (BP L i),K:=fun i=>z.K (BP L i),n:=z.n }
theorem Tl {x y:Cx} {L:List Nat} {k:Nat} (hw:y.w=x.w) (hS : ∀ b,x.S b→y.S b) (hn:x.n≤y.n) (hH : ∀ id,1000≤id→id<1000+k→HR y id x (BP L id)) {β:Option (Nat × Nat)} {κ:Nat→Option (Nat × Nat)} {o:AT} (ho:CQ x β κ (o.ren L)) (hc:o.canon k=true):CQ y β κ o:=by
 have hb : ∀ b,x.S b→y.w.heap[b]? = x.w.heap[b]?:=fun _ _=>by rw [hw]
 cases o with
 | arr g e sz xs=>
  obtain ⟨h0,h1,hdr,us,h2,h3,h4⟩:=ho
  exact ⟨h0,h1,hdr,us,h2,by rw [hw]; exact h3,fun i row c d k1 k2=>by obtain ⟨u,k3,k4⟩:=h4 i row c d k1 k2; exact ⟨u,k3,k4.mono hb hS⟩⟩
 | box g e cs=>
  obtain ⟨b,cur,h1,h2,h3,h4⟩:=ho
  refine ⟨b,cur,h1,by rw [hw]; exact h2,by rw [h3,E5],fun j c hj=>?_⟩
  obtain ⟨u,k1,k2,k3⟩:=h4 j (ren L c) (by rw [Fc,hj]; rfl)
  exact ⟨u,k1,k2,Oq hw hS hn hH k3 c rfl (FG hc hj)⟩
 | hot g e xs k id g'=>cases hc
 | it g s pos=>cases hc
 | mp g ks vs clock=>cases hc
 | mi g mid mg since seen last=>cases hc
 | lp g e N ps a b st p=>cases hc
 | md g l=>
  obtain ⟨b,es,h1,h2,h3,h4⟩:=ho
  exact ⟨b,es,h1,by rw [hw]; exact h2,h3,fun j k d hj=>by obtain ⟨m,k1,k2,k3,k4⟩:=h4 j k d hj; exact ⟨m,k1,k2,k3,k4.mono hb hS⟩⟩
 | mb g v e l=>
  obtain ⟨h0,b,es,h1,h2,h3,h4⟩:=ho
  exact ⟨Nat.lt_of_lt_of_le h0 hn,b,es,h1,by rw [hw]; exact h2,h3,fun j k cs hj=>by
   obtain ⟨m,bb,cur,k1,k2,k3,k4,k5,k6,k7,k8⟩:=h4 j k cs hj
   exact ⟨m,bb,cur,k1,k2,k3,k4,k5,by rw [hw]; exact k6,k7,fun i c hi=>by obtain ⟨u,e1,e2,e3⟩:=k8 i c hi; exact ⟨u,e1,e2,e3.mono hb hS⟩⟩⟩
 | mr g v e sz hole l=>
  obtain ⟨h0,hv,b,es,h1,h2,h3,h4⟩:=ho
  exact ⟨h0,Nat.lt_of_lt_of_le hv hn,b,es,h1,by rw [hw]; exact h2,h3,fun j k xs hj=>by
   obtain ⟨hr,bb,cap,us,e1,e3,e4,e5⟩:=h4 j k xs hj
   exact ⟨hr,bb,cap,us,e1,by rw [hw]; exact e3,fun i row c d q1 q2=>by obtain ⟨u,q3,q4⟩:=e4 i row c d q1 q2; exact ⟨u,q3,q4.mono hb hS⟩,e5⟩⟩
 | mj g mid mg len seen=>cases hc
 | avr g e xs=>cases hc
 | ml g bs=>cases hc
 | fam g v co e l=>
  obtain ⟨h0,h1,h3⟩:=ho
  exact ⟨Nat.lt_of_lt_of_le h0 hn,h1,fun j cs hj=>by
   obtain ⟨bb,cur,k2,kc,k3,k4,k5⟩:=h3 j cs hj
   exact ⟨bb,cur,k2,kc,by rw [hw]; exact k3,k4,fun i c hi=>by obtain ⟨u,e1,e2,e3⟩:=k5 i c hi; exact ⟨u,e1,e2,e3.mono hb hS⟩⟩⟩
 | rr g e sz col e2 sz2 hole xs=>
  obtain rfl:hole=none:=by simpa [AT.canon] using hc
  obtain ⟨h0,hdr,us,h1,h2,h3,h4⟩:=ho
  refine ⟨h0,hdr,us,h1,by rw [hw]; exact h2,fun i row c d hc k1 k2=>?_,fun i row hi=>?_⟩
  ·obtain ⟨u,k3,k4⟩:=h3 i row c d hc k1 k2
   exact ⟨u,k3,k4.mono hb hS⟩
  ·obtain ⟨u,k1,⟨_,_,k2,_⟩ | ⟨k3,ys,k4,k5⟩⟩:=h4 i row hi
   ·cases k2
   ·exact ⟨u,k1,.inr ⟨k3,ys,k4,k5.mono hb hS fun _ _ _=>by rw [hw]⟩⟩
 | cal g W ys=>
  obtain ⟨κs,h1,h2,h3,h4,h5⟩:=ho
  exact ⟨κs,h1,h2,by rw [hw]; exact h3,h4,fun c hc=>hS c (h5 c hc)⟩
theorem T6 {x y:Cx} {L:List Nat} {k:Nat} (hw:y.w=x.w) (hS : ∀ b,x.S b→y.S b) (hn:x.n≤y.n) (hH : ∀ id,1000≤id→id<1000+k→HR y (BP L id) x id) {β:Option (Nat × Nat)} {κ:Nat→Option (Nat × Nat)} {o:AT} (ho:CQ x β κ o) (hc:o.canon k=true):CQ y β κ (o.ren L):=by
 have hb : ∀ b,x.S b→y.w.heap[b]? = x.w.heap[b]?:=fun _ _=>by rw [hw]
 cases o with
 | arr g e sz xs=>
  obtain ⟨h0,h1,hdr,us,h2,h3,h4⟩:=ho
  exact ⟨h0,h1,hdr,us,h2,by rw [hw]; exact h3,fun i row c d k1 k2=>by obtain ⟨u,k3,k4⟩:=h4 i row c d k1 k2; exact ⟨u,k3,k4.mono hb hS⟩⟩
 | box g e cs=>
  obtain ⟨b,cur,h1,h2,h3,h4⟩:=ho
  refine ⟨b,cur,h1,by rw [hw]; exact h2,by rw [h3,E5],fun j c hj=>?_⟩
  rw [Fc,Option.map_eq_some_iff] at hj
  obtain ⟨c0,hj,rfl⟩:=hj
  obtain ⟨u,k1,k2,k3⟩:=h4 j c0 hj
  exact ⟨u,k1,k2,PP hw hS hn hH k3 (FG hc hj)⟩
 | hot g e xs k id g'=>cases hc
 | it g s pos=>cases hc
 | mp g ks vs clock=>cases hc
 | mi g mid mg since seen last=>cases hc
 | lp g e N ps a b st p=>cases hc
 | md g l=>
  obtain ⟨b,es,h1,h2,h3,h4⟩:=ho
  exact ⟨b,es,h1,by rw [hw]; exact h2,h3,fun j k d hj=>by obtain ⟨m,k1,k2,k3,k4⟩:=h4 j k d hj; exact ⟨m,k1,k2,k3,k4.mono hb hS⟩⟩
 | mb g v e l=>
  obtain ⟨h0,b,es,h1,h2,h3,h4⟩:=ho
  exact ⟨Nat.lt_of_lt_of_le h0 hn,b,es,h1,by rw [hw]; exact h2,h3,fun j k cs hj=>by
   obtain ⟨m,bb,cur,k1,k2,k3,k4,k5,k6,k7,k8⟩:=h4 j k cs hj
   exact ⟨m,bb,cur,k1,k2,k3,k4,k5,by rw [hw]; exact k6,k7,fun i c hi=>by obtain ⟨u,e1,e2,e3⟩:=k8 i c hi; exact ⟨u,e1,e2,e3.mono hb hS⟩⟩⟩
 | mr g v e sz hole l=>
  obtain ⟨h0,hv,b,es,h1,h2,h3,h4⟩:=ho
  exact ⟨h0,Nat.lt_of_lt_of_le hv hn,b,es,h1,by rw [hw]; exact h2,h3,fun j k xs hj=>by
   obtain ⟨hr,bb,cap,us,e1,e3,e4,e5⟩:=h4 j k xs hj
   exact ⟨hr,bb,cap,us,e1,by rw [hw]; exact e3,fun i row c d q1 q2=>by obtain ⟨u,q3,q4⟩:=e4 i row c d q1 q2; exact ⟨u,q3,q4.mono hb hS⟩,e5⟩⟩
 | mj g mid mg len seen=>cases hc
 | avr g e xs=>cases hc
 | ml g bs=>cases hc
 | fam g v co e l=>
  obtain ⟨h0,h1,h3⟩:=ho
  exact ⟨Nat.lt_of_lt_of_le h0 hn,h1,fun j cs hj=>by
   obtain ⟨bb,cur,k2,kc,k3,k4,k5⟩:=h3 j cs hj
   exact ⟨bb,cur,k2,kc,by rw [hw]; exact k3,k4,fun i c hi=>by obtain ⟨u,e1,e2,e3⟩:=k5 i c hi; exact ⟨u,e1,e2,e3.mono hb hS⟩⟩⟩
 | rr g e sz col e2 sz2 hole xs=>
  obtain rfl:hole=none:=by simpa [AT.canon] using hc
  obtain ⟨h0,hdr,us,h1,h2,h3,h4⟩:=ho
  refine ⟨h0,hdr,us,h1,by rw [hw]; exact h2,fun i row c d hc k1 k2=>?_,fun i row hi=>?_⟩
  ·obtain ⟨u,k3,k4⟩:=h3 i row c d hc k1 k2
   exact ⟨u,k3,k4.mono hb hS⟩
  ·obtain ⟨u,k1,⟨_,_,k2,_⟩ | ⟨k3,ys,k4,k5⟩⟩:=h4 i row hi
   ·cases k2
   ·exact ⟨u,k1,.inr ⟨k3,ys,k4,k5.mono hb hS fun _ _ _=>by rw [hw]⟩⟩
 | cal g W ys=>
  obtain ⟨κs,h1,h2,h3,h4,h5⟩:=ho
  exact ⟨κs,h1,h2,by rw [hw]; exact h3,h4,fun c hc=>hS c (h5 c hc)⟩
theorem RC {z:Cx} {h:AN} {L:List Nat} {hc:AN} (hH:z.H=hget h) (hs:EM h L hc) : ∀ id,1000≤id→id<1000+L.length→HR (z.view L hc) id z (BP L id):=by
 intro id _ _ o ho
 obtain ⟨_,_,h3,_⟩:=hs.get ho
 exact ⟨o.ren L,by rw [hH]; exact h3,E6 L o,K0 L o,rfl,fun hf=>by cases o <;> first | (cases hf; done) | exact ⟨rfl,rfl,rfl,rfl⟩⟩
theorem Wr {z:Cx} {h:AN} {L:List Nat} {hc:AN} (hok:z.ok) (hH:z.H=hget h) (hs:EM h L hc) (hnd:L.Nodup):(z.view L hc).ok:=by
 refine ⟨hok.S_lt,fun b hb=>?_,fun b hb hf=>?_,fun id o ho=>?_,fun id o b k ho hb=>?_,fun id id' o o' b k k' ho ho' hb hb'=>?_,fun id o j b c ho hb=>?_,hok.tabs.same rfl (fun _ h=>h)⟩
 ·rcases hb with hb | ⟨id,o,k,_,h1,h2⟩
  ·exact hok.F_lt b hb
  ·exact (hok.own' id o b k h1 h2).1
 ·rcases hf with hf | ⟨id,o,k,_,h1,h2⟩
  ·exact hok.SF b hb hf
  ·exact (hok.own' id o b k h1 h2).2.1 hb
 ·obtain ⟨h1,h2,h3,h4⟩:=hs.get ho
  obtain ⟨k1,k2⟩:=hok.obj _ _ (by rw [hH]; exact h3)
  exact ⟨by rwa [E6] at k1,Tl (x:=z) (y:=z.view L hc) (k:=L.length) rfl (fun _ h=>h) (Nat.le_refl _) (RC hH hs) k2 h4⟩
 ·obtain ⟨h1,h2,h3,h4⟩:=hs.get ho
  obtain ⟨k1,k2,k3⟩:=hok.own _ _ b k (by rw [hH]; exact h3) hb
  refine ⟨k1,k2,?_⟩
  rintro (hf | ⟨i2,o2,k',hn2,e1,e2⟩)
  ·exact k3 hf
  ·exact hn2 (hok.inj' (by rw [hH]; exact h3) e1 (.inl hb) e2 ▸ Nv h1 h2)
 ·obtain ⟨h1,h2,h3,_⟩:=hs.get ho
  obtain ⟨h1',h2',h3',_⟩:=hs.get ho'
  have:=hok.inj _ _ _ _ b k k' (by rw [hH]; exact h3) (by rw [hH]; exact h3') hb hb'
  rw [← GQ hnd h1 h2,this,GQ hnd h1' h2']
 ·obtain ⟨h1,h2,h3,h4⟩:=hs.get ho
  obtain ⟨k1,k2,k3,k4,k5⟩:=hok.ext (BP L id) _ j b c (by rw [hH]; exact h3) hb
  refine ⟨k1,k2,?_,fun id' o' k ho' hb'=>?_,fun id' o' j' c' ho' hb'=>?_⟩
  ·rintro (hf | ⟨i2,o2,k',hn2,e1,e2⟩)
   ·exact k3 hf
   ·exact hn2 (hok.inj' (by rw [hH]; exact h3) e1 (.inr ⟨j,hb⟩) e2 ▸ Nv h1 h2)
  ·obtain ⟨_,_,h3',_⟩:=hs.get ho'
   exact k4 _ _ k (by rw [hH]; exact h3') hb'
  ·obtain ⟨h1',h2',h3',_⟩:=hs.get ho'
   obtain ⟨e1,e2⟩:=k5 _ _ j' c' (by rw [hH]; exact h3') hb'
   exact ⟨by rw [← GQ hnd h1' h2',e1,GQ hnd h1 h2],e2⟩
def Cx.back (z y:Cx) (L:List Nat) (hc h:AN):Cx:=
 { w:=y.w,S:=y.S,F:=z.F,H:=hget (DM L hc 1000 L++h),β:=fun i=>if i∈L then y.β (CB L i) else z.β i,K:=fun i=>if i∈L then y.K (CB L i) else z.K i,n:=y.n }
theorem Px {z y:Cx} {h hc:AN} {L:List Nat} (hnd:L.Nodup) (hyH:y.H=hget hc) : ∀ id,1000≤id→id<1000+L.length→HR (z.back y L hc h) (BP L id) y id:=by
 intro id h1 h2 o ho
 have hm:=Nv h1 h2
 have ho':hget (DM L hc 1000 L++h) (BP L id)=some o:=ho
 rw [Pr,if_pos hm,show 1000+L.idxOf (BP L id)=CB L (BP L id) from rfl,GQ hnd h1 h2,Option.map_eq_some_iff] at ho'
 obtain ⟨o2,k1,rfl⟩:=ho'
 refine ⟨o2,by rw [hyH]; exact k1,(E6 L o2).symm,(K0 L o2).symm,?_,fun hf=>?_⟩
 ·show y.β id=if BP L id∈L then y.β (CB L (BP L id)) else _
  rw [if_pos hm,GQ hnd h1 h2]
 ·have hK:y.K id=(z.back y L hc h).K (BP L id):=by
   show y.K id=if BP L id∈L then y.K (CB L (BP L id)) else _
   rw [if_pos hm,GQ hnd h1 h2]
  rw [hK]
  cases o2 <;> first | (cases hf; done) | exact ⟨rfl,rfl,rfl,rfl⟩
theorem XV {z y:Cx} {h hc hc':AN} {L:List Nat} (hok:z.ok) (hH:z.H=hget h) (hs:EM h L hc) (hnd:L.Nodup) (hle:(z.view L hc).le y) (hyok:y.ok) (hyH:y.H=hget hc') (hcan:FT L.length hc'=true) :
  z.le (z.back y L hc' h)∧(z.back y L hc' h).ok:=by
 have hyF:y.F=(z.view L hc).F:=hle.F
 have hget' : ∀ i o,hget (DM L hc' 1000 L++h) i=some o→(i∈L ∧ ∃ o2,hget hc' (CB L i)=some o2∧o=o2.ren L)∨(i ∉ L∧hget h i=some o):=by
  intro i o ho
  rw [Pr] at ho
  split at ho
  ·rename_i hi
   rw [Option.map_eq_some_iff] at ho
   obtain ⟨o2,k1,k2⟩:=ho
   exact .inl ⟨hi,o2,k1,k2.symm⟩
  ·rename_i hi; exact .inr ⟨hi,ho⟩
 have hble : ∀ id ob b k,id ∉ L→z.H id=some ob→z.atk id b k→y.F b:=fun id ob b k h1 h2 h3=>by rw [hyF]; exact .inr ⟨id,ob,k,h1,h2,h3⟩
 have hβp : ∀ i,i∈L→(z.back y L hc' h).β i=y.β (CB L i):=fun i hi=>if_pos hi
 have hβn : ∀ i,i ∉ L→(z.back y L hc' h).β i=z.β i:=fun i hi=>if_neg hi
 have hKp : ∀ i,i∈L→(z.back y L hc' h).K i=y.K (CB L i):=fun i hi=>if_pos hi
 have hKn : ∀ i,i ∉ L→(z.back y L hc' h).K i=z.K i:=fun i hi=>if_neg hi
 have hap : ∀ i,i∈L → ∀ b k,(z.back y L hc' h).atk i b k→y.atk (CB L i) b k:=fun i hi b k ha=>by unfold Cx.atk at ha ⊢; rwa [hβp i hi,hKp i hi] at ha
 have han : ∀ i,i ∉ L → ∀ b k,(z.back y L hc' h).atk i b k→z.atk i b k:=fun i hi b k ha=>by unfold Cx.atk at ha ⊢; rwa [hβn i hi,hKn i hi] at ha
 have hle2:z.le (z.back y L hc' h):=by
  refine ⟨hle.size,hle.os,hle.tape,hle.output,fun b hb=>hle.blk b (hb.imp id (fun h=>Or.inl h)),fun b h=>hle.S b h,rfl,hle.n,fun id o' ho' hg=>?_,fun id o' ho' hf hg hv=>?_⟩
  ·rcases hget' id o' ho' with ⟨hi,o2,k1,rfl⟩ | ⟨hi,k1⟩
   ·rw [E6,show (o2.ren L).isCal=o2.isCal from OT (K0 L o2)] at hg
    obtain ⟨o,e1,e2,e3,e4⟩:=hle.H (CB L id) o2 (by rw [hyH]; exact k1) hg
    obtain ⟨_,_,e5,_⟩:=hs.get e1
    rw [Hr hi] at e5
    refine ⟨o.ren L,by rw [hH]; exact e5,by rw [E6,E6]; exact e2,by rw [K0,K0]; exact e3,?_⟩
    rw [hβp id hi,e4]
    show z.β (BP L (CB L id))=z.β id
    rw [Hr hi]
   ·exact ⟨o',by rw [hH]; exact k1,rfl,rfl,hβn id hi⟩
  ·rcases hget' id o' ho' with ⟨hi,o2,k1,rfl⟩ | ⟨hi,k1⟩
   ·rw [E6] at hg
    have hr : ∀ o:AT,(o.ren L).isFam=o.isFam∧(o.ren L).ver=o.ver∧(o.ren L).kshape=o.kshape:=fun o=>by cases o <;> exact ⟨rfl,rfl,rfl⟩
    rw [(hr o2).1] at hf
    rw [(hr o2).2.1] at hv
    obtain ⟨o,e1,e0,e2,e3,e4,e6⟩:=hle.K (CB L id) o2 (by rw [hyH]; exact k1) hf hg hv
    obtain ⟨_,_,e5,_⟩:=hs.get e1
    rw [Hr hi] at e5
    refine ⟨o.ren L,by rw [hH]; exact e5,by rw [(hr o).1]; exact e0,by rw [E6,E6]; exact e2,by rw [(hr o).2.1,(hr o2).2.1]; exact e3,by rw [(hr o).2.2,(hr o2).2.2]; exact e4,?_⟩
    rw [hKp id hi,e6]
    show z.K (BP L (CB L id))=z.K id
    rw [Hr hi]
   ·exact ⟨o',by rw [hH]; exact k1,hf,rfl,rfl,rfl,hKn id hi⟩
 have hinj : ∀ i i' o o' b k k',hget (DM L hc' 1000 L++h) i=some o→hget (DM L hc' 1000 L++h) i'=some o'→(z.back y L hc' h).atk i b k→(z.back y L hc' h).atk i' b k'→i=i':=by
  intro id id' o o' b k k' h1 h1' h2 h2'
  rcases hget' id o h1 with ⟨hi,o2,k1,rfl⟩ | ⟨hi,k1⟩ <;> rcases hget' id' o' h1' with ⟨hi',o2',k1',rfl⟩ | ⟨hi',k1'⟩
  ·have:=hyok.inj' (by rw [hyH]; exact k1) (by rw [hyH]; exact k1') (hap id hi b k h2) (hap id' hi' b k' h2')
   rw [← Hr hi,this,Hr hi']
  ·exact absurd (hble id' o' b k' hi' (by rw [hH]; exact k1') (han id' hi' b k' h2')) (hyok.own' _ _ b k (by rw [hyH]; exact k1) (hap id hi b k h2)).2.2
  ·exact absurd (hble id o b k hi (by rw [hH]; exact k1) (han id hi b k h2)) (hyok.own' _ _ b k' (by rw [hyH]; exact k1') (hap id' hi' b k' h2')).2.2
  ·exact hok.inj' (by rw [hH]; exact k1) (by rw [hH]; exact k1') (han id hi b k h2) (han id' hi' b k' h2')
 have hown : ∀ id ob b k,hget (DM L hc' 1000 L++h) id=some ob→(z.back y L hc' h).atk id b k→b<y.w.heap.size ∧ ¬ y.S b ∧ ¬ z.F b:=by
  intro id ob b k h1 h2
  rcases hget' id ob h1 with ⟨hi,o2,k1,rfl⟩ | ⟨hi,k1⟩
  ·obtain ⟨e1,e2,e3⟩:=hyok.own' (CB L id) o2 b k (by rw [hyH]; exact k1) (hap id hi b k h2)
   exact ⟨e1,e2,fun hf=>e3 (by rw [hyF]; exact .inl hf)⟩
  ·have h2:=han id hi b k h2
   obtain ⟨e1,e2,e3⟩:=hok.own' id ob b k (by rw [hH]; exact k1) h2
   exact ⟨Nat.lt_of_lt_of_le e1 hle.size,fun hs'=>hyok.SF b hs' (hble id ob b k hi (by rw [hH]; exact k1) h2),e3⟩
 refine ⟨hle2,hyok.S_lt,fun b hb=>Nat.lt_of_lt_of_le (hok.F_lt b hb) hle.size,fun b hb hf=>?_,fun id ob hob=>?_,fun id ob b k h1 h2=>hown id ob b k h1 (.inl h2),fun id id' o o' b k k' h1 h1' h2 h2'=>hinj id id' o o' b k k' h1 h1' (.inl h2) (.inl h2'),fun id ob j b c h1 h2=>?_,hok.tabs.le hle2⟩
 ·exact hyok.SF b hb (by rw [hyF]; exact .inl hf)
 ·rcases hget' id ob hob with ⟨hi,o2,k1,rfl⟩ | ⟨hi,k1⟩
  ·obtain ⟨e1,e2⟩:=hyok.obj (CB L id) o2 (by rw [hyH]; exact k1)
   rw [hβp id hi,hKp id hi,E6]
   exact ⟨e1,T6 (x:=y) (y:=z.back y L hc' h) (k:=L.length) rfl (fun _ h=>h) (Nat.le_refl _) (Px hnd hyH) e2 (Vx hcan k1).2.2⟩
  ·obtain ⟨e1,e2⟩:=hok.obj id ob (by rw [hH]; exact k1)
   rw [hβn id hi,hKn id hi]
   exact ⟨Nat.lt_of_lt_of_le e1 hle.n,e2.mono hle2 (fun b k hb=>hle.blk b (.inr (.inr ⟨id,ob,k,hi,by rw [hH]; exact k1,.inl hb⟩))) fun j b k hb=>hle.blk b (.inr (.inr ⟨id,ob,k,hi,by rw [hH]; exact k1,.inr ⟨j,hb⟩⟩))⟩
 ·obtain ⟨e1,e2,e3⟩:=hown id ob b c h1 (.inr ⟨j,h2⟩)
  refine ⟨e1,e2,e3,fun id' o' k h1' h2'=>?_,fun id' o' j' c' h1' h2'=>?_⟩
  ·have:=hinj id id' ob o' b c k h1 h1' (.inr ⟨j,h2⟩) (.inl h2')
   subst this
   rcases hget' id ob h1 with ⟨hi,o2,k1,rfl⟩ | ⟨hi,k1⟩
   ·rw [hKp id hi] at h2; rw [hβp id hi] at h2'
    exact (hyok.ext (CB L id) o2 j b c (by rw [hyH]; exact k1) h2).2.2.2.1 _ o2 k (by rw [hyH]; exact k1) h2'
   ·rw [hKn id hi] at h2; rw [hβn id hi] at h2'
    exact (hok.ext id ob j b c (by rw [hH]; exact k1) h2).2.2.2.1 _ ob k (by rw [hH]; exact k1) h2'
  ·have:=hinj id id' ob o' b c c' h1 h1' (.inr ⟨j,h2⟩) (.inr ⟨j',h2'⟩)
   subst this
   refine ⟨rfl,?_⟩
   rcases hget' id ob h1 with ⟨hi,o2,k1,rfl⟩ | ⟨hi,k1⟩
   ·rw [hKp id hi] at h2 h2'
    exact ((hyok.ext (CB L id) o2 j b c (by rw [hyH]; exact k1) h2).2.2.2.2 _ o2 j' c' (by rw [hyH]; exact k1) h2').2
   ·rw [hKn id hi] at h2 h2'
    exact ((hok.ext id ob j b c (by rw [hH]; exact k1) h2).2.2.2.2 _ ob j' c' (by rw [hH]; exact k1) h2').2
section
variable {P:Program} {ops:Array Oper} {rest:List Oper} {s:St} {K:St→Prop} {o:Oper}
def GD (R:AU) (L:List Nat):List Operand→List AV→Prop
 | [],[]=>True
 | x :: xs,b :: bs=>((Ev true R x (ren L b)∧b.canon L.length=true)∨(Ev true R x (.cst (.slice none 0 0))∧b = .r (.sl [])))∧GD R L xs bs
 | _,_=>False
theorem GD.get {R:AU} {L:List Nat} {xs:List Operand} {bs:List AV} (hx:GD R L xs bs) :
  xs.length=bs.length ∧ ∀ (i:Nat) (b:AV),bs[i]? = some b → ∃ x,xs[i]? = some x∧((Ev true R x (ren L b)∧b.canon L.length=true)∨(Ev true R x (.cst (.slice none 0 0))∧b = .r (.sl []))):=by
 induction xs generalizing bs with
 | nil=>cases bs with | nil=>exact ⟨rfl,by simp⟩ | cons _ _=>exact hx.elim
 | cons x l ih=>
  cases bs with
  | nil=>exact hx.elim
  | cons b m=>
   obtain ⟨h1,h2⟩:=ih hx.2
   refine ⟨by simp [h1],fun i c hi=>?_⟩
   cases i with
   | zero=>simp at hi; subst hi; exact ⟨x,rfl,hx.1⟩
   | succ i=>grind
theorem Ny {f:FuncId} {fo:Operand} {xs:Array Operand} {ats:Array TypeId} {caps bs:List AV} {L:List Nat} {hc:AN} {Post:AV→AN→Prop} {R:AU} {h:AN} {a:Act} {z:Cx}
  (ho:o.op = .call { callee:=.value fo,args:=xs,argTypes:=ats }) (hfo:Ev true R fo (.fn f (Cv L caps))) (hcc:ED L.length caps=true) (hx:GD R L xs.toList bs) (hsh:EM h L hc) (hnd:L.Nodup)
  (hcon:A1 P f L.length (bs++caps) hc Post) (hok:z.ok) (hH:z.H=hget h) (he:BN z R a) (K:Act→World→Prop) (Q:Exit→Act→World→Prop)
  (hK : ∀ (u:Value) (y:Cx) (r:AV) (h':AN),z.le y→y.ok→y.H=hget (DM L h' 1000 L++h)→AR y (ren L r) u→Post r h'→K (a.put o.dst u) y.w):o.wp P a z.w K Q:=by
 obtain ⟨hcall,hcon⟩:=hcon
 obtain ⟨hlen,hget'⟩:=hx.get
 have hv:=hfo.rep he rfl
 generalize hfv:a.eval fo=v at hv
 cases hv with
 | @fn _ _ us hl hall=>
  have hrun:=L9 hcall ho hfv z.w
  rw [E5] at hl
  have hin : ∀ {b:AV} {u:Value},AR z (ren L b) u→b.canon L.length=true→AR (z.view L hc) b u:=fun {b u} h1 h2=>Oq (x:=z) (y:=z.view L hc) (L:=L) (k:=L.length) rfl (fun _ h=>h) (Nat.le_refl _) (RC hH hsh) h1 b rfl h2
  have hargs:G7 (z.view L hc) (bs++caps) (xs.map a.eval++us).toList:=by
   refine ⟨by simp [hl]; simpa using hlen,fun i b u h1 h2=>?_⟩
   have h2':((xs.toList.map a.eval)++us.toList)[i]? = some u:=by grind
   by_cases hi:i<bs.length
   ·rw [List.getElem?_append_left hi] at h1
    obtain ⟨x,k1,k2⟩:=hget' i b h1
    rw [List.getElem?_append_left (by simp at hlen ⊢; omega),List.getElem?_map,k1] at h2'
    simp only [Option.map_some,Option.some.injEq] at h2'
    subst h2'
    rcases k2 with ⟨k2,k3⟩ | ⟨k2,rfl⟩
    ·exact hin (k2.rep he rfl) k3
    ·have:=k2.rep he rfl
     generalize a.eval x=v at this ⊢
     cases this; exact .r .snil
   ·grind [ren,Fc,FG]
  unfold Oper.wp
  rw [hrun]
  refine (hcon (z.view L hc) _ (Wr hok hH hsh hnd) rfl hargs).mono fun e w' ⟨u,y,r,h',he',hyw,hle,hyok,hyH,hyr,hrc,hhc,hpost⟩=>?_
  subst he'
  subst hyw
  obtain ⟨k1,k2⟩:=XV hok hH hsh hnd hle hyok hyH hhc
  exact hK u (z.back y L h' h) r h' k1 k2 rfl (PP (x:=y) (y:=z.back y L h' h) (L:=L) (k:=L.length) rfl (fun _ h=>h) (Nat.le_refl _) (Px hnd hyH) hyr hrc) hpost
theorem YK {d:Nat} {f:FuncId} {fo:Operand} {xs:Array Operand} {ats:Array TypeId} {caps bs:List AV} (L:List Nat) {hc:AN} {Post:AV→AN→Prop} (hg:o.guard=none) (hd:o.dst=some d) (hN:Nat.blt d s.N=true)
  (ho:o.op = .call { callee:=.value fo,args:=xs,argTypes:=ats }) (hfo:Ev true s.e fo (.fn f (Cv L caps))) (hcc:ED L.length caps=true) (hx:GD s.e L xs.toList bs) (hsh:EM s.h L hc) (hnd:L.Nodup)
  (hcon:A1 P f L.length (bs++caps) hc Post)
  (hr : ∀ r h' n',Post r h'→AK P ops rest { e:=(d,ren L r) :: s.e,h:=DM L h' 1000 L++s.h,n:=n',N:=s.N } K):AK P ops (o :: rest) s K:=by
 intro c0 a w ⟨_,hdef,hsz,y,hyw,hle,hok,hH,hn,he⟩ Q hQ
 subst hyw
 refine wpList_plain hg fun K' hK'=>?_
 refine Ny ho hfo hcc hx hsh hnd hcon hok hH he K' Q fun u z r h' hyz hzok hzH hzv hpost=>?_
 refine hK' _ _ ?_
 have hN':d<a.tmps.size:=by simp_all
 rw [hd]
 exact hr r h' z.n hpost c0 (a.put (some d) u) z.w ⟨_,hdef,by simpa [Act.put] using hsz,z,rfl,hle.trans hyz,hzok,hzH,rfl,(he.mono hyz).put hN' hzv⟩ Q hQ
def F2 (P:Program):ResultVar→St→AV→Prop
 | .tmp t,s,r=>get s.e t=r
 | .cell a t,s,r=>(A8 P t ∧ ∃ id g e,get s.e a = .ptr id g 0 0∧hget s.h id=some (.box g e [r])) ∨ ∃ cs,r = .agg cs∧BH P t cs.length ∧ ∃ id g e,get s.e a = .ptr id g 0 0∧hget s.h id=some (.box g e cs)
def KF (P:Program):List ResultVar→St→List AV→Prop
 | [],_,[]=>True
 | x :: l,s,r :: rs=>F2 P x s r∧KF P l s rs
 | _,_,_=>False
def Na (P:Program) (rs:List ResultVar) (s:St) (r:AV):Prop:=match rs with
 | [x]=>F2 P x s r
 | _=>∃ l,r = .tup l∧KF P rs s l
def LO (P:Program) (rs:List ResultVar) (k:Nat) (Post:AV→AN→Prop):Exit→St→Prop
 | .normal,s | .ret,s=>∃ r h',Na P rs s r∧JW h' s.h∧r.canon k=true∧FT k h'=true∧Post r h'
 | _,_=>False
def Ds (tmps:Array Value):ResultVar→Sem Value
 | .tmp t=>pure (tmps.getD t undef)
 | .cell a t=>do loadVar t (← asAddr (tmps.getD a undef))
theorem Ly {fn:Func} {tmps:Array Value} {w:World} (us:List Value) (ht : ∀ (i:Nat) (x:ResultVar),fn.results[i]? = some x → ∃ u,us[i]? = some u∧(Ds tmps x).run P w = .ok u w) (hl:us.length=fn.results.size) :
  (results fn tmps).run P w = .ok (if h:us.toArray.size=1 then us.toArray[0] else .tuple us.toArray) w:=by
 have key : ∀ (rs:List ResultVar) (us:List Value),us.length=rs.length→(∀ (i:Nat) (x:ResultVar),rs[i]? = some x → ∃ u,us[i]? = some u∧(Ds tmps x).run P w = .ok u w) →
   (rs.mapM (m:=Sem) (Ds tmps)).run P w = .ok us w:=by
  intro rs
  induction rs with
  | nil=>simp_all
  | cons x rs ih=>
   intro us hl ht
   cases us with
   | nil=>simp at hl
   | cons u us=>
    obtain ⟨u',h2,h4⟩:=ht 0 x rfl
    simp at h2
    subst h2
    have h3:=ih us (by simpa using hl) (fun i y hy=>by simpa using ht (i+1) y (by simpa using hy))
    simp_all
 have h1:=key fn.results.toList us (by simpa using hl) (fun i x hx=>ht i x (by simpa using hx))
 have h2:(results fn tmps)=(do
   let vs ← fn.results.mapM (m:=Sem) (Ds tmps)
   pure (if h:vs.size=1 then vs[0] else .tuple vs)):=by
  unfold results
  congr 1
 rw [h2,← Array.toArray_toList (xs:=fn.results),List.mapM_toArray]
 simp only [Sem.run_bind,Sem.run_map,h1]
 rfl
theorem F2.rep {y:Cx} (hok:y.ok) {s:St} (hH:y.H=hget s.h) {a:Act} (he:BN y s.e a) {x:ResultVar} {r:AV} (hr:F2 P x s r) : ∃ u,AR y r u∧(Ds a.tmps x).run P y.w = .ok u y.w:=by
 cases x with
 | tmp t=>exact ⟨_,by have:=he t; rwa [show get s.e t=r from hr] at this,rfl⟩
 | cell c t=>
  rcases hr with ⟨ht,id,g,e,h1,h2⟩ | ⟨cs,rfl,ht,id,g,e,h1,h2⟩
  rotate_left
  ·have hHid:y.H id=some (.box g e cs):=by rw [hH]; exact h2
   have h0:=he c
   rw [h1] at h0
   obtain ⟨b,cur,k1,k2,k3,k4,k5⟩:=F5 hok hHid h0
   have hcell : ∀ j,j<cs.length→y.w.cell? ⟨b,0+j,none⟩=some ((fun j=>cur.getD j undef) j):=by
    intro j hj
    have hj':j<cur.size:=by omega
    rw [Nat.zero_add,cell_of_row _ b j cur e _ k3]
    simp [hj']
   refine ⟨.agg ((List.range cs.length).map fun j=>cur.getD j undef).toArray,Gy rfl _ fun j a hj=>?_,?_⟩
   ·obtain ⟨u,h6,_,h7⟩:=k5 _ _ hj
    simp_all
   ·have hrun:=Gd (P:=P) ht (w:=y.w) (b:=b) (k:=0) (fun j=>cur.getD j undef) hcell
    simp only [Ds,k2]
    simpa [asAddr,Instr.loadAt,Instr.sureAddr] using hrun
  have hHid:y.H id=some (.box g e [r]):=by simp_all
  have h0:=he c
  rw [h1] at h0
  obtain ⟨b,cur,k1,k2,k3,k4,k5⟩:=F5 hok hHid h0
  obtain ⟨u,h6,_,h7⟩:=k5 0 r rfl
  refine ⟨u,h7,?_⟩
  obtain ⟨d,i,e1,e2,_,_⟩:=ht
  have hcell:=(cell_of_row _ b 0 cur e _ k3).trans h6
  simp only [Ds,k2]
  simp [asAddr,loadVar,HS e1,e2,hcell]
theorem KF.get {rs:List ResultVar} {s:St} {l:List AV} (h:KF P rs s l):rs.length=l.length ∧ ∀ (i:Nat) (x:ResultVar),rs[i]? = some x → ∃ r,l[i]? = some r∧F2 P x s r:=by
 induction rs generalizing l with
 | nil=>cases l with | nil=>exact ⟨rfl,by simp⟩ | cons _ _=>exact h.elim
 | cons x rs ih=>
  cases l with
  | nil=>exact h.elim
  | cons r l=>
   obtain ⟨h1,h2⟩:=ih h.2
   refine ⟨by simp [h1],fun i y hi=>?_⟩
   cases i with
   | zero=>simp at hi; subst hi; exact ⟨r,rfl,h.1⟩
   | succ i=>grind
theorem TK {fn:Func} {y:Cx} {s:St} {a:Act} {r:AV} (hok:y.ok) (hH:y.H=hget s.h) (he:BN y s.e a) (hq:Na P fn.results.toList s r) : ∃ u,(results fn a.tmps).run P y.w = .ok u y.w∧AR y r u:=by
 by_cases h1:fn.results.toList.length=1
 ·obtain ⟨x0,hx0⟩:=List.length_eq_one_iff.1 h1
  rw [hx0] at hq
  obtain ⟨u,hr,hrun0⟩:=F2.rep (P:=P) hok hH he (show F2 P x0 s r from hq)
  have hrun:=Ly (P:=P) (fn:=fn) (tmps:=a.tmps) (w:=y.w) [u] (fun i x hi=>by
   have hi':fn.results.toList[i]? = some x:=by grind
   grind) (by rw [← Array.length_toList,h1]; rfl)
  grind
 ·have hq' : ∃ l,r = .tup l∧KF P fn.results.toList s l:=by
   revert hq h1
   generalize fn.results.toList=rs
   intro hq h1
   match rs,h1,hq with
   | [],_,hq=>exact hq
   | [_],h1,_=>grind
   | _ :: _ :: _,_,hq=>exact hq
  obtain ⟨l,rfl,hall⟩:=hq'
  obtain ⟨hl,hg⟩:=hall.get
  have hread : ∀ i,i<l.length → ∃ u,∀ x r,fn.results.toList[i]? = some x→l[i]? = some r→AR y r u∧(Ds a.tmps x).run P y.w = .ok u y.w:=by
   intro i hi
   have hi2:i<fn.results.toList.length:=by omega
   obtain ⟨r,h2,h3⟩:=hg i _ (List.getElem?_eq_getElem hi2)
   obtain ⟨u,h4,h5⟩:=F2.rep hok hH he h3
   simp_all
  obtain ⟨us,hul,hut⟩:=NC l.length hread
  have hsz:us.length=fn.results.size:=by grind
  have hrun:=Ly (P:=P) (fn:=fn) (tmps:=a.tmps) (w:=y.w) us (fun i x hi=>by
   have hi':fn.results.toList[i]? = some x:=by grind
   grind) hsz
  have hne : ¬ us.toArray.size=1:=by
   grind
  rw [dif_neg hne] at hrun
  refine ⟨_,hrun,.tup (by rw [List.size_toArray,hul]) fun i c u k1 k2=>?_⟩
  have k3:us[i]? = some u:=by grind
  have hil:i<fn.results.toList.length:=by grind
  exact (hut i u k3 _ c (List.getElem?_eq_getElem hil) k1).1
theorem A1.mk {f : FuncId} {fn : Func} {code : Code} {args : List AV} {k N : Nat} {hc : AN} {Post : AV → AN → Prop} (hf : P.funcs[f]? = some fn) (hb : fn.body = some code) (hname : (fn.name == "runtime.NumGoroutine") = false) (hN : fn.ntmps = N)
  (hlen:args.length≤N) (hw : ∀ n0,AW P code (LO P fn.results.toList k Post) ⟨E4 0 args,hc,n0,N⟩):A1 P f k args hc Post:=by
 refine ⟨⟨fn,hf,by rw [hb]; rfl,hname⟩,fun x vs hok hH hargs=>?_⟩
 have hvl:vs.size=args.length:=by simpa using hargs.1
 have hsim:Bz x ⟨E4 0 args,hc,x.n,N⟩ { tmps:=vs++Array.replicate (fn.ntmps-vs.size) undef,defers:=[] } x.w:=by
  refine ⟨_,rfl,by simp; omega,x,rfl,.refl x,hok,hH,rfl,fun t=>?_⟩
  rcases Oe args 0 t with h1 | ⟨j,a,h1,h2,h3⟩
  ·rw [h1]; exact .any _
  ·rw [h3]
   have hj:j<vs.size:=by grind
   have ht:t=j:=by omega
   subst ht
   have:(vs++Array.replicate (fn.ntmps-vs.size) undef).getD t undef=vs[t]:=by
    simp [Array.getD,hj]
    omega
   rw [this]
   exact hargs.2 t a vs[t] h2 (by simp [hj])
 have fin : ∀ {e:Exit} {a:Act} {y:Cx} {s:St},(∃ r h',Na P fn.results.toList s r∧JW h' s.h∧r.canon k=true∧FT k h'=true∧Post r h')→x.le y→y.ok→y.H=hget s.h→y.n=s.n→BN y s.e a →
   ∃ u,(results fn a.tmps).run P y.w = .ok u y.w ∧ ∃ u' y' r h',Ending.returned u = .returned u'∧y'.w=y.w∧x.le y'∧y'.ok∧y'.H=hget h'∧AR y' r u'∧r.canon k=true∧FT k h'=true∧Post r h':=by
  intro e a y s ⟨r,h',h1,h2,h3,h4,h5⟩ hle hok' hH' _ he
  obtain ⟨u,hrun,hu⟩:=TK (P:=P) hok' hH' he h1
  have hsub : ∀ id o,hget h' id=some o→y.H id=some o:=by
   intro id o ho
   rw [hH']
   rcases h2.get id with e1 | e1
   ·grind
   ·grind
  obtain ⟨k1,k2⟩:=Yc hok' (hget h') hsub y.n (Nat.le_refl _)
  exact ⟨u,hrun,u,{ y with H:=hget h',n:=y.n },r,h',rfl,rfl,hle.trans k1,k2,rfl,hu.mono k1,h3,h4,h5⟩
 refine OZ hf hb hok hsim (hw x.n) fun e s a y hq hle hok' hH' hn' he=>?_
 cases e with
 | normal=>exact ⟨.inl rfl,fin (e:=.normal) hq hle hok' hH' hn' he⟩
 | ret=>exact ⟨.inr rfl,fin (e:=.ret) hq hle hok' hH' hn' he⟩
 | exit id=>exact hq.elim
 | goto l=>exact hq.elim
 | panic ch=>exact hq.elim
 | outgrown=>exact hq.elim
end
section
variable {P:Program} {ops:Array Oper} {rest:List Oper} {s:St} {K:St→Prop} {o:Oper}
theorem OU {y:Cx} (hok:y.ok):y.le { y with w:={ y.w with drawn:=y.w.drawn+1 } } ∧ ({ y with w:={ y.w with drawn:=y.w.drawn+1 } } : Cx).ok:=by
 have hle:y.le { y with w:={ y.w with drawn:=y.w.drawn+1 } }:=⟨Nat.le_refl _,rfl,rfl,rfl,fun _ _=>rfl,fun _ h=>h,rfl,Nat.le_refl _,fun _ o h _=>⟨o,h,rfl,rfl,rfl⟩,fun id o h hf _ _=>⟨o,h,hf,rfl,rfl,rfl,rfl⟩⟩
 refine ⟨hle,hok.S_lt,hok.F_lt,hok.SF,fun id o ho=>?_,hok.own,hok.inj,hok.ext,hok.tabs.le hle⟩
 obtain ⟨k1,k2⟩:=hok.obj id o ho
 exact ⟨k1,k2.mono hle (fun _ _ _=>rfl) fun _ _ _ _=>rfl⟩
end
theorem Mi {s:St} (bid j id:Nat) (e:TypeId) (sz:Nat) {g:Nat} {eb:TypeId} {cs:List AV} (h0:0<sz) (hb:hget s.h bid=some (.box g eb cs)) (hj:cs[j]? = some (.cst (.slice none 0 0))) (hne:id≠bid) :
  Ac s ⟨s.e,(bid,some (.box g eb (cs.set j (.own id s.n)))) :: (id,some (.arr s.n e sz [])) :: s.h,s.n+1,s.N⟩:=by
 intro c0 a w ⟨_,hdef,hsz,y,hyw,hle,hok,hH,hyn,henv⟩
 have hup:=Dz hok id (.arr s.n e sz []) y.w none (y.n+1) (Nat.le_refl _) rfl rfl rfl (fun _ _ _=>rfl) (fun b k hb=>by cases hb) (by omega) (by simp [AT.gen,hyn]) (fun hg=>absurd hg (by simp [AT.gen,hyn]))
  (fun hle=>⟨h0,by simp,.slice none 0 0,[],⟨rfl,rfl⟩,World.ownsRow_nil _ _ _ _,by simp⟩)
 generalize hy1:({ y with H:=fun i=>if id=i then some (.arr s.n e sz []) else y.H i,β:=fun i=>if id=i then none else y.β i,K:=fun i=>if id=i then fun _=>none else y.K i,n:=y.n+1 } : Cx)=y1 at hup
 have hy1H:y1.H=hget ((id,some (.arr s.n e sz [])) :: s.h):=by rw [← hy1]; simp only [hH]; exact CS _ _ _
 have hbid:y1.H bid=some (.box g eb cs):=by rw [hy1H,Bb,if_neg hne]; exact hb
 have By:y1.H id=some (.arr s.n e sz []):=by rw [hy1H,Bb,if_pos rfl]
 have hβid:y1.β id=none:=by rw [← hy1]; simp
 have hy1n:y1.n=s.n+1:=by rw [← hy1]; simp [hyn]
 have hy1w:y1.w=y.w:=by rw [← hy1]
 obtain ⟨hg1,hrep1⟩:=hup.2.obj bid _ hbid
 have hup2:=Dz hup.2 bid (.box g eb (cs.set j (.own id s.n))) y1.w (y1.β bid) y1.n (Nat.le_refl _) rfl rfl rfl (fun _ _ _=>rfl)
  (fun b k hbk=>⟨(hup.2.own bid _ b k hbid hbk).1,.inr ⟨_,k,hbid,hbk⟩⟩) (Nat.le_refl _) hg1 (fun _=>⟨_,hbid,rfl,by simp [AT.shape],rfl⟩)
  (fun hle2=>by
   obtain ⟨b,cur,k1,k2,k3,k4⟩:=hrep1
   refine ⟨b,cur,k1,k2,by rw [k3]; simp,fun i c hi=>?_⟩
   by_cases hij:j=i
   ·subst hij
    obtain ⟨u,e1,e2,e3⟩:=k4 j _ hj
    have hjl:j<cs.length:=(List.getElem?_eq_some_iff.1 hj).1
    rw [List.getElem?_set_self hjl] at hi
    cases hi
    cases e3
    refine ⟨_,e1,e2,.own (by rw [hy1n]; omega) e2 fun o ho _=>?_⟩
    simp only [if_neg (Ne.symm hne)] at ho ⊢
    rw [By] at ho; cases ho
    rw [hβid]
    exact ⟨rfl,rfl⟩
   ·rw [List.getElem?_set_ne hij] at hi
    obtain ⟨u,e1,e2,e3⟩:=k4 i c hi
    exact ⟨u,e1,e2,e3.mono hle2⟩)
 refine ⟨_,hdef,hsz,_,by show y1.w=w; rw [hy1w]; exact hyw,(hle.trans hup.1).trans hup2.1,hup2.2,?_,by show y1.n=s.n+1; exact hy1n,fun t=>((henv t).mono hup.1).mono hup2.1⟩
 simp only [hy1H]
 exact CS _ _ _
def Lb (c:Bool) (R:AU):List Operand→List AV→Prop
 | [],[]=>True
 | x :: xs,b :: bs=>Ev c R x b∧Lb c R xs bs
 | _,_=>False
theorem Lb.rep {c:Bool} {R:AU} {x:Cx} {a:Act} (hc:c=true) (he:BN x R a) {xs:List Operand} {bs:List AV} (h:Lb c R xs bs):bs.length=xs.length ∧ ∀ (i:Nat) (b:AV) (u:Value),bs[i]? = some b→(xs.map a.eval)[i]? = some u→AR x b u:=by
 induction xs generalizing bs with
 | nil=>cases bs with | nil=>exact ⟨rfl,by simp⟩ | cons _ _=>exact h.elim
 | cons y l ih=>
  cases bs with
  | nil=>exact h.elim
  | cons b m=>
   obtain ⟨h1,h2⟩:=ih h.2
   refine ⟨by simp [h1],fun i b' u k1 k2=>?_⟩
   cases i with
   | zero=>simp at k1 k2; subst k1; subst k2; exact h.1.rep he hc
   | succ i=>exact h2 i b' u (by simpa using k1) (by simpa using k2)
theorem Qz {P:Program} {c:Bool} {o:Oper} {R:AU} {h:AN} {f:FuncId} {xs:Array Operand} {bs:List AV} (ho:o.op = .makeFunc (.func f) #[] xs) (hx:Lb c R xs.toList bs):AY P c o R h (.fn f bs):=by
 intro hc y a _ _ he
 obtain ⟨h1,h2⟩:=hx.rep hc he
 refine ⟨.func (.func f) #[] (xs.map a.eval),fun w2 _=>?_,.fn (by simpa using h1) fun i b u k1 k2=>h2 i b u k1 (by simpa using k2)⟩
 unfold execOp
 rw [ho]
 simp [show ∀ W,(Instr.makeFunc (Fn.func f) #[] (xs.map a.eval)).run P W = .ok (.func (.func f) #[] (xs.map a.eval)) W from fun _=>rfl]
section
variable {P:Program} {ops:Array Oper} {rest:List Oper} {s:St} {K:St→Prop} {o:Oper}
inductive CW (R:AU) (ops:Array Oper) (o:Oper):Bool→Prop
 | one {j dj:Nat} {want b:Bool} (hg:o.guard=some (j,want)) (hj:(ops[j]?).bind (·.dst)=some dj) (hb:Av R (.tmp dj) = .r (.bool b)):CW R ops o (b == want)
 | two {j dj:Nat} {want b c1:Bool} (hg:o.guard=some (j,want)) (hj:(ops[j]?).bind (·.dst)=some dj) (hb:Av R (.tmp dj) = .whn c1 (.r (.bool b))):CW R ops o (c1 && (b == want))
theorem Sc {a:Act} {j dj:Nat} {want:Bool} (hg:o.guard=some (j,want)) (hj:(ops[j]?).bind (·.dst)=some dj) (hbv:a.tmps.getD dj undef=undef):Region.wanted o (yielded ops a.tmps)=false:=by
 simp only [Region.wanted,hg,yielded]
 rw [hj]
 simp only [Option.bind_some]
 by_cases hd:dj<a.tmps.size
 ·have:a.tmps[dj]? = some undef:=by
   rw [Array.getElem?_eq_getElem hd]
   simpa [Array.getD,hd] using hbv
  rw [this]; rfl
 ·rw [Array.getElem?_eq_none (Nat.not_lt.1 hd)]; rfl
theorem CW.wanted {c:Bool} {y:Cx} {a:Act} (hG:CW s.e ops o c) (he:BN y s.e a):Region.wanted o (yielded ops a.tmps)=c:=by
 cases hG with
 | @one j dj want b hg hj hb=>
  have h0:=he dj
  rw [show get s.e dj = .r (.bool b) from hb] at h0
  exact RF hg hj (EJ h0)
 | @two j dj want b c1 hg hj hb=>
  have h0:=he dj
  rw [show get s.e dj = .whn c1 (.r (.bool b)) from hb] at h0
  generalize hv:a.tmps.getD dj undef=v at h0
  cases h0 with
  | whn h1 h2=>
   cases c1 with
   | true=>rw [RF hg hj (hv.trans (EJ (h1 rfl)))]; rfl
   | false=>rw [Sc hg hj (hv.trans (h2 rfl))]; rfl
theorem AK.stepW {d:Nat} {c:Bool} {v:AV} (hG:CW s.e ops o c) (hd:o.dst=some d) (hN:Nat.blt d s.N=true) (hs:BC P c o s.e s.h s.n v s.h s.n)
  (hr:AK P ops rest { e:=(d,.whn c v) :: s.e,h:=s.h,n:=s.n,N:=s.N } K):AK P ops (o :: rest) s K:=by
 intro c0 a w ⟨_,hdef,hsz,y,hyw,hle,hok,hH,hn,he⟩ Q hQ
 subst hyw
 have hN':d<a.tmps.size:=by rw [hsz]; exact E7 hN
 refine wpList_step fun K' hK'=>?_
 rw [hG.wanted he]
 split
 ·rename_i hc
  refine hs hc y a hok hH hn he K' Q fun u z hyz hzok hzH hzn hzv=>?_
  refine hK' _ _ ?_
  rw [hd]
  exact hr c0 (a.put (some d) u) z.w ⟨_,hdef,by simpa [Act.put] using hsz,z,rfl,hle.trans hyz,hzok,hzH,hzn,(he.mono hyz).put hN' (.whn (fun _=>hzv) (fun h=>by rw [hc] at h; cases h))⟩ Q hQ
 ·rename_i hc
  refine hK' _ _ ?_
  rw [hd]
  exact hr c0 (a.put (some d) undef) y.w ⟨_,hdef,by simpa [Act.put] using hsz,y,rfl,hle,hok,hH,hn,he.put hN' (.whn (fun h=>absurd h hc) (fun _=>rfl))⟩ Q hQ
theorem AQ.stepW {d:Nat} {c:Bool} {v:AV} (hG:CW s.e ops o c) (hd:o.dst=some d) (hN:Nat.blt d s.N=true) (hs:AY P c o s.e s.h v)
  (hr:AQ P ops rest { e:=(d,.whn c v) :: s.e,h:=s.h,n:=s.n,N:=s.N } K):AQ P ops (o :: rest) s K:=by
 intro y a hok hH hn hsz he Qa hQ
 have hN':d<a.tmps.size:=by rw [hsz]; exact E7 hN
 refine wpQuiet_step fun K' hK'=>?_
 rw [hG.wanted he]
 split
 ·rename_i hc
  obtain ⟨u,hrun,hv⟩:=hs hc y a hok hH he
  refine ⟨u,fun w2 hw2=>?_,hK' _ ?_⟩
  ·obtain ⟨z,hz,_,_,_,_,_,_,hag⟩:=hw2
   unfold Oper.quietAt
   rw [hrun w2 hag]
   exact ⟨rfl,rfl⟩
  ·rw [hd]
   exact hr y (a.put (some d) u) hok hH hn (by simpa [Act.put] using hsz) (he.put hN' (.whn (fun _=>hv) (fun h=>by rw [hc] at h; cases h))) Qa fun s' a' k1 k2 k3 k4 k5 k6 k7=>hQ s' a' k1 k2 k3 k4 k5 k6 k7
 ·rename_i hc
  refine hK' _ ?_
  rw [hd]
  exact hr y (a.put (some d) undef) hok hH hn (by simpa [Act.put] using hsz) (he.put hN' (.whn (fun h=>absurd h hc) (fun _=>rfl))) Qa fun s' a' k1 k2 k3 k4 k5 k6 k7=>hQ s' a' k1 k2 k3 k4 k5 k6 k7
theorem Ff {d:Nat} {c:Bool} {f:FuncId} {fo:Operand} {xs:Array Operand} {ats:Array TypeId} {caps bs:List AV} {r:AV} {v:Value} (hG:CW s.e ops o c) (hd:o.dst=some d) (hN:Nat.blt d s.N=true)
  (ho:o.op = .call { callee:=.value fo,args:=xs,argTypes:=ats }) (hfo:Ev c s.e fo (.fn f caps)) (hcaps:Du caps=true) (hx:FR c s.e s.h xs.toList bs) (hr:c=true→AX P f (bs++caps) r)
  (hfl:I0 r=some v) (hk:AQ P ops rest { e:=(d,.whn c r) :: s.e,h:=s.h,n:=s.n,N:=s.N } K):AQ P ops (o :: rest) s K:=by
 intro y a hok hH hn hsz he Qa hQ
 have hN':d<a.tmps.size:=by rw [hsz]; exact E7 hN
 refine wpQuiet_step fun K' hK'=>?_
 rw [hG.wanted he]
 split
 ·rename_i hc
  refine ⟨v,AQ.call ho hfo hcaps hx hr hfl hc hok hH he,hK' _ ?_⟩
  rw [hd]
  exact hk y (a.put (some d) v) hok hH hn (by simpa [Act.put] using hsz) (he.put hN' (.whn (fun _=>PA hfl) (fun h=>by rw [hc] at h; cases h))) Qa fun s' a' k1 k2 k3 k4 k5 k6 k7=>hQ s' a' k1 k2 k3 k4 k5 k6 k7
 ·rename_i hc
  refine hK' _ ?_
  rw [hd]
  exact hk y (a.put (some d) undef) hok hH hn (by simpa [Act.put] using hsz) (he.put hN' (.whn (fun h=>absurd h hc) (fun _=>rfl))) Qa fun s' a' k1 k2 k3 k4 k5 k6 k7=>hQ s' a' k1 k2 k3 k4 k5 k6 k7
theorem Dh {d:Nat} {c:Bool} {v:AV} {h':AN} {n':Nat} (hG:CW s.e ops o c) (hc:c=true) (hd:o.dst=some d)
  (hN:Nat.blt d s.N=true) (hs:BC P true o s.e s.h s.n v h' n') (hr:AK P ops rest { e:=(d,v) :: s.e,h:=h',n:=n',N:=s.N } K):AK P ops (o :: rest) s K:=by
 intro c0 a w ⟨_,hdef,hsz,y,hyw,hle,hok,hH,hn,he⟩ Q hQ
 subst hyw
 have hN':d<a.tmps.size:=by rw [hsz]; exact E7 hN
 refine wpList_step fun K' hK'=>?_
 rw [hG.wanted he,if_pos hc]
 refine hs rfl y a hok hH hn he K' Q fun u z hyz hzok hzH hzn hzv=>?_
 refine hK' _ _ ?_
 rw [hd]
 exact hr c0 (a.put (some d) u) z.w ⟨_,hdef,by simpa [Act.put] using hsz,z,rfl,hle.trans hyz,hzok,hzH,hzn,(he.mono hyz).put hN' hzv⟩ Q hQ
end
inductive Aj (β τ:Type) where
 | nrm (b:β)
 | ext (t:τ)
def AM {α:Type} (l:List α) (z:Int):Option α:=if 0≤z then l[z.toNat]? else none
def gd {α:Type} [Inhabited α] (c:Bool) (m:Option α):Option α:=if c then m else some default
def AS (k:IntKind) (z:Int):Option Int:=if k.wrap z=z then some z else none
def BS {α:Type} (by_:Nat) (xs ys:List α):Option (List α):=if (xs.length+ys.length) * by_≤140737488355328∧xs.length+ys.length≤9223372036854775807 then some (xs++ys) else none
def mk {α:Type} (by_:Nat) (n:Int) (z:α):Option (List α):=if 0≤n∧n * by_≤281474976710656∧n≤9223372036854775807 then some (List.replicate n.toNat z) else none
def DH {α:Type} (l:List α) (lo hi:Int):Option (List α):=if 0≤lo∧lo≤hi∧hi≤l.length then some ((l.drop lo.toNat).take (hi.toNat-lo.toNat)) else none
def Ch {σ ρ:Type} (f:σ→Option (σ ⊕ ρ)):Nat→σ→Option ρ
 | 0,_=>none
 | n+1,s=>match f s with
  | some (.inl s')=>Ch f n s'
  | some (.inr r)=>some r
  | none=>none
open Classical in
noncomputable def iter {σ ρ:Type} (f:σ→Option (σ ⊕ ρ)) (s:σ):Option ρ:=if h : ∃ n r,Ch f n s=some r then Ch f h.choose s else none
def AB {a0 α:Type} (m:Option (a0)) (f:a0→Option α):Option α:=match m with | some x0=>f x0 | none=>none
def Ap {a0 α:Type} (m:Option (Aj (a0) α)) (f:a0→Option α):Option α:=match m with | some (.nrm x0)=>f x0 | some (.ext t)=>some t | none=>none
def CZ {a0 a1 α:Type} (m:Option (a0 × a1)) (f:a0→a1→Option α):Option α:=match m with | some (x0,x1)=>f x0 x1 | none=>none
def QU {a0 a1 α:Type} (m:Option (Aj (a0 × a1) α)) (f:a0→a1→Option α):Option α:=match m with | some (.nrm (x0,x1))=>f x0 x1 | some (.ext t)=>some t | none=>none
def WJ {a0 a1 a2 α:Type} (m:Option (a0 × a1 × a2)) (f:a0→a1→a2→Option α):Option α:=match m with | some (x0,x1,x2)=>f x0 x1 x2 | none=>none
def Oh {a0 a1 a2 α:Type} (m:Option (Aj (a0 × a1 × a2) α)) (f:a0→a1→a2→Option α):Option α:=match m with | some (.nrm (x0,x1,x2))=>f x0 x1 x2 | some (.ext t)=>some t | none=>none
def L7 {a0 a1 a2 a3 α:Type} (m:Option (a0 × a1 × a2 × a3)) (f:a0→a1→a2→a3→Option α):Option α:=match m with | some (x0,x1,x2,x3)=>f x0 x1 x2 x3 | none=>none
def Lq {a0 a1 a2 a3 a4 α:Type} (m:Option (Aj (a0 × a1 × a2 × a3 × a4) α)) (f:a0→a1→a2→a3→a4→Option α):Option α:=match m with | some (.nrm (x0,x1,x2,x3,x4))=>f x0 x1 x2 x3 x4 | some (.ext t)=>some t | none=>none
theorem Wb {a0 α:Type} {m:Option (a0)} {f:a0→Option α} {r:α} (h:AB m f=some r) : ∃ p,m=some p ∧ ∀ x0,p=x0→f x0=some r:=by
 cases m with
 | none=>cases h
 | some p=>exact ⟨p,rfl,fun x0 e=>by subst e; exact h⟩
theorem Tv {a0 α:Type} {m:Option (Aj (a0) α)} {f:a0→Option α} {r:α} (h:Ap m f=some r) : ∃ o,m=some o∧(∀ x0,o = .nrm x0→f x0=some r) ∧ ∀ t,o = .ext t→some t=some r:=by
 cases m with
 | none=>cases h
 | some o=>cases o with
  | nrm p=>exact ⟨_,rfl,(fun x0 e=>by cases e; exact h),(fun _ e=>by cases e)⟩
  | ext t=>exact ⟨_,rfl,(fun x0 e=>by cases e),(fun _ e=>by cases e; exact h)⟩
theorem V6 {a0 a1 α:Type} {m:Option (a0 × a1)} {f:a0→a1→Option α} {r:α} (h:CZ m f=some r) : ∃ x0 x1,m=some (x0,x1)∧f x0 x1=some r:=by
 cases m with
 | none=>cases h
 | some p=>exact ⟨_,_,rfl,h⟩
theorem UD {a0 a1 α:Type} {m:Option (a0 × a1)} {f:a0→a1→Option α} {r:α} (h:CZ m f=some r) : ∃ p,m=some p ∧ ∀ x0 x1,p=(x0,x1)→f x0 x1=some r:=by
 cases m with
 | none=>cases h
 | some p=>exact ⟨p,rfl,fun x0 x1 e=>by subst e; exact h⟩
theorem WT {a0 a1 a2 a3 a4 α:Type} {m:Option (Aj (a0 × a1 × a2 × a3 × a4) α)} {f:a0→a1→a2→a3→a4→Option α} {r:α} (h:Lq m f=some r) : ∃ o,m=some o∧(∀ x0 x1 x2 x3 x4,o = .nrm (x0,x1,x2,x3,x4)→f x0 x1 x2 x3 x4=some r) ∧ ∀ t,o = .ext t→some t=some r:=by
 cases m with
 | none=>cases h
 | some o=>cases o with
  | nrm p=>exact ⟨_,rfl,(fun x0 x1 x2 x3 x4 e=>by cases e; exact h),(fun _ e=>by cases e)⟩
  | ext t=>exact ⟨_,rfl,(fun x0 x1 x2 x3 x4 e=>by cases e),(fun _ e=>by cases e; exact h)⟩
theorem C8 {α:Type} {b:Bool} {x y z:α} (hc:b=true) (h:(if b=true then x else y)=z):x=z:=by rw [if_pos hc] at h; exact h
theorem Cw {α:Type} {b:Bool} {x y z:α} (hc:b=false) (h:(if b=true then x else y)=z):y=z:=by grind
theorem AZ {α:Type} [Inhabited α] {c:Bool} {m:Option α} {x:α} (h:gd c m=some x):c=true→m=some x:=by intro hc; subst hc; exact h
theorem Pf {k:IntKind} {z x:Int} (h:AS k z=some x):k.wrap z=z∧x=z:=by grind [AS]
theorem Bi {z:Int} (h1 : -9223372036854775808≤z) (h2:z≤9223372036854775807):AS .i64 z=some z:=if_pos (X1 h1 h2)
section
variable {σ ρ:Type} {f:σ→Option (σ ⊕ ρ)}
theorem Qt {n:Nat} {s:σ} {r:ρ} (h:Ch f n s=some r) (k:Nat):Ch f (n+k) s=some r:=by
 induction n generalizing s with
 | zero=>cases h
 | succ n ih=>
  grind [Ch]
theorem Uz {n m:Nat} {s:σ} {r q:ρ} (h:Ch f n s=some r) (k:Ch f m s=some q):r=q:=by
 have h1:=Qt h m
 have h2:=Qt k n
 grind
theorem Hl {s:σ} {r:ρ} : iter f s=some r ↔ ∃ n,Ch f n s=some r:=by
 unfold iter
 constructor
 ·intro h; split at h
  ·grind
  ·cases h
 ·rintro ⟨n,h⟩
  have hx : ∃ n r,Ch f n s=some r:=⟨n,r,h⟩
  grind [Uz]
theorem Bc {s:σ} {r:ρ} (h:f s=some (.inr r)):iter f s=some r:=Hl.2 ⟨1,by unfold Ch; rw [h]⟩
theorem B1 {s s':σ} (h:f s=some (.inl s')):iter f s=iter f s':=by
 apply Option.ext
 intro r
 rw [Hl,Hl]
 constructor
 ·rintro ⟨n,hn⟩
  cases n with
  | zero=>cases hn
  | succ n=>grind [Ch]
 ·rintro ⟨n,hn⟩; exact ⟨n+1,by unfold Ch; rw [h]; exact hn⟩
theorem AW.iter {P:Program} {Q:Exit→St→Prop} {s:St} {x:Code} {a0:σ} {o:ρ} (R:σ→St→Prop) (hit:Al.iter f a0=some o) (h0 : ∃ s',Ac s s'∧R a0 s')
  (round : ∀ a st v,R a st→f a=some v→(∀ q,v = .inr q→o=q)→AW P x (EF (fun st'=>∃ a',v = .inl a' ∧ ∃ st'',Ac st' st''∧R a' st'') Q) st):AW P (.loop x) Q s:=by
 obtain ⟨n,hn⟩:=Hl.1 hit
 obtain ⟨s1,hw1,hR1⟩:=h0
 refine AW.loop (fun m st=>∃ a,R a st∧Ch f m a=some o) n ⟨s1,hw1,a0,hR1,hn⟩ ?_
 rintro m st ⟨a,hR,ha⟩
 cases m with
 | zero=>cases ha
 | succ m=>
  cases hf:f a with
  | none=>grind [Ch]
  | some v=>
   unfold Ch at ha
   rw [hf] at ha
   refine (round a st v hR hf ?_).mono fun e st' hq=>?_
   ·grind
   ·cases e with
    | normal=>
     obtain ⟨a',rfl,st'',hw,hR'⟩:=hq
     exact ⟨m,Nat.lt_succ_self m,st'',hw,a',hR',ha⟩
    | exit i=>exact hq
    | goto l=>exact hq
    | ret=>exact hq
    | panic ch=>exact hq
    | outgrown=>exact hq
end
@[reducible] def AL (k:IntKind) (n:Int):List RV:=[.int k n]
@[reducible] def Dd (b:Bool):List RV:=[.bool b]
@[reducible] def As (s:List UInt8):List RV:=[.str s]
@[reducible] def BE {α:Type} (f:α→List RV) (l:List α):List RV:=[.sl (l.map f)]
theorem EP {α:Type} {l:List α} {z:Int} {a:α} (h:AM l z=some a):0≤z∧l[z.toNat]? = some a∧z<l.length:=by grind [AM]
theorem RP {α:Type} {l l':List α} {lo hi:Int} (h:DH l lo hi=some l'):0≤lo∧lo≤hi∧hi≤l.length∧l'=(l.drop lo.toNat).take (hi.toNat-lo.toNat):=by grind [DH]
section
variable {P:Program} {c:Bool} {o:Oper} {R:AU} {h:AN} {n:Nat} {α:Type} {f:α→List RV}
theorem Qj {t e:TypeId} {sz:Nat} {x y:Operand} {l:List α} {k:IntKind} {z:Int} {a:α} (ho:o.op = .indexAddr t x y) (ht:Dq P t e sz) (hx:Ev c R x (.r (.sl (l.map f)))) (hy:Ev c R y (.r (.int k z)))
  (hlen : ∀ a,(f a).length=sz) (hi:c=true→AM l z=some a):AY P c o R h (.rop (f a) 0):=
 Xj ho ht hx hy (fun hc=>(EP (hi hc)).1) (fun hc=>by rw [List.getElem?_map,(EP (hi hc)).2.1]; rfl) (hlen a)
theorem Cb {t e e':TypeId} {sz:Nat} {x y:Operand} {id g:Nat} {l:List α} {k:IntKind} {z:Int} {a:α} (ho:o.op = .indexAddr t x y) (ht:Dq P t e sz) (hx:Ev c R x (.own id g))
  (hh:hget h id=some (.arr g e' sz (l.map f))) (hy:Ev c R y (.r (.int k z))) (hi:c=true→AM l z=some a):AY P c o R h (.ptr id g z.toNat 0):=
 R9 ho ht hx hh hy (fun hc=>(EP (hi hc)).1) (fun hc=>by rw [List.length_map]; exact (EP (hi hc)).2.2)
theorem GJ {t:TypeId} {x:Operand} {id g k:Nat} {e:TypeId} {sz:Nat} {l:List α} {z:Int} {a:α} {d:RV} (ho:o.op = .load t x) (ht:A8 P t) (hx:Ev c R x (.ptr id g z.toNat k))
  (hh:c=true→hget h id=some (.arr g e sz (l.map f))) (hi:c=true→AM l z=some a) (hd:(f a)[k]? = some d):AY P c o R h (.r d):=
 Xc ho ht hx hh (row:=f a) (fun hc=>by rw [List.getElem?_map,(EP (hi hc)).2.1]; rfl) (fun _=>hd)
theorem HQ {t:TypeId} {x:Operand} {id g:Nat} {e:TypeId} {sz:Nat} {l:List α} {z:Int} {a:α} {cs:List AV} (ho:o.op = .load t x) (ht:BH P t sz) (hx:Ev c R x (.ptr id g z.toNat 0))
  (hh:c=true→hget h id=some (.arr g e sz (l.map f))) (hi:c=true→AM l z=some a) (hd:(f a).map AV.r=cs):AY P c o R h (.agg cs):=by
 subst hd
 exact U7 ho ht hx hh (row:=f a) (fun hc=>by rw [List.getElem?_map,(EP (hi hc)).2.1]; rfl)
theorem BR {t:TypeId} {x:Operand} {row:List RV} {k:Nat} {d:RV} (ho:o.op = .load t x) (ht:A8 P t) (hx:Ev c R x (.rop row k)) (hd:row[k]? = some d):AY P c o R h (.r d):=Sn ho ht hx fun _=>hd
theorem BV {t:TypeId} {x:Operand} {row:List RV} {sz:Nat} {cs:List AV} (ho:o.op = .load t x) (ht:BH P t sz) (hx:Ev c R x (.rop row 0)) (hd:row.length=sz) (hcs:row.map AV.r=cs):AY P c o R h (.agg cs):=by grind [R1]
theorem M9 {t:TypeId} {x:Operand} {id g k:Nat} {e:TypeId} {cs:List AV} {a:AV} (ho:o.op = .load t x) (ht:A8 P t) (hx:Ev c R x (.ptr id g 0 k)) (hh:hget h id=some (.box g e cs)) (ha:cs[k]? = some a):AY P c o R h a:=by grind [X6]
theorem Cn {t:TypeId} {x:Operand} {id g:Nat} {e:TypeId} {sz:Nat} {cs:List AV} (ho:o.op = .load t x) (ht:BH P t sz) (hx:Ev c R x (.ptr id g 0 0)) (hh:hget h id=some (.box g e cs)) (hl:cs.length=sz):AY P c o R h (.agg cs):=by grind [TN]
theorem TY {t:TypeId} {x y:Operand} {s:List UInt8} {k:IntKind} {z:Int} {ch:UInt8} (ho:o.op = .index t x y) (ht:P.underlying t=some .string) (hx:Ev c R x (.r (.str s)))
  (hy:Ev c R y (.r (.int k z))) (hi:c=true→AM s z=some ch):AY P c o R h (.r (.int .u8 ch.toNat)):=
 SA ho ht hx hy (fun hc=>(EP (hi hc)).1) (fun hc=>(EP (hi hc)).2.1)
theorem Hk {t t':TypeId} {x y:Operand} {k:IntKind} {a b r:Int} (ho:o.op = .binOp .add t x y t') (hx:Ev c R x (.r (.int k a))) (hy:Ev c R y (.r (.int k b))) (hr:c=true→AS k (a+b)=some r):AY P c o R h (.r (.int k r)):=by
 intro hc; obtain ⟨h1,rfl⟩:=Pf (hr hc); exact R2 ho hx hy h1 hc
theorem BT {t t':TypeId} {x y:Operand} {k:IntKind} {a b r:Int} (ho:o.op = .binOp .sub t x y t') (hx:Ev c R x (.r (.int k a))) (hy:Ev c R y (.r (.int k b))) (hr:c=true→AS k (a-b)=some r):AY P c o R h (.r (.int k r)):=by
 intro hc; obtain ⟨h1,rfl⟩:=Pf (hr hc); exact XE ho hx hy h1 hc
def FL (c:Bool) (R:AU) (dflt:Int):Option Operand→Int→Prop
 | none,z=>z=dflt
 | some x,z=>∃ k,Ev c R x (.r (.int k z))
theorem RB {t e:TypeId} {sz:Nat} {x:Operand} {lo hi:Option Operand} {l l':List α} {zl zh:Int} (ho:o.op = .slice t x lo hi none) (ht:Dq P t e sz) (hx:Ev c R x (.r (.sl (l.map f))))
  (hlo:FL c R 0 lo zl) (hhi:FL c R l.length hi zh) (hlen : ∀ a,(f a).length=sz) (hs:c=true→DH l zl zh=some l'):AY P c o R h (.r (.sl (l'.map f))):=by
 intro hc
 obtain ⟨h1,h2,h3,rfl⟩:=RP (hs hc)
 rw [List.map_take,List.map_drop]
 refine V9 ho ht hx (l:=zl.toNat) (m:=zh.toNat) ?_ ?_ (fun _=>by omega) (fun _=>by rw [List.length_map]; omega) (fun row hr=>by obtain ⟨a,_,rfl⟩:=List.mem_map.1 hr; exact hlen a) hc
 ·cases lo with
  | none=>simp only [FL] at hlo; subst hlo; rfl
  | some v=>obtain ⟨k,hk⟩:=hlo; exact ⟨k,zl,hk,fun _=>h1,rfl⟩
 ·cases hi with
  | none=>grind [FL,MF]
  | some v=>obtain ⟨k,hk⟩:=hhi; exact ⟨k,zh,hk,fun _=>by omega,rfl⟩
theorem Pn {by_:Nat} {xs ys zs:List α} (h:BS by_ xs ys=some zs):(xs.length+ys.length) * by_≤140737488355328∧xs.length+ys.length≤9223372036854775807∧zs=xs++ys:=by grind [BS]
def MR (R:AU) (h:AN) (x:Operand) (e:TypeId) (sz:Nat) (f:α→List RV) (ys:List α):Prop:=
 (Ev true R x (.r (.sl (ys.map f))) ∧ ∀ a,(f a).length=sz)∨(∃ id g,Ev true R x (.own id g)∧hget h id=some (.arr g e sz (ys.map f)))∨(Ev true R x (.cst (.slice none 0 0))∧ys=[])
theorem MR.src {x:Operand} {e:TypeId} {sz:Nat} {ys:List α} (hx:MR R h x e sz f ys):Kr true R h x sz (ys.map f):=by
 rcases hx with ⟨h1,h2⟩ | ⟨id,g,h1,h2⟩ | ⟨h1,rfl⟩
 ·exact .inl ⟨h1,fun _ row hr=>by obtain ⟨a,_,rfl⟩:=List.mem_map.1 hr; exact h2 a⟩
 ·exact .inr (.inl ⟨id,g,e,h1,h2⟩)
 ·exact .inr (.inr ⟨h1,rfl⟩)
theorem Dm {t e:TypeId} {sz by_:Nat} {s x:Operand} {id g:Nat} {xs ys zs:List α} (ho:o.op = .call { callee:=.builtin .append,args:=#[s,x],argTypes:=#[t,t] }) (ht:A7 P t e sz by_)
  (hs:Ev true R s (.own id g)) (hh:hget h id=some (.arr g e sz (xs.map f))) (hx:MR R h x e sz f ys) (hz:BS by_ xs ys=some zs):BC P true o R h n (.own id n) ((id,some (.arr n e sz (zs.map f))) :: h) (n+1):=by
 obtain ⟨h1,h2,rfl⟩:=Pn hz
 rw [List.map_append]
 exact Tm ho ht hs hh hx.src (by simpa using h1) (by simpa using h2)
theorem Ik {t e:TypeId} {sz by_:Nat} {s x:Operand} (id:Nat) {ys zs:List α} (ho:o.op = .call { callee:=.builtin .append,args:=#[s,x],argTypes:=#[t,t] }) (ht:A7 P t e sz by_)
  (hs:Ev true R s (.cst (.slice none 0 0))) (hx:MR R h x e sz f ys) (hz:BS by_ [] ys=some zs):BC P true o R h n (.own id n) ((id,some (.arr n e sz (zs.map f))) :: h) (n+1):=by
 obtain ⟨h1,h2,h3⟩:=Pn hz
 rw [List.nil_append] at h3
 subst h3
 exact T4 id ho ht hs hx.src (by simpa using h1) (by simpa using h2)
theorem Qd {t e:TypeId} {sz by_:Nat} {l k:Operand} (id:Nat) {m:Int} {z0:α} {r:List α} (ho:o.op = .makeSlice t l k) (ht:A7 P t e sz by_) (hz:Fy P e (f z0))
  (hl:Ev true R l (.r (.int .i64 m))) (hk:Ev true R k (.r (.int .i64 m))) (hr:mk by_ m z0=some r):BC P true o R h n (.own id n) ((id,some (.arr n e sz (r.map f))) :: h) (n+1):=by
 unfold mk at hr
 split at hr
 ·rename_i hc
  cases hr
  rw [List.map_replicate]
  grind [Ui]
 ·cases hr
theorem Br {t e:TypeId} {sz by_ len:Nat} {parts:Array (Nat × Operand)} (id:Nat) {l:List α} (ho:o.op = .buildSlice t len parts) (ht:A7 P t e sz by_)
  (hp:GM true R 0 parts.toList (l.map f)) (hlen:l.length=len) (hrow : ∀ a,(f a).length=sz) (hsmall:Nat.ble (len * sz) 16777216=true) :
  BC P true o R h n (.own id n) ((id,some (.arr n e sz (l.map f))) :: h) (n+1):=by grind [Vo]
theorem Mv {t:TypeId} {x y:Operand} {id g k:Nat} {e:TypeId} {sz:Nat} {l:List α} {z:Int} {a v:α} {b:AV} {d:RV} (ho:o.op = .store t x y) (ht : ∃ i,P.info? t=some i∧i.size=1)
  (hx:Ev true R x (.ptr id g z.toNat k)) (hh:hget h id=some (.arr g e sz (l.map f))) (hi:AM l z=some a) (hy:Ev true R y b) (hd:GE b=some d) (h1:(BF b).length=1) (hk:Nat.blt k (f a).length=true) (hv:(f a).set k d=f v) :
  BC P true o R h n .any ((id,some (.arr g e sz ((l.set z.toNat v).map f))) :: h) n:=by
 have:=XB (n:=n) ho ht hx hh (row:=f a) (by rw [List.getElem?_map,(EP hi).2.1]; rfl) (E7 hk) hy hd h1
 rwa [hv,← List.map_set] at this
theorem Cs {t:TypeId} {e:TypeId} {sz:Nat} {x:Operand} {l:List α} (ho:o.op = .call { callee:=.builtin .len,args:=#[x],argTypes:=#[t] }) (ht:Dq P t e sz) (hx:Ev c R x (.r (.sl (l.map f)))):AY P c o R h (.r (.int .i64 l.length)):=Va ho ht hx
theorem Cj {t:TypeId} {e e':TypeId} {sz sz':Nat} {x:Operand} {id g:Nat} {l:List α} (ho:o.op = .call { callee:=.builtin .len,args:=#[x],argTypes:=#[t] }) (ht:Dq P t e sz) (hx:Ev c R x (.own id g))
  (hh:hget h id=some (.arr g e' sz' (l.map f))):AY P c o R h (.r (.int .i64 l.length)):=Tg ho ht hx hh
theorem Wk {t:TypeId} {x:Operand} {a:AV} (id:Nat) {cs:List AV} (ho:o.op = .box t x) (hx:Ev c R x a) (hcs:BF a=cs) (h1:cs.all AV.one=true):BC P c o R h n (.ptr id n 0 0) ((id,some (.box n t cs)) :: h) (n+1):=by grind [Ww]
theorem Sp {t:TypeId} {zv:Value} (id:Nat) {cs:List AV} (ho:o.op = .alloc t) (hz:Bx P t zv) (hcs:BF (F8 zv)=cs) (h1:cs.all AV.one=true) :
  BC P c o R h n (.ptr id n 0 0) ((id,some (.box n t cs)) :: h) (n+1):=by grind [Ut]
theorem WI {t:TypeId} {x y:Operand} {id g k:Nat} {e:TypeId} {cs ds:List AV} {a:AV} {sz:Nat} (ho:o.op = .store t x y) (ht : ∃ i,P.info? t=some i∧i.size=sz) (hx:Ev c R x (.ptr id g 0 k))
  (hh:hget h id=some (.box g e cs)) (hy:Ev c R y a) (hsz:(BF a).length=sz) (h1:(BF a).all AV.one=true) (hfit:Nat.ble (k+sz) cs.length=true) (hds:ER cs k (BF a)=ds) :
  BC P c o R h n .any ((id,some (.box g e ds)) :: h) n:=by grind [S8]
end
def KE (a b:AV):Prop:=a=b∨b = .any∨(a = .cst (.slice none 0 0)∧b = .r (.sl []))
def KJ:List AV→List AV→Prop
 | [],[]=>True
 | a :: l,b :: m=>KE a b∧KJ l m
 | _,_=>False
def MX (a b:AV):Prop:=KE a b ∨ ∃ cs ds,a = .agg cs∧b = .agg ds∧KJ cs ds
def Kl:AU→AU→Prop
 | [],_=>True
 | (t,v) :: r,e=>MX (get e t) v∧Kl r e
def RN (a b:Option AT):Prop:=a=b∨b=none ∨ ∃ g e cs ds,a=some (.box g e cs)∧b=some (.box g e ds)∧KJ cs ds
def Jp:AN→AN→Prop
 | [],_=>True
 | (id,o) :: r,h=>RN (hget h id) o∧Jp r h
theorem KE.rep {x:Cx} {a b:AV} (h:KE a b) {v:Value} (hv:AR x a v):AR x b v:=by
 rcases h with rfl | rfl | ⟨rfl,rfl⟩
 ·exact hv
 ·exact .any _
 ·cases hv; exact .r .snil
theorem KJ.get {cs ds:List AV} (h:KJ cs ds):cs.length=ds.length ∧ ∀ (i:Nat) (b:AV),ds[i]? = some b → ∃ a,cs[i]? = some a∧KE a b:=by
 induction cs generalizing ds with
 | nil=>cases ds with | nil=>exact ⟨rfl,by simp⟩ | cons _ _=>exact h.elim
 | cons c l ih=>
  cases ds with
  | nil=>exact h.elim
  | cons d m=>
   obtain ⟨h1,h2⟩:=h
   grind
theorem MX.rep {x:Cx} {a b:AV} (h:MX a b) {v:Value} (hv:AR x a v):AR x b v:=by
 rcases h with h | ⟨cs,ds,rfl,rfl,h⟩
 ·exact h.rep hv
 ·obtain ⟨h1,h2⟩:=h.get
  cases hv with
  | agg hl hall=>
   refine .agg (by omega) fun i b u hb hu=>?_
   obtain ⟨a,k1,k2⟩:=h2 i b hb
   exact k2.rep (hall i a u k1 hu)
theorem Kl.get {e' e:AU} (h:Kl e' e) (t:Nat):Al.get e' t = .any∨MX (Al.get e t) (Al.get e' t):=by
 induction e' with
 | nil=>exact .inl rfl
 | cons p r ih=>
  obtain ⟨d,v⟩:=p
  rw [C3]
  split
  ·rename_i hd; subst hd; exact .inr h.1
  ·exact ih h.2
theorem Jp.get {h' h:AN} (k:Jp h' h) (t:Nat):hget h' t=none∨RN (hget h t) (hget h' t):=by
 induction h' with
 | nil=>exact .inl rfl
 | cons p r ih=>
  obtain ⟨d,v⟩:=p
  rw [Bb]
  split
  ·rename_i hd; subst hd; exact .inr k.1
  ·exact ih k.2
theorem RZ {y:Cx} (hok:y.ok) (S':Nat→Prop) (H':Nat→Option AT) (n':Nat) (hn:y.n≤n') (hS : ∀ b,y.S b→S' b) (hSlt : ∀ b,S' b→b<y.w.heap.size) (hSF : ∀ b,S' b → ¬ y.F b)
  (hH : ∀ id o',H' id=some o' → ∃ o,y.H id=some o∧o.gen=o'.gen∧o.shape=o'.shape∧(∀ b k,y.atk id b k → ¬ S' b)∧(o'.isFam=true→o'=o)∧(y.le { y with S:=S',H:=H',n:=n' } → CQ { y with S:=S',H:=H',n:=n' } (y.β id) (y.K id) o→CQ { y with S:=S',H:=H',n:=n' } (y.β id) (y.K id) o')) :
  y.le { y with S:=S',H:=H',n:=n' } ∧ ({ y with S:=S',H:=H',n:=n' } : Cx).ok:=by
 have hle:y.le { y with S:=S',H:=H',n:=n' }:=⟨Nat.le_refl _,rfl,rfl,rfl,fun _ _=>rfl,hS,rfl,hn,fun id o' h _=>by
  obtain ⟨o,h1,h2,h3,_⟩:=hH id o' h; exact ⟨o,h1,h2,h3,rfl⟩,fun id o' h hf _ _=>by
  obtain ⟨o,h1,_,_,_,h5,_⟩:=hH id o' h; cases h5 hf; exact ⟨o',h1,hf,rfl,rfl,rfl,rfl⟩⟩
 refine ⟨hle,hSlt,hok.F_lt,hSF,fun id o' h=>?_,fun id o' b k h hb=>?_,fun id id' o o' b k k' h h'=>?_,hok.extOf (fun id o h=>let ⟨o',h',_⟩:=hH id o h; ⟨o',h'⟩) rfl rfl (Nat.le_refl _) (fun id o b k h ha=>let ⟨_,_,_,_,h4,_⟩:=hH id o h; h4 b k ha) (fun id o b k h ha=>let ⟨o',h',_⟩:=hH id o h; (hok.own' id o' b k h' ha).2.2),hok.tabs.le hle⟩
 ·obtain ⟨o,h1,h2,h3,_,_,h5⟩:=hH id o' h
  obtain ⟨k1,k2⟩:=hok.obj id o h1
  exact ⟨by rw [← h2]; exact Nat.lt_of_lt_of_le k1 hn,h5 hle (k2.mono hle (fun _ _ _=>rfl) fun _ _ _ _=>rfl)⟩
 ·obtain ⟨o,h1,_,_,h4,_⟩:=hH id o' h
  obtain ⟨k1,k2,k3⟩:=hok.own id o b k h1 hb
  exact ⟨k1,h4 b k (.inl hb),k3⟩
 ·obtain ⟨o1,h1,_⟩:=hH id o h
  obtain ⟨o2,h2,_⟩:=hH id' o' h'
  exact hok.inj id id' o1 o2 b k k' h1 h2
theorem Xb {x:Cx} {β:Option (Nat × Nat)} {κ:Nat→Option (Nat × Nat)} {g:Nat} {e:TypeId} {cs ds:List AV} (hl:cs.length=ds.length) (hc : ∀ (i:Nat) (b:AV),ds[i]? = some b → ∃ a,cs[i]? = some a ∧ ∀ v,AR x a v→AR x b v)
  (h:CQ x β κ (.box g e cs)):CQ x β κ (.box g e ds):=by
 obtain ⟨b,cur,h1,h2,h3,h4⟩:=h
 refine ⟨b,cur,h1,h2,by omega,fun j d hj=>?_⟩
 grind
theorem Ac.cv {e' e:AU} {h' h:AN} {n' n N:Nat} (he:Kl e' e) (hh:Jp h' h) (hn:n≤n'):Ac ⟨e,h,n,N⟩ ⟨e',h',n',N⟩:=by
 intro c0 a w ⟨_,hdef,hsz,y,hyw,hle,hok,hH,hyn,henv⟩
 have hrec:=RZ hok y.S (hget h') n' (by rw [hyn]; exact hn) (fun _ h=>h) hok.S_lt hok.SF (fun id o' ho'=>by
  rcases hh.get id with h1 | h1
  ·grind
  ·rw [ho'] at h1
   rcases h1 with h1 | h1 | ⟨g,e0,cs,ds,h1,h2,h3⟩
   ·exact ⟨o',by rw [hH]; exact h1,rfl,rfl,fun b k hb=>(hok.own' id o' b k (by rw [hH]; exact h1) hb).2.1,fun _=>rfl,fun _ h=>h⟩
   ·cases h1
   ·cases h2
    obtain ⟨k1,k2⟩:=h3.get
    refine ⟨.box g e0 cs,by rw [hH]; exact h1,rfl,by simp [AT.shape,k1],fun b k hb=>(hok.own' id _ b k (by rw [hH]; exact h1) hb).2.1,(fun hf=>by cases hf),fun _ hr=>Xb k1 (fun i b hb=>?_) hr⟩
    obtain ⟨a,k3,k4⟩:=k2 i b hb
    exact ⟨a,k3,fun v hv=>k4.rep hv⟩)
 refine ⟨_,hdef,hsz,{ y with S:=y.S,H:=hget h',n:=n' },hyw,hle.trans hrec.1,hrec.2,rfl,rfl,fun t=>?_⟩
 rcases he.get t with h1 | h1
 ·rw [h1]; exact .any _
 ·exact h1.rep ((henv t).mono hrec.1)
def MA (id g:Nat) (xs:List (List RV)) (a b:AV):Prop:=a=b∨b = .any∨(a = .own id g∧b = .r (.sl xs))
def Jk (id g:Nat) (xs:List (List RV)):List AV→List AV→Prop
 | [],[]=>True
 | a :: l,b :: m=>MA id g xs a b∧Jk id g xs l m
 | _,_=>False
def PR (id g:Nat) (xs:List (List RV)) (a b:AV):Prop:=MA id g xs a b ∨ ∃ cs ds,a = .agg cs∧b = .agg ds∧Jk id g xs cs ds
def MW (id g:Nat) (xs:List (List RV)):AU→AU→Prop
 | [],_=>True
 | (t,v) :: r,e=>PR id g xs (get e t) v∧MW id g xs r e
def OV (id g:Nat) (xs:List (List RV)) (a b:Option AT):Prop:=a=b∨b=none∨(∃ g0 e cs ds,a=some (.box g0 e cs)∧b=some (.box g0 e ds)∧Jk id g xs cs ds) ∨
  ∃ g0 e ys k zs,a=some (.hot g0 e ys k id g)∧b=some (.arr g0 e 1 zs)∧zs=ys.set k [.sl xs]
def L8 (id g:Nat) (xs:List (List RV)):AN→AN→Prop
 | [],_=>True
 | (i,o) :: r,h=>Nat.beq i id=false∧OV id g xs (hget h i) o∧L8 id g xs r h
theorem Jk.get {id g:Nat} {xs:List (List RV)} {cs ds:List AV} (h:Jk id g xs cs ds):cs.length=ds.length ∧ ∀ (i:Nat) (b:AV),ds[i]? = some b → ∃ a,cs[i]? = some a∧MA id g xs a b:=by
 induction cs generalizing ds with
 | nil=>cases ds with | nil=>exact ⟨rfl,by simp⟩ | cons _ _=>exact h.elim
 | cons c l ih=>
  cases ds with
  | nil=>exact h.elim
  | cons d m=>
   obtain ⟨h1,h2⟩:=h
   grind
theorem MW.get {id g:Nat} {xs:List (List RV)} {e' e:AU} (h:MW id g xs e' e) (t:Nat):Al.get e' t = .any∨PR id g xs (Al.get e t) (Al.get e' t):=by
 induction e' with
 | nil=>exact .inl rfl
 | cons p r ih=>
  obtain ⟨d,v⟩:=p
  rw [C3]
  split
  ·rename_i hd; subst hd; exact .inr h.1
  ·exact ih h.2
theorem L8.get {id g:Nat} {xs:List (List RV)} {h' h:AN} (k:L8 id g xs h' h) (t:Nat):hget h' t=none∨(t≠id∧OV id g xs (hget h t) (hget h' t)):=by
 induction h' with
 | nil=>exact .inl rfl
 | cons p r ih=>
  obtain ⟨d,v⟩:=p
  rw [Bb]
  split
  ·rename_i hd; subst hd; exact .inr ⟨Nat.ne_of_beq_eq_false k.1,k.2.1⟩
  ·exact ih k.2.2
theorem DE {e' e:AU} {h' h:AN} {n N:Nat} (id:Nat) {g:Nat} {et:TypeId} {sz:Nat} {xs:List (List RV)} (hh0:hget h id=some (.arr g et sz xs)) (he:MW id g xs e' e) (hh:L8 id g xs h' h):Ac ⟨e,h,n,N⟩ ⟨e',h',n,N⟩:=by
 intro c0 a w ⟨_,hdef,hsz,y,hyw,hle,hok,hH,hyn,henv⟩
 have hHid:y.H id=some (.arr g et sz xs):=by simp_all
 let S':Nat→Prop:=fun b=>y.S b ∨ ∃ k,y.β id=some (b,k)
 have hfr : ∀ {z:Cx},z.w=y.w→z.S=S' → ∀ {a b:AV},MA id g xs a b → ∀ v,AR y a v→(AR z a v)→AR z b v:=by
  intro z hzw hzS a b hf v hv hv'
  rcases hf with rfl | rfl | ⟨rfl,rfl⟩
  ·exact hv'
  ·exact .any _
  ·refine .r ?_
   grind [Mr]
 have hrec:=RZ hok S' (hget h') y.n (Nat.le_refl _) (fun _ h=>.inl h) (fun b hb=>by
   rcases hb with hb | ⟨k,hb⟩
   ·exact hok.S_lt b hb
   ·exact (hok.own id _ b k hHid hb).1) (fun b hb=>by
   rcases hb with hb | ⟨k,hb⟩
   ·exact hok.SF b hb
   ·exact (hok.own id _ b k hHid hb).2.2) (fun i o' ho'=>by
  rcases hh.get i with h1 | ⟨hne,h1⟩
  ·grind
  ·rw [ho'] at h1
   have hS2 : ∀ o,y.H i=some o → ∀ b k,y.atk i b k → ¬ S' b:=by
    intro o ho b k hb
    rintro (h2 | ⟨k',h2⟩)
    ·exact (hok.own' i o b k ho hb).2.1 h2
    ·exact hne (hok.inj' ho hHid hb (.inl h2))
   rcases h1 with h1 | h1 | ⟨g0,e0,cs,ds,h1,h2,h3⟩ | ⟨g0,e0,ys,k,zs,h1,h2,rfl⟩
   ·exact ⟨o',by rw [hH]; exact h1,rfl,rfl,hS2 o' (by rw [hH]; exact h1),fun _=>rfl,fun _ h=>h⟩
   ·cases h1
   ·cases h2
    obtain ⟨k1,k2⟩:=h3.get
    have hyo:y.H i=some (.box g0 e0 cs):=by simp_all
    refine ⟨.box g0 e0 cs,hyo,rfl,by simp [AT.shape,k1],hS2 _ hyo,(fun hf=>by cases hf),fun hle2 _=>?_⟩
    obtain ⟨_,b,cur,m1,m2,m3,m4⟩:=hok.obj i _ hyo
    refine ⟨b,cur,m1,m2,by omega,fun j d hj=>?_⟩
    obtain ⟨a,k3,k4⟩:=k2 j d hj
    obtain ⟨u,k5,k6,k7⟩:=m4 j a k3
    exact ⟨u,k5,k6,hfr (z:={ y with S:=S',H:=hget h',n:=y.n }) rfl rfl k4 u k7 (k7.mono hle2)⟩
   ·cases h2
    have hyo:y.H i=some (.hot g0 e0 ys k id g):=by simp_all
    refine ⟨.hot g0 e0 ys k id g,hyo,rfl,by simp [AT.shape],hS2 _ hyo,(fun hf=>by cases hf),fun hle2 _=>?_⟩
    obtain ⟨_,m1,m2,hdr,us,m3,m4,m5,u0,m6,m7⟩:=hok.obj i _ hyo
    have hbs : ∀ b,y.S b→y.w.heap[b]? = y.w.heap[b]?:=fun _ _=>rfl
    refine ⟨Nat.one_pos,fun row hr=>?_,hdr,us,by rw [List.length_set]; exact m3,by rw [List.length_set]; exact m4,fun i' row c d q1 q2=>?_⟩
    ·grind
    ·rw [List.getElem?_set] at q1
     split at q1
     ·grind [Mr]
     ·rename_i hik
      have hc0:c=0:=by
       grind
      subst hc0
      obtain ⟨u,k3,k4⟩:=m5 i' row d (fun e=>hik e.symm) q1 q2
      exact ⟨u,by simpa using k3,k4.mono (fun _ _=>rfl) (fun _ h=>.inl h)⟩)
 refine ⟨_,hdef,hsz,{ y with S:=S',H:=hget h',n:=y.n },hyw,hle.trans hrec.1,hrec.2,rfl,hyn,fun t=>?_⟩
 rcases he.get t with h1 | h1
 ·rw [h1]; exact .any _
 ·rcases h1 with h1 | ⟨cs,ds,h1,h2,h3⟩
  ·exact hfr (z:={ y with S:=S',H:=hget h',n:=y.n }) rfl rfl h1 _ (henv t) ((henv t).mono hrec.1)
  ·rw [h2]
   obtain ⟨k1,k2⟩:=h3.get
   have hv:=henv t
   rw [h1] at hv
   generalize hu:a.tmps.getD t undef=v at hv
   cases hv with
   | @agg _ us hl hall=>
    refine .agg (by omega) fun i b u hb hu'=>?_
    obtain ⟨a0,k3,k4⟩:=k2 i b hb
    exact hfr (z:={ y with S:=S',H:=hget h',n:=y.n }) rfl rfl k4 u (hall i a0 u k3 hu') ((hall i a0 u k3 hu').mono hrec.1)
theorem X4 {ρ:Type} {P:Program} {T r:ρ} {rs:List ResultVar} {k:Nat} {x:Exit} {s:St} (F:ρ→AV→AN→Prop) (e:some T=some r) (h:LO P rs k (F T) x s):LO P rs k (F r) x s:=by cases e; exact h
theorem Yb {P:Program} {Q:Exit→St→Prop} {s:St} {x y:Code} (h : ∀ K:St→Prop,(∀ s,AW P y Q s→K s)→(∀ s s',Ac s s'→K s'→K s)→AW P x (EF K Q) s):AW P (.seq x y) Q s:=
 .seq (h _ (fun _ h=>h) fun _ _ hw h=>.weak hw h)
def BG (Q:Exit→St→Prop) (e:Exit) (s:St):Prop:=∃ s',Ac s s'∧Q e s'
theorem BG.mk {Q:Exit→St→Prop} {e:Exit} {s s':St} (hw:Ac s s') (h:Q e s'):BG Q e s:=⟨s',hw,h⟩
theorem AW.retW {P:Program} {c:Code} {Q:Exit→St→Prop} {s:St} (h:AW P c (BG Q) s):AW P c Q s:=
 fun z hz c0 a w hs=>wpIn_mono (h z hz c0 a w hs) fun _ _ _ ⟨ho,_,⟨s'',hw,hq⟩,hs'⟩=>⟨ho,s'',hq,hw _ _ _ hs'⟩
theorem CR {P : Program} {f : FuncId} {fn : Func} {code : Code} {args : List AV} {k N : Nat} {hc : AN} {Post : AV → AN → Prop} (hf : P.funcs[f]? = some fn) (hb : fn.body = some code) (hname : (fn.name == "runtime.NumGoroutine") = false) (hN : fn.ntmps = N)
  (hlen:args.length≤N) (hw : ∀ n0,AW P code (BG (LO P fn.results.toList k Post)) ⟨E4 0 args,hc,n0,N⟩):A1 P f k args hc Post:=A1.mk hf hb hname hN hlen fun n0=>(hw n0).retW
def AG (l:List Nat):Nat→Nat:=fun k=>l.getD k 0
theorem TF {a0 α:Type} {m:Option (a0)} {f:a0→Option α} {r:α} {G:Prop} (h:AB m f=some r) (k : ∀ x0,m=some x0→f x0=some r→G):G:=by
 cases m with
 | none=>cases h
 | some p=>exact k _ rfl h
theorem BL {a0 α:Type} {m:Option (a0)} {f:a0→Option α} {r:α} {G:Prop} (h:AB m f=some r) (k : ∀ p,m=some p→(∀ x0,p=x0→f x0=some r)→G):G:=by
 obtain ⟨p,h1,h2⟩:=Wb h; exact k p h1 h2
theorem Aw {a0 α:Type} {m:Option (Aj (a0) α)} {f:a0→Option α} {r:α} {G:Prop} (h:Ap m f=some r) (k : ∀ o,m=some o→(∀ x0,o = .nrm x0→f x0=some r)→(∀ t,o = .ext t→some t=some r)→G):G:=by
 obtain ⟨p,h1,h2,h3⟩:=Tv h; exact k p h1 h2 h3
def MG {a0 ρ:Type} (v:(a0) ⊕ ρ) (R:a0→(Nat→Nat)→St) (st:St):Prop:=∃ x0 i,v = .inl x0∧Ac st (R x0 i)
theorem MG.mk {a0 ρ:Type} {v:(a0) ⊕ ρ} {R:a0→(Nat→Nat)→St} {st:St} {x0:_} (e:some (Sum.inl x0)=some v) (i:Nat→Nat) (hw:Ac st (R x0 i)):MG v R st:=⟨_,i,(Option.some.inj e).symm,hw⟩
theorem YZ {a0 ρ:Type} {f:(a0)→Option ((a0) ⊕ ρ)} {P:Program} {Q:Exit→St→Prop} {s:St} {x:Code} {x0:a0} {o:ρ} (R:a0→(Nat→Nat)→St) (i0:Nat→Nat) (hit:Al.iter f x0=some o) (hw:Ac s (R x0 i0))
  (round : ∀ x0 i v,f x0=some v→(∀ q,v = .inr q→o=q)→AW P x (EF (MG v R) Q) (R x0 i)):AW P (.loop x) Q s:=by
 refine AW.iter (fun (a:a0) st=>∃ i,st=R a i) hit ⟨_,hw,i0,rfl⟩ ?_
 rintro x0 st v ⟨i,rfl⟩ hv hx
 refine (round x0 i v hv hx).mono fun e st' hq=>?_
 cases e with
 | normal=>
  obtain ⟨y0,i',e,hw'⟩:=hq
  exact ⟨_,e,_,hw',i',rfl⟩
 | exit _=>exact hq
 | goto _=>exact hq
 | ret=>exact hq
 | panic _=>exact hq
 | outgrown=>exact hq
theorem Ee {a0 a1 α:Type} {m:Option (a0 × a1)} {f:a0→a1→Option α} {r:α} {G:Prop} (h:CZ m f=some r) (k : ∀ x0 x1,m=some (x0,x1)→f x0 x1=some r→G):G:=by
 cases m with
 | none=>cases h
 | some p=>exact k _ _ rfl h
theorem S9 {a0 a1 α:Type} {m:Option (a0 × a1)} {f:a0→a1→Option α} {r:α} {G:Prop} (h:CZ m f=some r) (k : ∀ p,m=some p→(∀ x0 x1,p=(x0,x1)→f x0 x1=some r)→G):G:=by
 obtain ⟨p,h1,h2⟩:=UD h; exact k p h1 h2
def CF {a0 a1 ρ:Type} (v:(a0 × a1) ⊕ ρ) (R:a0→a1→(Nat→Nat)→St) (st:St):Prop:=∃ x0 x1 i,v = .inl (x0,x1)∧Ac st (R x0 x1 i)
theorem CF.mk {a0 a1 ρ:Type} {v:(a0 × a1) ⊕ ρ} {R:a0→a1→(Nat→Nat)→St} {st:St} {x0:a0} {x1:a1} (e:some (Sum.inl (x0,x1))=some v) (i:Nat→Nat) (hw:Ac st (R x0 x1 i)):CF v R st:=⟨_,_,i,(Option.some.inj e).symm,hw⟩
theorem Cu {a0 a1 ρ:Type} {f:(a0 × a1)→Option ((a0 × a1) ⊕ ρ)} {P:Program} {Q:Exit→St→Prop} {s:St} {x:Code} {x0:a0} {x1:a1} {o:ρ} (R:a0→a1→(Nat→Nat)→St) (i0:Nat→Nat) (hit:Al.iter f (x0,x1)=some o) (hw:Ac s (R x0 x1 i0))
  (round : ∀ x0 x1 i v,f (x0,x1)=some v→(∀ q,v = .inr q→o=q)→AW P x (EF (CF v R) Q) (R x0 x1 i)):AW P (.loop x) Q s:=by
 refine AW.iter (fun (a:a0 × a1) st=>∃ i,st=R a.1 a.2 i) hit ⟨_,hw,i0,rfl⟩ ?_
 rintro ⟨x0,x1⟩ st v ⟨i,rfl⟩ hv hx
 refine (round x0 x1 i v hv hx).mono fun e st' hq=>?_
 cases e with
 | normal=>
  obtain ⟨y0,y1,i',e,hw'⟩:=hq
  exact ⟨_,e,_,hw',i',rfl⟩
 | exit _=>exact hq
 | goto _=>exact hq
 | ret=>exact hq
 | panic _=>exact hq
 | outgrown=>exact hq
def Mf {a0 a1 a2 ρ:Type} (v:(a0 × a1 × a2) ⊕ ρ) (R:a0→a1→a2→(Nat→Nat)→St) (st:St):Prop:=∃ x0 x1 x2 i,v = .inl (x0,x1,x2)∧Ac st (R x0 x1 x2 i)
theorem Mf.mk {a0 a1 a2 ρ:Type} {v:(a0 × a1 × a2) ⊕ ρ} {R:a0→a1→a2→(Nat→Nat)→St} {st:St} {x0:a0} {x1:a1} {x2:a2} (e:some (Sum.inl (x0,x1,x2))=some v) (i:Nat→Nat) (hw:Ac st (R x0 x1 x2 i)):Mf v R st:=⟨_,_,_,i,(Option.some.inj e).symm,hw⟩
theorem YT {a0 a1 a2 ρ:Type} {f:(a0 × a1 × a2)→Option ((a0 × a1 × a2) ⊕ ρ)} {P:Program} {Q:Exit→St→Prop} {s:St} {x:Code} {x0:a0} {x1:a1} {x2:a2} {o:ρ} (R:a0→a1→a2→(Nat→Nat)→St) (i0:Nat→Nat) (hit:Al.iter f (x0,x1,x2)=some o) (hw:Ac s (R x0 x1 x2 i0))
  (round : ∀ x0 x1 x2 i v,f (x0,x1,x2)=some v→(∀ q,v = .inr q→o=q)→AW P x (EF (Mf v R) Q) (R x0 x1 x2 i)):AW P (.loop x) Q s:=by
 refine AW.iter (fun (a:a0 × a1 × a2) st=>∃ i,st=R a.1 a.2.1 a.2.2 i) hit ⟨_,hw,i0,rfl⟩ ?_
 rintro ⟨x0,x1,x2⟩ st v ⟨i,rfl⟩ hv hx
 refine (round x0 x1 x2 i v hv hx).mono fun e st' hq=>?_
 cases e with
 | normal=>
  obtain ⟨y0,y1,y2,i',e,hw'⟩:=hq
  exact ⟨_,e,_,hw',i',rfl⟩
 | exit _=>exact hq
 | goto _=>exact hq
 | ret=>exact hq
 | panic _=>exact hq
 | outgrown=>exact hq
theorem Ov {a0 a1 a2 a3 α:Type} {m:Option (a0 × a1 × a2 × a3)} {f:a0→a1→a2→a3→Option α} {r:α} {G:Prop} (h:L7 m f=some r) (k : ∀ x0 x1 x2 x3,m=some (x0,x1,x2,x3)→f x0 x1 x2 x3=some r→G):G:=by
 cases m with
 | none=>cases h
 | some p=>exact k _ _ _ _ rfl h
theorem RR {a0 a1 a2 a3 a4 α:Type} {m:Option (Aj (a0 × a1 × a2 × a3 × a4) α)} {f:a0→a1→a2→a3→a4→Option α} {r:α} {G:Prop} (h:Lq m f=some r) (k : ∀ o,m=some o→(∀ x0 x1 x2 x3 x4,o = .nrm (x0,x1,x2,x3,x4)→f x0 x1 x2 x3 x4=some r)→(∀ t,o = .ext t→some t=some r)→G):G:=by
 obtain ⟨p,h1,h2,h3⟩:=WT h; exact k p h1 h2 h3
def Le {a0 a1 a2 a3 a4 a5 ρ:Type} (v:(a0 × a1 × a2 × a3 × a4 × a5) ⊕ ρ) (R:a0→a1→a2→a3→a4→a5→(Nat→Nat)→St) (st:St):Prop:=∃ x0 x1 x2 x3 x4 x5 i,v = .inl (x0,x1,x2,x3,x4,x5)∧Ac st (R x0 x1 x2 x3 x4 x5 i)
theorem Le.mk {a0 a1 a2 a3 a4 a5 ρ:Type} {v:(a0 × a1 × a2 × a3 × a4 × a5) ⊕ ρ} {R:a0→a1→a2→a3→a4→a5→(Nat→Nat)→St} {st:St} {x0:a0} {x1:a1} {x2:a2} {x3:a3} {x4:a4} {x5:a5} (e:some (Sum.inl (x0,x1,x2,x3,x4,x5))=some v) (i:Nat→Nat) (hw:Ac st (R x0 x1 x2 x3 x4 x5 i)):Le v R st:=⟨_,_,_,_,_,_,i,(Option.some.inj e).symm,hw⟩
theorem Ya {a0 a1 a2 a3 a4 a5 ρ:Type} {f:(a0 × a1 × a2 × a3 × a4 × a5)→Option ((a0 × a1 × a2 × a3 × a4 × a5) ⊕ ρ)} {P:Program} {Q:Exit→St→Prop} {s:St} {x:Code} {x0:a0} {x1:a1} {x2:a2} {x3:a3} {x4:a4} {x5:a5} {o:ρ} (R:a0→a1→a2→a3→a4→a5→(Nat→Nat)→St) (i0:Nat→Nat) (hit:Al.iter f (x0,x1,x2,x3,x4,x5)=some o) (hw:Ac s (R x0 x1 x2 x3 x4 x5 i0))
  (round : ∀ x0 x1 x2 x3 x4 x5 i v,f (x0,x1,x2,x3,x4,x5)=some v→(∀ q,v = .inr q→o=q)→AW P x (EF (Le v R) Q) (R x0 x1 x2 x3 x4 x5 i)):AW P (.loop x) Q s:=by
 refine AW.iter (fun (a:a0 × a1 × a2 × a3 × a4 × a5) st=>∃ i,st=R a.1 a.2.1 a.2.2.1 a.2.2.2.1 a.2.2.2.2.1 a.2.2.2.2.2 i) hit ⟨_,hw,i0,rfl⟩ ?_
 rintro ⟨x0,x1,x2,x3,x4,x5⟩ st v ⟨i,rfl⟩ hv hx
 refine (round x0 x1 x2 x3 x4 x5 i v hv hx).mono fun e st' hq=>?_
 cases e with
 | normal=>
  obtain ⟨y0,y1,y2,y3,y4,y5,i',e,hw'⟩:=hq
  exact ⟨_,e,_,hw',i',rfl⟩
 | exit _=>exact hq
 | goto _=>exact hq
 | ret=>exact hq
 | panic _=>exact hq
 | outgrown=>exact hq
theorem YC {P:Program} {ops:Array Oper} {rest:List Oper} {s:St} {K:St→Prop} {o:Oper} {d:Nat} {f:FuncId} {fo:Operand} {xs:Array Operand} {ats:Array TypeId} {caps bs:List AV} (L:List Nat) {hc:AN} {F:(Nat→Nat)→AV} {G:(Nat→Nat)→AN} (hg:o.guard=none) (hd:o.dst=some d) (hN:Nat.blt d s.N=true)
  (ho:o.op = .call { callee:=.value fo,args:=xs,argTypes:=ats }) (hfo:Ev true s.e fo (.fn f (Cv L caps))) (hcc:ED L.length caps=true) (hx:GD s.e L xs.toList bs) (hsh:EM s.h L hc) (hnd:L.Nodup)
  (hcon:A1 P f L.length (bs++caps) hc (fun r h'=>∃ i,r=F i∧h'=G i))
  (hr : ∀ i n',AK P ops rest { e:=(d,ren L (F i)) :: s.e,h:=DM L (G i) 1000 L++s.h,n:=n',N:=s.N } K):AK P ops (o :: rest) s K:=by grind [YK]
def OA:Option TypeDesc→AV→AV→Option Bool
 | some (.int _),.r (.int k m),.r (.int k' n)=>if k=k' then some (decide (m=n)) else none
 | some .bool,.r (.bool a),.r (.bool b)=>some (a == b)
 | some .string,.r (.str a),.r (.str b)=>some (decide (a=b))
 | _,_,_=>none
def Fu:List (Option TypeDesc)→List AV→List AV→Option Bool
 | [],[],[]=>some true
 | d :: ds,a :: l,b :: m=>match OA d a b,Fu ds l m with
  | some x,some y=>some (x && y)
  | _,_=>none
 | _,_,_=>none
def Ma (P:Program):Nat→List Field→List (Option TypeDesc)→Prop
 | _,[],[]=>True
 | i, f :: fs, d :: ds => (f.name == "_") = false ∧ f.offset = i ∧ P.underlying f.type = d ∧ Ma P (i + 1) fs ds
 | _,_,_=>False
def E2 (P:Program) (t:TypeId) (ds:List (Option TypeDesc)):Prop:=P.underlying t=some (.struct (P.fieldsOf t))∧P.stoodInHeld t=false∧P.eqGuardType P.depth t=false∧Ma P 0 (P.fieldsOf t).toList ds
theorem Tc {P:Program} {x:Cx} {d:Nat} {t:TypeId} {a b:AV} {u v:Value} {r:Bool} (ha:AR x a u) (hb:AR x b v) (hr:OA (P.underlying t) a b=some r) (w:World) :
  (Op.equalIn (d+1) t u v).run P w = .ok r w ∧ ∃ e,P.underlying t=some e∧Gg e=true:=by
 unfold OA at hr
 split at hr
 ·rename_i hd
  obtain rfl:=Bw ha
  obtain rfl:=Bw hb
  split at hr
  ·rename_i hk; subst hk; cases hr
   refine ⟨?_,_,hd,rfl⟩
   rw [run_equalIn_int w d t _ _ _ _ hd]
   congr 1
  ·cases hr
 ·rename_i hd
  obtain rfl:=EJ ha
  obtain rfl:=EJ hb
  cases hr
  exact ⟨run_equalIn_bool' w d t _ _ hd,_,hd,rfl⟩
 ·rename_i hd
  obtain rfl:=Fr ha
  obtain rfl:=Fr hb
  cases hr
  refine ⟨?_,_,hd,rfl⟩
  rw [run_equalIn_string w d t _ _ hd]
  congr 1
  simp [ByteArray.toList_eq]
  grind
 ·cases hr
theorem Qe {P:Program} {x:Cx} {d:Nat} {us vs:Array Value} (w:World) : ∀ (fs:List Field) (ds:List (Option TypeDesc)) (i:Nat) (cs es:List AV) (r:Bool),Ma P i fs ds→cs.length+i=us.size→es.length+i=vs.size →
  (∀ (j:Nat) (c:AV) (u:Value),cs[j]? = some c→us[i+j]? = some u→AR x c u)→(∀ (j:Nat) (c:AV) (u:Value),es[j]? = some c→vs[i+j]? = some u→AR x c u) →
  Fu ds cs es=some r→(Op.eqFields (d+1) us vs fs).run P w = .ok r w
 | [],ds,i,cs,es,r,hf,hl,hm,hc,he,hr=>by
  cases ds with
  | cons _ _=>exact hf.elim
  | nil=>
   unfold Fu at hr
   split at hr
   ·cases hr; simp [Op.eqFields]
   ·rename_i h; cases h
   ·cases hr
 | f :: fs,ds,i,cs,es,r,hf,hl,hm,hc,he,hr=>by
  cases ds with
  | nil=>exact hf.elim
  | cons dd ds=>
   obtain ⟨h1,h2,h3,h4⟩:=hf
   cases cs with
   | nil=>simp [Fu] at hr
   | cons a l=>
    cases es with
    | nil=>simp [Fu] at hr
    | cons b m=>
     simp only [Fu] at hr
     split at hr
     ·rename_i xb yb e1 e2
      cases hr
      have hui:i<us.size:=by simp at hl; omega
      have hvi:i<vs.size:=by simp at hm; omega
      have ra:=hc 0 a us[i] rfl (by simp)
      have rb:=he 0 b vs[i] rfl (by simp)
      subst h3
      obtain ⟨k1,e,k2,k3⟩:=Tc (d:=d) ra rb e1 w
      have hpu:(part f.type us f.offset).run P w = .ok us[i] w:=by
       rw [h2]; simp [part,HS k2,k3,Array.getElem?_eq_getElem hui]
      have hpv:(part f.type vs f.offset).run P w = .ok vs[i] w:=by
       rw [h2]; simp [part,HS k2,k3,Array.getElem?_eq_getElem hvi]
      have hl':l.length+(i+1)=us.size:=by simp at hl; omega
      have hm':m.length+(i+1)=vs.size:=by simp at hm; omega
      have ih:=Qe (d:=d) (x:=x) (us:=us) (vs:=vs) w fs ds (i+1) l m yb h4 hl' hm'
       (fun j c u hj hu=>hc (j+1) c u (by simpa using hj) (by rw [← hu,show i+1+j=i+(j+1) by omega])) (fun j c u hj hu=>he (j+1) c u (by simpa using hj) (by rw [← hu,show i+1+j=i+(j+1) by omega])) e2
      have hne : f.name ≠ "_" := by intro h; rw [h] at h1; simp at h1
      simp only [Op.eqFields,if_pos hne,Sem.run_bind,hpu,hpv,Result.andThen_ok,k1]
      cases xb
      ·simp
      ·simpa using ih
     ·cases hr
section
variable {P:Program} {c:Bool} {o:Oper} {R:AU} {h:AN}
theorem Rh {t:TypeId} {x y:Operand} {cs ds:List AV} {kk:List (Option TypeDesc)} {r:Bool} {z:Cx} {a:Act} (ht:E2 P t kk) (hx:AR z (.agg cs) (a.eval x)) (hy:AR z (.agg ds) (a.eval y)) (he:Fu kk cs ds=some r) :
  ∃ us vs,a.eval x = .agg us∧a.eval y = .agg vs ∧ ∀ w,(Op.equalIn 10000 t (.agg us) (.agg vs)).run P w = .ok r w:=by
 generalize a.eval x=u at hx
 generalize a.eval y=v at hy
 cases hx with
 | @agg _ us hl hall=>
  cases hy with
  | @agg _ vs hm hbll=>
   obtain ⟨h1,h2,_,h4⟩:=ht
   refine ⟨us,vs,rfl,rfl,fun w=>?_⟩
   rw [run_equalIn_agg w 9999 t us vs h1 h2]
   exact Qe (x:=z) w _ kk 0 cs ds r h4 hl hm (fun j b u hj hu=>hall j b u hj (by simpa using hu)) (fun j b u hj hu=>hbll j b u hj (by simpa using hu)) he
theorem Ht {t t':TypeId} {x y:Operand} {cs ds:List AV} {kk:List (Option TypeDesc)} {r:Bool} (ho:o.op = .binOp .neq t x y t') (ht:E2 P t kk) (hx:Ev c R x (.agg cs)) (hy:Ev c R y (.agg ds)) (he:Fu kk cs ds=some r):AY P c o R h (.r (.bool (!r))):=by
 intro hc z a _ _ hev
 obtain ⟨us,vs,h1,h2,h3⟩:=Rh ht (hx.rep hev hc) (hy.rep hev hc) he
 refine ⟨.bool (!r),fun w2 _=>?_,.r (.bool _)⟩
 unfold execOp
 rw [ho]
 simp only [h1,h2]
 simp [run_eqGuard_agg w2 .neq t x y us vs ht.2.2.1,run_neq_struct,h3]
end
section
variable {P:Program} {ops:Array Oper} {rest:List Oper} {s:St} {K:St→Prop} {o:Oper}
theorem AK.split (c:Bool) (h1:c=true→AK P ops rest s K) (h2:c=false→AK P ops rest s K):AK P ops rest s K:=by
 cases c
 ·exact h2 rfl
 ·exact h1 rfl
theorem Ct {d:Nat} {c:Bool} (hG:CW s.e ops o c) (hc:c=false) (hd:o.dst=some d)
  (hN:Nat.blt d s.N=true) (hr:AK P ops rest { e:=(d,.whn c (.r (.bool false))) :: s.e,h:=s.h,n:=s.n,N:=s.N } K):AK P ops (o :: rest) s K:=by
 intro c0 a w ⟨_,hdef,hsz,y,hyw,hle,hok,hH,hn,he⟩ Q hQ
 subst hyw
 have hN':d<a.tmps.size:=by rw [hsz]; exact E7 hN
 refine wpList_step fun K' hK'=>?_
 rw [hG.wanted he,if_neg (by rw [hc]; decide)]
 refine hK' _ _ ?_
 rw [hd]
 exact hr c0 (a.put (some d) undef) y.w ⟨_,hdef,by simpa [Act.put] using hsz,y,rfl,hle,hok,hH,hn,he.put hN' (.whn (fun h=>by rw [hc] at h; cases h) (fun _=>rfl))⟩ Q hQ
end
section
variable {P:Program}
def I5 (G:ResultVar→AV→Prop):List ResultVar→List AV→Prop
 | [],[]=>True
 | x :: l,r :: rs=>G x r∧I5 G l rs
 | _,_=>False
def Nn (G:ResultVar→AV→Prop) (rs:List ResultVar) (r:AV):Prop:=match rs with
 | [x]=>G x r
 | _=>∃ l,r = .tup l∧I5 G rs l
theorem I5.get {G:ResultVar→AV→Prop} {rs:List ResultVar} {l:List AV} (h:I5 G rs l):rs.length=l.length ∧ ∀ (i:Nat) (x:ResultVar),rs[i]? = some x → ∃ r,l[i]? = some r∧G x r:=by
 induction rs generalizing l with
 | nil=>cases l with | nil=>exact ⟨rfl,by simp⟩ | cons _ _=>exact h.elim
 | cons x rs ih=>
  cases l with
  | nil=>exact h.elim
  | cons r l=>
   obtain ⟨h1,h2⟩:=ih h.2
   refine ⟨by simp [h1],fun i y hi=>?_⟩
   cases i with
   | zero=>simp at hi; subst hi; exact ⟨r,rfl,h.1⟩
   | succ i=>grind
theorem V7 {fn:Func} {y z:Cx} {a:Act} {r:AV} (G:ResultVar→AV→Prop) (hG : ∀ x r,G x r → ∃ u,AR z r u∧(Ds a.tmps x).run P y.w = .ok u y.w) (hq:Nn G fn.results.toList r) : ∃ u,(results fn a.tmps).run P y.w = .ok u y.w∧AR z r u:=by
 by_cases h1:fn.results.toList.length=1
 ·obtain ⟨x0,hx0⟩:=List.length_eq_one_iff.1 h1
  rw [hx0] at hq
  obtain ⟨u,hr,hrun0⟩:=hG x0 r hq
  have hrun:=Ly (P:=P) (fn:=fn) (tmps:=a.tmps) (w:=y.w) [u] (fun i x hi=>by
   have hi':fn.results.toList[i]? = some x:=by grind
   grind) (by rw [← Array.length_toList,h1]; rfl)
  grind
 ·have hq' : ∃ l,r = .tup l∧I5 G fn.results.toList l:=by
   revert hq h1
   generalize fn.results.toList=rs
   intro hq h1
   match rs,h1,hq with
   | [],_,hq=>exact hq
   | [_],h1,_=>grind
   | _ :: _ :: _,_,hq=>exact hq
  obtain ⟨l,rfl,hall⟩:=hq'
  obtain ⟨hl,hg⟩:=hall.get
  have hread : ∀ i,i<l.length → ∃ u,∀ x r,fn.results.toList[i]? = some x→l[i]? = some r→AR z r u∧(Ds a.tmps x).run P y.w = .ok u y.w:=by
   intro i hi
   have hi2:i<fn.results.toList.length:=by omega
   obtain ⟨r,h2,h3⟩:=hg i _ (List.getElem?_eq_getElem hi2)
   simp_all
  obtain ⟨us,hul,hut⟩:=NC l.length hread
  have hsz:us.length=fn.results.size:=by grind
  have hrun:=Ly (P:=P) (fn:=fn) (tmps:=a.tmps) (w:=y.w) us (fun i x hi=>by
   have hi':fn.results.toList[i]? = some x:=by grind
   grind) hsz
  have hne : ¬ us.toArray.size=1:=by
   grind
  rw [dif_neg hne] at hrun
  refine ⟨_,hrun,.tup (by rw [List.size_toArray,hul]) fun i c u k1 k2=>?_⟩
  have k3:us[i]? = some u:=by grind
  have hil:i<fn.results.toList.length:=by grind
  exact (hut i u k3 _ c (List.getElem?_eq_getElem hil) k1).1
def Dx (P:Program) (s:St):ResultVar→AV→Prop
 | .tmp t,r=>Fz s.h (get s.e t) r
 | .cell a t,r=>(∃ id g e c,A8 P t∧get s.e a = .ptr id g 0 0∧hget s.h id=some (.box g e [c])∧Fz s.h c r)∨(∃ sz id g e cs,BH P t sz∧get s.e a = .ptr id g 0 0∧hget s.h id=some (.box g e cs)∧cs.length=sz∧Fz s.h (.agg cs) r)
theorem Dx.rep {y:Cx} (hok:y.ok) {s:St} (hH:y.H=hget s.h) {a:Act} (he:BN y s.e a) (x:ResultVar) (r:AV) (hr:Dx P s x r) : ∃ u,AR y.frozen r u∧(Ds a.tmps x).run P y.w = .ok u y.w:=by
 cases x with
 | tmp t=>exact ⟨_,Fz.rep hok hH hr (he t),rfl⟩
 | cell c t=>
  rcases hr with ⟨id,g,e,v,ht,h1,h2,h3⟩ | ⟨sz,id,g,e,cs,ht,h1,h2,hl,h3⟩
  ·have hHid:y.H id=some (.box g e [v]):=by rw [hH]; exact h2
   have h0:=he c
   rw [h1] at h0
   obtain ⟨b,cur,k1,k2,k3,k4,k5⟩:=F5 hok hHid h0
   obtain ⟨u,h6,_,h7⟩:=k5 0 v rfl
   refine ⟨u,Fz.rep hok hH h3 h7,?_⟩
   obtain ⟨d,i,e1,e2,_,_⟩:=ht
   have hcell:=(cell_of_row _ b 0 cur e _ k3).trans h6
   simp only [Ds,k2]
   simp [asAddr,loadVar,HS e1,e2,hcell]
  ·have hHid:y.H id=some (.box g e cs):=by rw [hH]; exact h2
   have h0:=he c
   rw [h1] at h0
   obtain ⟨b,cur,k1,k2,k3,k4,k5⟩:=F5 hok hHid h0
   have hcell : ∀ j,j<sz→y.w.cell? ⟨b,0+j,none⟩=some ((fun j=>cur.getD j undef) j):=by
    intro j hj
    have hj':j<cur.size:=by omega
    rw [Nat.zero_add,cell_of_row _ b j cur e _ k3]
    simp [hj']
   refine ⟨.agg ((List.range sz).map fun j=>cur.getD j undef).toArray,Fz.rep hok hH h3 (Gy hl _ fun j a hj=>?_),?_⟩
   ·obtain ⟨u,h6,_,h7⟩:=k5 _ _ hj
    simp_all
   ·have hrun:=Gd (P:=P) ht (w:=y.w) (b:=b) (k:=0) (fun j=>cur.getD j undef) hcell
    simp only [Ds,k2]
    simpa [asAddr,Instr.loadAt,Instr.sureAddr] using hrun
def GG (P:Program) (rs:List ResultVar) (r:AV):Exit→St→Prop
 | .normal,s | .ret,s=>Nn (Dx P s) rs r
 | _,_=>False
theorem YW {f : FuncId} {fn : Func} {code : Code} {args : List AV} {r : AV} {N : Nat} (hf : P.funcs[f]? = some fn) (hb : fn.body = some code) (hname : (fn.name == "runtime.NumGoroutine") = false) (hN : fn.ntmps = N) (hr : r.closed = true)
  (hlen:args.length≤N) (hw : ∀ n0,AW P code (GG P fn.results.toList r) ⟨E4 0 args,[],n0,N⟩):AX P f args r:=by
 refine ⟨⟨fn,hf,by rw [hb]; rfl,hname⟩,hr,fun x vs hok hH hargs=>?_⟩
 have hvl:vs.size=args.length:=by simpa using hargs.1
 have hsim:Bz x ⟨E4 0 args,[],x.n,N⟩ { tmps:=vs++Array.replicate (fn.ntmps-vs.size) undef,defers:=[] } x.w:=by
  refine ⟨_,rfl,by simp; omega,x,rfl,.refl x,hok,by rw [hH]; rfl,rfl,fun t=>?_⟩
  rcases Oe args 0 t with h1 | ⟨j,a,h1,h2,h3⟩
  ·rw [h1]; exact .any _
  ·rw [h3]
   have hj:j<vs.size:=by grind
   have ht:t=j:=by omega
   subst ht
   have:(vs++Array.replicate (fn.ntmps-vs.size) undef).getD t undef=vs[t]:=by
    simp [Array.getD,hj]
    omega
   rw [this]
   exact hargs.2 t a vs[t] h2 (by simp [hj])
 have fin : ∀ {e:Exit} {a:Act} {y:Cx} {s:St},Nn (Dx P s) fn.results.toList r→x.le y→y.ok→y.H=hget s.h→y.n=s.n→BN y s.e a → ∃ u,(results fn a.tmps).run P y.w = .ok u y.w ∧ ∃ u' y',Ending.returned u = .returned u'∧y'.w=y.w∧x.le y'∧y'.ok∧AR y' r u':=by
  intro e a y s hq hle hok' hH' _ he
  obtain ⟨u,h1,h2⟩:=V7 (P:=P) (fn:=fn) (y:=y) (z:=y.frozen) (a:=a) (Dx P s) (fun x r h=>Dx.rep hok' hH' he x r h) hq
  exact ⟨u,h1,u,y.frozen,rfl,rfl,hle.trans OS,OR hok',h2⟩
 refine OZ hf hb hok hsim (hw x.n) fun e s a y hq hle hok' hH' hn' he=>?_
 cases e with
 | normal=>exact ⟨.inl rfl,fin (e:=.normal) hq hle hok' hH' hn' he⟩
 | ret=>exact ⟨.inr rfl,fin (e:=.ret) hq hle hok' hH' hn' he⟩
 | exit id=>exact hq.elim
 | goto l=>exact hq.elim
 | panic ch=>exact hq.elim
 | outgrown=>exact hq.elim
theorem Dx.t {s:St} {t:Nat} {r:AV} (h:Fz s.h (get s.e t) r):Dx P s (.tmp t) r:=h
theorem Dx.a {s:St} {a t id g e sz:Nat} {cs:List AV} {r:AV} (ht:BH P t sz) (h1:get s.e a = .ptr id g 0 0) (h2:hget s.h id=some (.box g e cs)) (hl:cs.length=sz) (h:Fz s.h (.agg cs) r):Dx P s (.cell a t) r:=.inr ⟨_,_,_,_,_,ht,h1,h2,hl,h⟩
end
theorem Db {ρ:Type} {P:Program} {T r:ρ} {x:Exit} {s:St} {x0:ResultVar} (F0:ρ→AV) (e:some T=some r) (hx:x = .ret∨x = .normal) (h0:Dx P s x0 (F0 T)):GG P [x0] (F0 r) x s:=by
 cases e
 rcases hx with rfl | rfl
 ·exact h0
 ·exact h0
theorem Dw {ρ:Type} {P:Program} {T r:ρ} {x:Exit} {s:St} {x0 x1:ResultVar} (F0:ρ→AV) (F1:ρ→AV) (e:some T=some r) (hx:x = .ret∨x = .normal) (h0:Dx P s x0 (F0 T)) (h1:Dx P s x1 (F1 T)):GG P [x0,x1] (.tup [F0 r,F1 r]) x s:=by
 cases e
 rcases hx with rfl | rfl
 ·exact ⟨_,rfl,⟨h0,h1,trivial⟩⟩
 ·exact ⟨_,rfl,⟨h0,h1,trivial⟩⟩
theorem Fz.d {h:AN} {a:AV} {d:RV} (e:a = .r d):Fz h a (.r d):=by subst e; exact .one (.closed _ rfl)
theorem Fz.g {h:AN} {a:AV} {cs:List RV} {ds:List AV} (e:a = .agg ds) (e2:ds=cs.map .r):Fz h a (.agg ds):=by subst e; subst e2; exact .one (.closed _ (Vi _))
theorem E2.of {P:Program} {t:TypeId} {fs:Array Field} {ds:List (Option TypeDesc)} (h1:P.underlying t=some (.struct fs)) (h2:P.stoodInHeld t=false) (h3:P.eqGuardType P.depth t=false) (h4:Ma P 0 fs.toList ds):E2 P t ds:=by
 have:P.fieldsOf t=fs:=by unfold Program.fieldsOf; rw [h1]
 exact ⟨by rw [this]; exact h1,h2,h3,by rw [this]; exact h4⟩
open Go.ChangeShapes Go.WideShapes Go.Deep Go.WideElems Go.RowKit
section
variable {H:Type} {enc:TypeId × Value→H} {P:Program} {W:World}
theorem VE {t:TypeId} {k:IntKind} {v:Value} {d:DataW H} {p:List MemPlace} {r:Reach} {b0:Nat} (ht:P.underlying t=some (.int k)) (hval:Value.okWide P W r b0 t v) (h:DataW.Trod enc P W 0 (fun _=>true) true t v d p) :
  ∃ n:Int,(Lit.int k n).wf=true∧Ar W (· < W.heap.size) (.int k n) v:=by
 obtain ⟨n,rfl,_,_,w⟩:=open_int ht hval h
 exact ⟨n,w,.int _ _⟩
end
end Go.Proofs.YtioekebmplhlmaaGreatDoor.Al
