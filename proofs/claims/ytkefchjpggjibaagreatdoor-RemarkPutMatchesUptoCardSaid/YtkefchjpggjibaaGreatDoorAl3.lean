/- The program logic, a part of it. -/
import Derived.Test.YtkefchjpggjibaaGreatDoorAl2
import Derived.Lib.LaidU8
namespace Go.Proofs.YtkefchjpggjibaaGreatDoor.Al
inductive KpE (e:Env):List Nat→Env→Prop
 | nil:KpE e [] []
 | cons {k:Nat} {ks:List Nat} {v:AV} {r:Env} (h:get e k=v) (t:KpE e ks r):KpE e (k :: ks) ((k,v) :: r)
inductive KpH (e:Heap):List Nat→Heap→Prop
 | nil:KpH e [] []
 | cons {k:Nat} {ks:List Nat} {v:AObj} {r:Heap} (h:hget e k=some v) (t:KpH e ks r):KpH e (k :: ks) ((k,some v) :: r)
theorem KpE.cv {e:Env} {ks:List Nat} {e':Env} (h:KpE e ks e'):CvE e' e:=by
 induction h with
 | nil=>trivial
 | cons h _ ih=>exact ⟨.inl (.inl h),ih⟩
theorem KpH.cv {e:Heap} {ks:List Nat} {e':Heap} (h:KpH e ks e'):CvH e' e:=by
 induction h with
 | nil=>trivial
 | cons h _ ih=>exact ⟨.inl h,ih⟩
section
variable {e:Env} {k:Nat} {ks:List Nat} {r:Env}
theorem kR {d:RV} (t:KpE e ks r) (h:get e k = .r d):KpE e (k :: ks) ((k,.r d) :: r):=.cons h t
theorem kP {a b c d:Nat} (t:KpE e ks r) (h:get e k = .ptr a b c d):KpE e (k :: ks) ((k,.ptr a b c d) :: r):=.cons h t
theorem kO {a b:Nat} (t:KpE e ks r) (h:get e k = .own a b):KpE e (k :: ks) ((k,.own a b) :: r):=.cons h t
theorem kA {d:List AV} (t:KpE e ks r) (h:get e k = .agg d):KpE e (k :: ks) ((k,.agg d) :: r):=.cons h t
theorem kC {d:Value} (t:KpE e ks r) (h:get e k = .cst d):KpE e (k :: ks) ((k,.cst d) :: r):=.cons h t
theorem kT {d:List AV} (t:KpE e ks r) (h:get e k = .tup d):KpE e (k :: ks) ((k,.tup d) :: r):=.cons h t
theorem kF {f:FuncId} {d:List AV} (t:KpE e ks r) (h:get e k = .fn f d):KpE e (k :: ks) ((k,.fn f d) :: r):=.cons h t
theorem kQ {d:List RV} {i:Nat} (t:KpE e ks r) (h:get e k = .rop d i):KpE e (k :: ks) ((k,.rop d i) :: r):=.cons h t
theorem kM {a b:Nat} (t:KpE e ks r) (h:get e k = .mref a b):KpE e (k :: ks) ((k,.mref a b) :: r):=.cons h t
theorem kW {b:Bool} {v:AV} (t:KpE e ks r) (h:get e k = .whn b v):KpE e (k :: ks) ((k,.whn b v) :: r):=.cons h t
theorem kL {xs:List (List RV)} (t:KpE e ks r) (h:get e k = .full xs):KpE e (k :: ks) ((k,.full xs) :: r):=.cons h t
end
section
variable {e:Heap} {k:Nat} {ks:List Nat} {r:Heap}
theorem hB {g:Nat} {t:TypeId} {cs:List AV} (t1:KpH e ks r) (h:hget e k=some (.box g t cs)):KpH e (k :: ks) ((k,some (.box g t cs)) :: r):=.cons h t1
theorem hA {g:Nat} {t:TypeId} {sz:Nat} {xs:List (List RV)} (t1:KpH e ks r) (h:hget e k=some (.arr g t sz xs)):KpH e (k :: ks) ((k,some (.arr g t sz xs)) :: r):=.cons h t1
theorem hC {o:AObj} (t1:KpH e ks r) (h:hget e k=some o):KpH e (k :: ks) ((k,some o) :: r):=.cons h t1
end
section
variable {P:Program} {Q:Exit→St→Prop} {x y:Code}
theorem aF {e:Env} {h:Heap} {n N:Nat} (ks:List Nat) {e':Env} (hr:AW P x Q ⟨e',[],n,N⟩)
  (he:KpE e ks e':=by repeat' first | exact KpE.nil | apply kR _ rfl | apply kP _ rfl | apply kA _ rfl | apply kO _ rfl | apply kC _ rfl | apply kT _ rfl | apply kF _ rfl | apply kQ _ rfl | apply kM _ rfl | apply kW _ rfl | apply kL _ rfl):AW P x Q ⟨e,h,n,N⟩:=
 AW.weak (Weak.cv (h':=[]) he.cv trivial (Nat.le_refl _)) hr
theorem aG {e:Env} {h:Heap} {n N:Nat} (ks js:List Nat) {e':Env} {h':Heap} (hr:AW P x Q ⟨e',h',n,N⟩)
  (he:KpE e ks e':=by repeat' first | exact KpE.nil | apply kR _ rfl | apply kP _ rfl | apply kA _ rfl | apply kO _ rfl | apply kC _ rfl | apply kT _ rfl | apply kF _ rfl | apply kQ _ rfl | apply kM _ rfl | apply kW _ rfl | apply kL _ rfl)
  (hh:KpH h js h':=by repeat' first | exact KpH.nil | apply hB _ rfl | apply hA _ rfl | apply hC _ rfl):AW P x Q ⟨e,h,n,N⟩:=
 AW.weak (Weak.cv he.cv hh.cv (Nat.le_refl _)) hr
end
section
variable {P:Program} {ops:Array Oper} {rest:List Oper} {K:St→Prop} {o o2:Oper} {e:Env} {h:Heap} {n N:Nat}
theorem aGo (ks js:List Nat) {e':Env} {h':Heap} (hr:AOps P ops rest ⟨e',h',n,N⟩ K)
  (he:KpE e ks e':=by repeat' first | exact KpE.nil | apply kR _ rfl | apply kP _ rfl | apply kA _ rfl | apply kO _ rfl | apply kC _ rfl | apply kT _ rfl | apply kF _ rfl | apply kQ _ rfl | apply kM _ rfl | apply kW _ rfl | apply kL _ rfl)
  (hh:KpH h js h':=by repeat' first | exact KpH.nil | apply hB _ rfl | apply hA _ rfl | apply hC _ rfl):AOps P ops rest ⟨e,h,n,N⟩ K:=
 AOps.weak (Weak.cv he.cv hh.cv (Nat.le_refl _)) hr
end
section
variable {P:Program} {ops:Array Oper} {rest:List Oper} {K:St→Prop} {o o2:Oper} {s:St}
theorem vQ {d j dj:Nat} {want b:Bool} {v:AV} (hg:(o.guard,o.dst,Nat.blt d s.N,(ops[j]?).bind (·.dst),YBP s.e (.tmp dj))=(some (j,want),some d,true,some dj,.r (.bool b))) (hs:OpQ P (b == want) o s.e s.h v)
  (hr:AOps P ops rest { e:=(d,.whn (b == want) v) :: s.e,h:=s.h,n:=s.n,N:=s.N } K):AOps P ops (o :: rest) s K:=by
 simp only [Prod.mk.injEq] at hg
 obtain ⟨h1,h2,h3,h4,h5⟩:=hg
 exact AOps.stepW (.one h1 h4 h5) h2 h3 (OpQ.spec hs _) hr
theorem wQ {d j dj:Nat} {want b c1:Bool} {v:AV} (hg:(o.guard,o.dst,Nat.blt d s.N,(ops[j]?).bind (·.dst),YBP s.e (.tmp dj))=(some (j,want),some d,true,some dj,.whn c1 (.r (.bool b)))) (hs:OpQ P (c1 && (b == want)) o s.e s.h v)
  (hr:AOps P ops rest { e:=(d,.whn (c1 && (b == want)) v) :: s.e,h:=s.h,n:=s.n,N:=s.N } K):AOps P ops (o :: rest) s K:=by
 simp only [Prod.mk.injEq] at hg
 obtain ⟨h1,h2,h3,h4,h5⟩:=hg
 exact AOps.stepW (.two h1 h4 h5) h2 h3 (OpQ.spec hs _) hr
theorem qP {d:Nat} {v:AV} (hg:(o.guard,o.dst,Nat.blt d s.N)=(none,some d,true)) (hs:OpQ P true o s.e s.h v)
  (hr:AQ P ops rest { e:=(d,v) :: s.e,h:=s.h,n:=s.n,N:=s.N } K):AQ P ops (o :: rest) s K:=
 AQ.step (Prod.mk.inj hg).1 (Prod.mk.inj (Prod.mk.inj hg).2).1 (Prod.mk.inj (Prod.mk.inj hg).2).2 hs hr
theorem qO {d j dj:Nat} {want b:Bool} {v:AV} (hg:(o.guard,o.dst,Nat.blt d s.N,(ops[j]?).bind (·.dst),YBP s.e (.tmp dj))=(some (j,want),some d,true,some dj,.r (.bool b))) (hs:OpQ P (b == want) o s.e s.h v)
  (hr:AQ P ops rest { e:=(d,.whn (b == want) v) :: s.e,h:=s.h,n:=s.n,N:=s.N } K):AQ P ops (o :: rest) s K:=by
 simp only [Prod.mk.injEq] at hg
 obtain ⟨h1,h2,h3,h4,h5⟩:=hg
 exact AQ.stepW (.one h1 h4 h5) h2 h3 hs hr
theorem qT {d j dj:Nat} {want b c1:Bool} {v:AV} (hg:(o.guard,o.dst,Nat.blt d s.N,(ops[j]?).bind (·.dst),YBP s.e (.tmp dj))=(some (j,want),some d,true,some dj,.whn c1 (.r (.bool b)))) (hs:OpQ P (c1 && (b == want)) o s.e s.h v)
  (hr:AQ P ops rest { e:=(d,.whn (c1 && (b == want)) v) :: s.e,h:=s.h,n:=s.n,N:=s.N } K):AQ P ops (o :: rest) s K:=by
 simp only [Prod.mk.injEq] at hg
 obtain ⟨h1,h2,h3,h4,h5⟩:=hg
 exact AQ.stepW (.two h1 h4 h5) h2 h3 hs hr
theorem sS {d:Nat} {v:AV} {h':Heap} {n':Nat} (hg:(o.guard,o.dst,Nat.blt d s.N)=(none,some d,true)) (hs:YAV P true o s.e s.h s.n v h' n')
  (hr:AOps P ops rest { e:=(d,v) :: s.e,h:=h',n:=n',N:=s.N } K):AOps P ops (o :: rest) s K:=
 AOps.step (Prod.mk.inj hg).1 (Prod.mk.inj (Prod.mk.inj hg).2).1 (Prod.mk.inj (Prod.mk.inj hg).2).2 hs hr
theorem lF {t t2:TypeId} {x y:Operand} {f off id g i k d1 d2 id' g' k':Nat} {e1 e2:TypeId} {cs cs':List AV} {a:AV} (h1:YAF P t f off) (h2:YAx P t2)
  (q1:(o.guard,o.dst,Nat.blt d1 s.N,o.op,YBP s.e x,hget s.h id)=(none,some d1,true,.fieldAddr t x f,.ptr id g i k,some (.box g e1 cs)))
  (q2:(o2.guard,o2.dst,Nat.blt d2 s.N,o2.op,YBP ((d1,.ptr id g i (k+off)) :: s.e) y,hget s.h id',cs'[k']?)=(none,some d2,true,.load t2 y,.ptr id' g' 0 k',some (.box g' e2 cs'),some a))
  (hr:AOps P ops rest { e:=(d2,a) :: (d1,.ptr id g i (k+off)) :: s.e,h:=s.h,n:=s.n,N:=s.N } K):AOps P ops (o :: o2 :: rest) s K:=by
 simp only [Prod.mk.injEq] at q1 q2
 obtain ⟨a1,a2,a3,a4,a5,a6⟩:=q1
 obtain ⟨b1,b2,b3,b4,b5,b6,b7⟩:=q2
 exact AOps.step a1 a2 a3 (OpQ.spec (YAk (ob:=.box g e1 cs) a4 h1 (.inl a5) (fun _=>a6) rfl) _) (AOps.step b1 b2 b3 (OpQ.spec (YIj b4 h2 (.inl b5) b6 b7) _) hr)
theorem vF {t t2:TypeId} {x y:Operand} {f off id g i k d1 d2 id' g' k' j dj j2 dj2:Nat} {w b w2 b2:Bool} {e1 e2:TypeId} {cs cs':List AV} {a:AV} (h1:YAF P t f off) (h2:YAx P t2)
  (q1:(o.guard,o.dst,Nat.blt d1 s.N,(ops[j]?).bind (·.dst),YBP s.e (.tmp dj),o.op,YBP s.e x,hget s.h id)=(some (j,w),some d1,true,some dj,.r (.bool b),.fieldAddr t x f,.ptr id g i k,some (.box g e1 cs)))
  (q2:(o2.guard,o2.dst,Nat.blt d2 s.N,(ops[j2]?).bind (·.dst),YBP ((d1,.whn (b == w) (.ptr id g i (k+off))) :: s.e) (.tmp dj2),o2.op,YBP ((d1,.whn (b == w) (.ptr id g i (k+off))) :: s.e) y,hget s.h id',cs'[k']?)=(some (j2,w2),some d2,true,some dj2,.r (.bool b2),.load t2 y,.whn (b2 == w2) (.ptr id' g' 0 k'),some (.box g' e2 cs'),some a))
  (hr:AOps P ops rest { e:=(d2,.whn (b2 == w2) a) :: (d1,.whn (b == w) (.ptr id g i (k+off))) :: s.e,h:=s.h,n:=s.n,N:=s.N } K):AOps P ops (o :: o2 :: rest) s K:=by
 simp only [Prod.mk.injEq] at q1 q2
 obtain ⟨a1,a2,a3,a4,a5,a6,a7,a8⟩:=q1
 obtain ⟨b1,b2,b3,b4,b5,b6,b7,b8,b9⟩:=q2
 exact AOps.stepW (.one a1 a4 a5) a2 a3 (OpQ.spec (YAk (ob:=.box g e1 cs) a6 h1 (.inl a7) (fun _=>a8) rfl) _) (AOps.stepW (.one b1 b4 b5) b2 b3 (OpQ.spec (YIj b6 h2 (iR b7) b8 b9) _) hr)
end
def AV.isR:AV→Bool
 | .r _=>true
 | _=>false
theorem YSe {l:List AV} (h:l.all AV.isR=true) : ∃ cs:List RV,l=cs.map .r:=by
 induction l with
 | nil=>exact ⟨[],rfl⟩
 | cons a l ih=>
  rw [List.all_cons,Bool.and_eq_true] at h
  obtain ⟨cs,rfl⟩:=ih h.2
  cases a with
  | r d=>exact ⟨d :: cs,rfl⟩
  | _=>exact Bool.noConfusion h.1
theorem Fz.g2 {h:Heap} {a:AV} {ds:List AV} (e:a = .agg ds) (e2:ds.all AV.isR=true):Fz h a (.agg ds):=by
 obtain ⟨cs,hc⟩:=YSe e2
 exact .g e hc
section
variable {P:Program} {ops:Array Oper} {rest:List Oper} {K:St→Prop} {o:Oper} {s:St}
theorem cL {d:Nat} {f:FuncId} {fo:Operand} {xs:Array Operand} {ats:Array TypeId} {bs:List AV} {r:AV} (hq:ARO P f bs r)
  (hg:(o.guard,o.dst,Nat.blt d s.N,o.op,YBP s.e fo,r.flat)=(none,some d,true,.call { callee:=.value fo,args:=xs,argTypes:=ats },.fn f [],true))
  (hr:AOps P ops rest { e:=(d,r) :: s.e,h:=s.h,n:=s.n,N:=s.N } K)
  (hx:YIS true s.e s.h xs.toList bs:=by repeat' first | exact trivial | refine ⟨⟨_,iL,.d rfl⟩,?_⟩ | refine ⟨⟨_,iL,.g2 rfl rfl⟩,?_⟩ | refine ⟨⟨_,iL,.one (.own rfl)⟩,?_⟩ | refine ⟨⟨_,iR rfl,.d rfl⟩,?_⟩ | refine ⟨⟨_,iR rfl,.g2 rfl rfl⟩,?_⟩):AOps P ops (o :: rest) s K:=by
 simp only [Prod.mk.injEq] at hg
 obtain ⟨h1,h2,h3,h4,h5,h6⟩:=hg
 exact AOps.step h1 h2 h3 (YBb (caps:=[]) h4 (.inl h5) rfl hx (fun _=>by rw [List.append_nil]; exact hq) h6) hr
theorem vL {d j dj:Nat} {want b:Bool} {f:FuncId} {fo:Operand} {xs:Array Operand} {ats:Array TypeId} {bs:List AV} {r:AV} (hq:(b == want)=true→ARO P f bs r)
  (hg:(o.guard,o.dst,Nat.blt d s.N,(ops[j]?).bind (·.dst),YBP s.e (.tmp dj),o.op,YBP s.e fo,r.flat)=(some (j,want),some d,true,some dj,.r (.bool b),.call { callee:=.value fo,args:=xs,argTypes:=ats },.fn f [],true))
  (hr:AOps P ops rest { e:=(d,.whn (b == want) r) :: s.e,h:=s.h,n:=s.n,N:=s.N } K)
  (hx:YIS (b == want) s.e s.h xs.toList bs:=by repeat' first | exact trivial | refine ⟨⟨_,iL,.d rfl⟩,?_⟩ | refine ⟨⟨_,iL,.g2 rfl rfl⟩,?_⟩ | refine ⟨⟨_,iL,.one (.own rfl)⟩,?_⟩ | refine ⟨⟨_,iR rfl,.d rfl⟩,?_⟩ | refine ⟨⟨_,iR rfl,.g2 rfl rfl⟩,?_⟩):AOps P ops (o :: rest) s K:=by
 simp only [Prod.mk.injEq] at hg
 obtain ⟨h1,h2,h3,h4,h5,h6,h7,h8⟩:=hg
 exact AOps.stepW (.one h1 h4 h5) h2 h3 (YBb (caps:=[]) h6 (.inl h7) rfl hx (fun hc=>by rw [List.append_nil]; exact hq hc) h8) hr
end
section
variable {P:Program} {Q:Exit→St→Prop} {s:St} {x y:Code}
theorem aU {id:Nat} {l:List Oper} (h:AOps P l.toArray l s fun s'=>AW P y Q s'):AW P (.seq (.region id l.toArray false) y) Q s:=.seq (.region h)
theorem aT (h : ∀ {K:St→Prop},(∀ s,AW P y Q s→K s)→AW P x (YIG K Q) s):AW P (.seq x y) Q s:=AW.seq_k fun _ h1=>h h1
theorem cI {α:Type} {b:Bool} {c:Operand} {X Y Z:α} (hc:YBP s.e c = .r (.bool b)) (h:(if b=true then X else Y)=Z) (ht:X=Z→AW P x Q s) (hf:Y=Z→AW P y Q s):AW P (.cond c x y) Q s:=
 AW.cond hc (fun e=>ht (YDO e h)) (fun e=>hf (YDP e h))
end
theorem mF {P:Program} {f:FuncId} {fn:Func} {code:Code} {args:List AV} {r:AV} {N:Nat} (hf:P.funcs[f]? = some fn) (hN:fn.ntmps=N)
  (hq : (fn.body, fn.name == "runtime.NumGoroutine", r.closed, Nat.ble args.length N) = (some code, false, true, true)) (hw : ∀ n0, AW P code (RetF P fn.results.toList r) ⟨YCt 0 args, [], n0, N⟩) : ARO P f args r := by
 simp only [Prod.mk.injEq] at hq
 obtain ⟨h1,h2,h3,h4⟩:=hq
 exact ARO.mkF hf h1 h2 hN h3 (Nat.le_of_ble_eq_true h4) hw
theorem oZ {P:Program} {ops:Array Oper} {s:St} {K:St→Prop} {y:Code} {Q:Exit→St→Prop} (hK : ∀ s,AW P y Q s→K s) (h:AW P y Q s):AOps P ops [] s K:=AOps.nil (hK _ h)
def YW2 (t i:Nat):List PO→Nat→Option Nat→Option Nat
 | [],_,r=>r
 | p :: L,k,r=>match Nat.blt k i with
  | true=>YW2 t i L (k+1) (match p.d with
   | some d=>(match Nat.beq d t with
    | true=>some k
    | false=>r)
   | none=>r)
  | false=>r
def YW1 (t i:Nat):List PO→Nat→Option Nat→Option Nat
 | [],_,r=>r
 | p :: L,k,r=>match Nat.blt k i with
  | true=>YW1 t i L (k+1) (match p.hp with
   | some (d,_)=>(match Nat.beq d t with
    | true=>some k
    | false=>r)
   | none=>r)
  | false=>r
section
variable {P:Program} {ops:Array Oper} {s:St} {L:List PO} {i:Nat} {p:PO} {o:Oper}
theorem YNH {D:Nat→Bool} {G:Nat→Nat} {e:Env} {t j:Nat} (hr:RdyP ops D i) (_:YW2 t i L 0 none=some j) {p:PO} {a:AV} (hj:L[j]? = some p) (hd:p.d=some t) (hw:wt ops 40 i j=true) (hB:noWE (L.drop (j+1)) t=true) (ha:p.v G=a):get (runE D G e L) t=a:=YJD hr j hj hd hw hB ha
theorem YNG {D:Nat→Bool} {G:Nat→Nat} {h:Heap} {t j:Nat} (hr:RdyP ops D i) (_:YW1 t i L 0 none=some j) {p:PO} {ob:(Nat→Nat)→Option AObj} {a:Option AObj} (hj:L[j]? = some p) (hd:p.hp=some (t,ob)) (hw:wt ops 40 i j=true) (hB:YND ops i t (L.drop (j+1)) (j+1)=true) (ha:ob G=a):hget (runH D G h L) t=a:=inH_op hr j hj hd hw hB ha
theorem oB (ie:Env) (ih:Heap) (h : ∀ {G e h'},OpQ P true o (ie++e) (ih++h') (p.v G))
  (hg:o.guard=none:=by rfl) (hd:o.dst=p.d:=by rfl) (hN : ∀ d,p.d=some d→Nat.blt d s.N=true:=by intro d h; cases h <;> rfl) (hp:p.hp=none:=by rfl) (hv : ∀ G n,p.v (updG G i n)=p.v G:=by intros; rfl)
  (hE : ∀ D G,RdyP ops D i→InsE (runE D G s.e L) ie:=by intro _ _ hr; repeat' first | exact trivial | refine ⟨YH5 rfl rfl,?_⟩ | refine ⟨YNH hr rfl rfl rfl (by kernel_rfl) rfl rfl,?_⟩ | refine ⟨YGX hr (by kernel_rfl) rfl,?_⟩)
  (hH : ∀ D G,RdyP ops D i→InsH (runH D G s.h L) ih:=by intro _ _ hr; repeat' first | exact trivial | refine ⟨YF6 rfl rfl,?_⟩ | refine ⟨YNG hr rfl rfl rfl (by kernel_rfl) (by kernel_rfl) rfl,?_⟩ | refine ⟨YGW hr (by kernel_rfl) rfl,?_⟩):Ob P ops s L i p o:=
 Ob.quiet (n1:=fun n=>n) hg hd hN hp (fun _=>ie) (fun _=>ih) hE hH hv fun _ _ _ _=>OpQ.spec h _
theorem oC (ie:(Nat→Nat)→Env) (ih:(Nat→Nat)→Heap) (h : ∀ G e h',OpQ P true o (ie G++e) (ih G++h') (p.v G))
  (hg:o.guard=none:=by rfl) (hd:o.dst=p.d:=by rfl) (hN : ∀ d,p.d=some d→Nat.blt d s.N=true:=by intro d h; cases h <;> rfl) (hp:p.hp=none:=by rfl) (hv : ∀ G n,p.v (updG G i n)=p.v G:=by intros; rfl)
  (hE : ∀ D G,RdyP ops D i→InsE (runE D G s.e L) (ie G):=by intro _ _ hr; repeat' first | exact trivial | refine ⟨YH5 rfl rfl,?_⟩ | refine ⟨YNH hr rfl rfl rfl (by kernel_rfl) rfl rfl,?_⟩ | refine ⟨YGX hr (by kernel_rfl) rfl,?_⟩)
  (hH : ∀ D G,RdyP ops D i→InsH (runH D G s.h L) (ih G):=by intro _ _ hr; repeat' first | exact trivial | refine ⟨YF6 rfl rfl,?_⟩ | refine ⟨YNG hr rfl rfl rfl (by kernel_rfl) (by kernel_rfl) rfl,?_⟩ | refine ⟨YGW hr (by kernel_rfl) rfl,?_⟩):Ob P ops s L i p o:=
 Ob.quiet (n1:=fun n=>n) hg hd hN hp ie ih hE hH hv fun G e h' _=>OpQ.spec (h G e h') _
theorem oD (ie:(Nat→Nat)→Env) (ih:(Nat→Nat)→Heap) {n1:Nat→Nat} (h : ∀ G e h' n,YAV P true o (ie G++e) (ih G++h') n (p.v G) (ih G++h') (n1 n))
  (hg:o.guard=none:=by rfl) (hd:o.dst=p.d:=by rfl) (hN : ∀ d,p.d=some d→Nat.blt d s.N=true:=by intro d h; cases h <;> rfl) (hp:p.hp=none:=by rfl) (hv : ∀ G n,p.v (updG G i n)=p.v G:=by intros; rfl)
  (hE : ∀ D G,RdyP ops D i→InsE (runE D G s.e L) (ie G):=by intro _ _ hr; repeat' first | exact trivial | refine ⟨YH5 rfl rfl,?_⟩ | refine ⟨YNH hr rfl rfl rfl (by kernel_rfl) rfl rfl,?_⟩ | refine ⟨YGX hr (by kernel_rfl) rfl,?_⟩)
  (hH : ∀ D G,RdyP ops D i→InsH (runH D G s.h L) (ih G):=by intro _ _ hr; repeat' first | exact trivial | refine ⟨YF6 rfl rfl,?_⟩ | refine ⟨YNG hr rfl rfl rfl (by kernel_rfl) (by kernel_rfl) rfl,?_⟩ | refine ⟨YGW hr (by kernel_rfl) rfl,?_⟩):Ob P ops s L i p o:=
 Ob.quiet hg hd hN hp ie ih hE hH hv h
theorem oG {c:Bool} {v0:(Nat→Nat)→AV} (ie:Env) (ih:Heap) (hv : ∀ G n,p.v (updG G i n) = .whn c (v0 G)) (h : ∀ {G e h'},OpQ P c o (ie++e) (ih++h') (v0 G))
  (hd:o.dst=p.d:=by rfl) (hN : ∀ d,p.d=some d→Nat.blt d s.N=true:=by intro d h; cases h <;> rfl) (hp:p.hp=none:=by rfl)
  (hE : ∀ D G,RdyP ops D i→InsE (runE D G s.e L) ie:=by intro _ _ hr; repeat' first | exact trivial | refine ⟨YH5 rfl rfl,?_⟩ | refine ⟨YNH hr rfl rfl rfl (by kernel_rfl) rfl rfl,?_⟩ | refine ⟨YGX hr (by kernel_rfl) rfl,?_⟩)
  (hH : ∀ D G,RdyP ops D i→InsH (runH D G s.h L) ih:=by intro _ _ hr; repeat' first | exact trivial | refine ⟨YF6 rfl rfl,?_⟩ | refine ⟨YNG hr rfl rfl rfl (by kernel_rfl) (by kernel_rfl) rfl,?_⟩ | refine ⟨YGW hr (by kernel_rfl) rfl,?_⟩)
  (hg : ∀ e,YBi (ie++e) ops o c:=by intros; first | exact .one rfl rfl rfl | exact .two rfl rfl rfl):Ob P ops s L i p o:=
 Ob.quietG (n1:=fun n=>n) (c:=c) (v0:=v0) hd hN hp (fun _=>ie) (fun _=>ih) hE hH hv (fun _ e=>hg e) fun _ _ _ _=>OpQ.spec h _
theorem oH {c:Bool} {v0:(Nat→Nat)→AV} (ie:(Nat→Nat)→Env) (ih:(Nat→Nat)→Heap) (hv : ∀ G n,p.v (updG G i n) = .whn c (v0 G)) {n1:Nat→Nat} (h : ∀ G e h' n,YAV P c o (ie G++e) (ih G++h') n (v0 G) (ih G++h') (n1 n))
  (hd:o.dst=p.d:=by rfl) (hN : ∀ d,p.d=some d→Nat.blt d s.N=true:=by intro d h; cases h <;> rfl) (hp:p.hp=none:=by rfl)
  (hE : ∀ D G,RdyP ops D i→InsE (runE D G s.e L) (ie G):=by intro _ _ hr; repeat' first | exact trivial | refine ⟨YH5 rfl rfl,?_⟩ | refine ⟨YNH hr rfl rfl rfl (by kernel_rfl) rfl rfl,?_⟩ | refine ⟨YGX hr (by kernel_rfl) rfl,?_⟩)
  (hH : ∀ D G,RdyP ops D i→InsH (runH D G s.h L) (ih G):=by intro _ _ hr; repeat' first | exact trivial | refine ⟨YF6 rfl rfl,?_⟩ | refine ⟨YNG hr rfl rfl rfl (by kernel_rfl) (by kernel_rfl) rfl,?_⟩ | refine ⟨YGW hr (by kernel_rfl) rfl,?_⟩)
  (hg : ∀ G e,YBi (ie G++e) ops o c:=by intros; first | exact .one rfl rfl rfl | exact .two rfl rfl rfl):Ob P ops s L i p o:=
 Ob.quietG (c:=c) (v0:=v0) hd hN hp ie ih hE hH hv hg h
theorem oM {id:Nat} {ob:(Nat→Nat)→Option AObj} {n1:Nat→Nat} (ie:(Nat→Nat)→Env) (ih:(Nat→Nat)→Heap) (hp:p.hp=some (id,ob)) (h : ∀ (G:Nat→Nat) e h' n,YAV P true o (ie G++e) (ih G++h') n (p.v (updG G i n)) ((id,ob (updG G i n)) :: (ih G++h')) (n1 n))
  (hg:o.guard=none:=by rfl) (hd:o.dst=p.d:=by rfl) (hN : ∀ d,p.d=some d→Nat.blt d s.N=true:=by intro d h; cases h <;> rfl)
  (hE : ∀ D G,RdyP ops D i→InsE (runE D G s.e L) (ie G):=by intro _ _ hr; repeat' first | exact trivial | refine ⟨YH5 rfl rfl,?_⟩ | refine ⟨YNH hr rfl rfl rfl (by kernel_rfl) rfl rfl,?_⟩ | refine ⟨YGX hr (by kernel_rfl) rfl,?_⟩)
  (hH : ∀ D G,RdyP ops D i→InsH (runH D G s.h L) (ih G):=by intro _ _ hr; repeat' first | exact trivial | refine ⟨YF6 rfl rfl,?_⟩ | refine ⟨YNG hr rfl rfl rfl (by kernel_rfl) (by kernel_rfl) rfl,?_⟩ | refine ⟨YGW hr (by kernel_rfl) rfl,?_⟩):Ob P ops s L i p o:=
 Ob.make hg hd hN hp ie ih hE hH h
end
@[reducible] def pO (d:Nat) (v:AV):PO:=⟨some d,fun _=>v,none,[]⟩
theorem rP {P:Program} {id:Nat} {l:List Oper} {s:St} {Q:Exit→St→Prop} (n:Nat) (L:List PO) {lt:List Oper} (hm:P.follows .mixedOrders=true) (e4:l.drop n=lt) (hOb:Obs P l.toArray s L 0 L l)
  (h : ∀ (G:Nat→Nat) (n':Nat),AOps P l.toArray lt ⟨runE (fun _=>true) G s.e L,runH (fun _=>true) G s.h L,n',s.N⟩ (Q .normal)) (hB:YXa l.toArray n L=true:=by kernel_rfl)
  (hLoc:Locs L:=by repeat' first | exact trivial | refine ⟨fun _ _ _=>⟨rfl,fun _ _ e=>by cases e <;> rfl⟩,?_⟩):AW P (.region id l.toArray true) Q s:=AW.regionP n L hm hB hLoc e4 hOb h
theorem wk {s s':St} (h:Weak s s':=by refine Weak.cv ?_ ?_ nL <;> repeat (first | exact trivial | refine ⟨jL,?_⟩ | refine ⟨.inl rfl,?_⟩)):Weak s s':=h
section
variable {P:Program} {ops:Array Oper} {rest:List Oper} {K:St→Prop} {o:Oper} {s:St}
theorem mM {d:Nat} {x:Operand} (hg:(o.guard,o.dst,Nat.blt d s.N,o.op)=(none,some d,true,.move x)) (hr:AOps P ops rest { e:=(d,YBP s.e x) :: s.e,h:=s.h,n:=s.n,N:=s.N } K):AOps P ops (o :: rest) s K:=by
 simp only [Prod.mk.injEq] at hg
 obtain ⟨h1,h2,h3,h4⟩:=hg
 exact AOps.step h1 h2 h3 (OpQ.spec (YNl h4 (.inl rfl)) _) hr
theorem mA {d:Nat} {x:Operand} (hg:(o.guard,o.dst,Nat.blt d s.N,o.op)=(none,some d,true,.assign x)) (hr:AOps P ops rest { e:=(d,YBP s.e x) :: s.e,h:=s.h,n:=s.n,N:=s.N } K):AOps P ops (o :: rest) s K:=by
 simp only [Prod.mk.injEq] at hg
 obtain ⟨h1,h2,h3,h4⟩:=hg
 exact AOps.step h1 h2 h3 (OpQ.spec (YCI h4 (.inl rfl)) _) hr
theorem vM {d j dj:Nat} {want b:Bool} {x:Operand} (hg:(o.guard,o.dst,Nat.blt d s.N,(ops[j]?).bind (·.dst),YBP s.e (.tmp dj),o.op)=(some (j,want),some d,true,some dj,.r (.bool b),.move x))
  (hr:AOps P ops rest { e:=(d,.whn (b == want) (YBP s.e x)) :: s.e,h:=s.h,n:=s.n,N:=s.N } K):AOps P ops (o :: rest) s K:=by
 simp only [Prod.mk.injEq] at hg
 obtain ⟨h1,h2,h3,h4,h5,h6⟩:=hg
 exact AOps.stepW (.one h1 h4 h5) h2 h3 (OpQ.spec (YNl h6 (.inl rfl)) _) hr
end
open Go.WideShapes
section
variable {H:Type} (K:Blk H) {enc:TypeId × Value→H} {P:Program} {W:World}
theorem YLK {t:TypeId} {fs:Array Field} {α:Type} {f:α→List RV} {ok:α→Prop} {μ:α→Nat} {v:Value} {d:DataW H} {p:List MemPlace} {r:Reach} {b0:Nat} (ht:P.underlying t=some (.struct fs)) (hr:Rdm K enc P W t f ok μ)
  (hval:Value.okWide P W r b0 t v) (h:DataW.Trod enc P W 0 (fun _=>true) true t v d p) : ∃ a,ok a∧YAN (Cx.start W) (.agg ((f a).map .r)) v∧μ a≤K.B d:=by
 obtain ⟨us,rfl,_⟩:=okWide_struct ht hval
 obtain ⟨fuel,hf⟩:=h
 obtain ⟨a,h1,h2,h3⟩:=hr fuel _ _ hf
 refine ⟨a,h1,.agg ?_ fun i c u hc hu=>?_,h3⟩
 ·have:=h2.1
  rw [List.length_map,← this]; rfl
 ·rw [List.getElem?_map,Option.map_eq_some_iff] at hc
  obtain ⟨d',hd,rfl⟩:=hc
  exact .r (h2.2 i d' u hd (by rw [← hu]; exact Array.getElem?_toList))
end
end Go.Proofs.YtkefchjpggjibaaGreatDoor.Al

namespace Go.Proofs.YtkefchjpggjibaaGreatDoor.Al
open Go.Lib
theorem YTO {W:World} {g:Nat} {row:List RV} (h : ∀ j d,row[j]? = some d → ∃ v,W.cell? ⟨g,j,none⟩=some v∧RRep W (· < W.heap.size) d v):YAN (Cx.start W) (.rop row 0) (.pointer (some ⟨g,0,none⟩)):=by
 have hlt:row≠[]→g<W.heap.size:=by
  intro hne
  obtain ⟨d,hd⟩ : ∃ d,row[0]? = some d:=by
   cases row with
   | nil=>exact absurd rfl hne
   | cons d r=>exact ⟨d,rfl⟩
  obtain ⟨v,h1,_⟩:=h 0 d hd
  unfold World.cell? at h1
  rcases Nat.lt_or_ge g W.heap.size with h2 | h2
  ·exact h2
  ·rw [Array.getElem?_eq_none h2] at h1; cases h1
 exact YAN.rop (x:=Cx.start W) (row:=row) (k:=0) (b:=g) (off:=0) (fun j=>(W.cell? ⟨g,j,none⟩).getD undef) hlt
  (fun j d hj=>by obtain ⟨v,h1,_⟩:=h j d hj; rw [Nat.zero_add]; show W.cell? _=_; rw [h1]; rfl)
  (fun j d hj=>by obtain ⟨v,h1,h2⟩:=h j d hj; rw [h1]; exact h2)
theorem YPb {α β:Type} (f:α→β) : ∀ (l:List α) (j:Nat),(l.flatMap fun z=>[f z])[j]? = (l[j]?).map f
 | [],j=>by simp
 | x :: l,0=>by simp
 | x :: l,j+1=>by
  have:=YPb f l j
  rw [List.flatMap_cons,List.singleton_append,List.getElem?_cons_succ,this,List.getElem?_cons_succ]
theorem YPa {α β:Type} (f g:α→β) : ∀ (l:List α) (j:Nat) (d:β),(l.flatMap fun z=>[f z,g z])[j]? = some d → ∃ i a,l[i]? = some a∧((j=2 * i∧d=f a)∨(j=2 * i+1∧d=g a))
 | [],j,d,h=>by simp at h
 | x :: l,0,d,h=>by
  have:f x=d:=by simpa using h
  exact ⟨0,x,rfl,.inl ⟨rfl,this.symm⟩⟩
 | x :: l,1,d,h=>by
  have:g x=d:=by simpa using h
  exact ⟨0,x,rfl,.inr ⟨rfl,this.symm⟩⟩
 | x :: l,j+2,d,h=>by
  rw [List.flatMap_cons] at h
  have h':(l.flatMap fun z=>[f z,g z])[j]? = some d:=by simpa using h
  obtain ⟨i,a,h1,h2⟩:=YPa f g l j d h'
  refine ⟨i+1,a,by simpa using h1,?_⟩
  rcases h2 with ⟨h2,h3⟩ | ⟨h2,h3⟩
  ·exact .inl ⟨by omega,h3⟩
  ·exact .inr ⟨by omega,h3⟩
theorem YL9 {P:Program} {W:World} {nm:String} {k:IntKind} {zs:List Int} {g n:Nat} {t e:TypeId} {d:DataW Unit} (h1:VarReads P W nm d) (hd1:d=tabData k zs) (n1:P.globalNamed nm=some g)
  (y1:(P.globals[g]?).map (·.type)=some t) (u1:P.underlying t=some (.array n e)) (ue:P.underlying e=some (.int k)) (ce:P.cellsOf e=1) (ct:P.cellsOf t=n) : ∃ t p,W.heap[g]? = some (.cells ((zs.map fun z=>Value.int k z).toArray) t p):=by
 obtain ⟨g',t',cs,fuel,p,hg,hty,hvar,hd⟩:=h1
 obtain rfl:=Option.some.inj (n1.symm.trans hg)
 obtain rfl:=Option.some.inj (y1.symm.trans hty)
 subst hd1
 have hcs:=cells_of_tab u1 ue ce ct hd
 unfold World.var? at hvar
 rw [n1] at hvar
 simp only [Option.bind_some] at hvar
 split at hvar
 ·rename_i c t2 p2 hh
  cases hvar
  refine ⟨t2,p2,?_⟩
  rw [hh,← hcs]
 ·cases hvar
theorem YSG {P : Program} {W : World} {d1 d2 : DataW Unit} {t1 t2 e1 e2 : TypeId} {fs : Array Field} (h1 : VarReads P W "unicode/utf8.first" d1) (hd1 : d1 = tabData .u8 YCV) (n1 : P.globalNamed "unicode/utf8.first" = some YJG)
  (y1:(P.globals[YJG]?).map (·.type)=some t1) (u1:P.underlying t1=some (.array 256 e1)) (ue:P.underlying e1=some (.int .u8)) (ce:P.cellsOf e1=1) (ct:P.cellsOf t1=256)
  (h2 : VarReads P W "unicode/utf8.acceptRanges" d2) (hd2 : d2 = .agg (YDn.map fun p => .agg ([p.1, p.2].map fun z => .lit (.int .u8 z)))) (n2 : P.globalNamed "unicode/utf8.acceptRanges" = some YGy)
  (y2:(P.globals[YGy]?).map (·.type)=some t2) (u2:P.underlying t2=some (.array 16 e2)) (us:P.underlying e2=some (.struct fs)) (hfs : ∀ (i:Nat) (f:Field),fs[i]? = some f→P.underlying f.type=some (.int .u8)∧f.offset=i∧P.cellsOf f.type=1)
  (hsz:fs.size=2) (c2:P.cellsOf e2=2)
  (hw : ∀ g cs,YKc g=some cs→0<cs.size ∧ ∃ t p,W.heap[g]? = some (.cells cs t p):=by intro _ _ h; cases h):YGi (Cx.start W):=by
 refine ⟨fun g row hg=>?_,fun g cs hg=>⟨?_,hw g cs hg⟩⟩
 rotate_left
 ·obtain ⟨_,t,p,h⟩:=hw g cs hg
  show g<W.heap.size
  exact (Array.getElem?_eq_some_iff.1 h).1
 unfold YGA at hg
 by_cases hF:g=YJG
 ·rw [if_pos hF] at hg
  cases hg
  subst hF
  obtain ⟨g,t,cs,fuel,p,hg,hty,hvar,hd⟩:=h1
  obtain rfl:=Option.some.inj (n1.symm.trans hg)
  obtain rfl:=Option.some.inj (y1.symm.trans hty)
  subst hd1
  have hcs:=cells_of_tab u1 ue ce ct hd
  refine YTO fun j d hj=>?_
  rw [YPb,Option.map_eq_some_iff] at hj
  obtain ⟨z,hz,rfl⟩:=hj
  refine ⟨.int .u8 z,?_,.int _ _⟩
  rw [World.var?_cell hg hvar j,← Array.getElem?_toList,hcs,List.getElem?_map,hz]; rfl
 ·rw [if_neg hF] at hg
  by_cases hA:g=YGy
  ·rw [if_pos hA] at hg
   cases hg
   subst hA
   obtain ⟨g,t,cs,fuel,p,hg,hty,hvar,hd⟩:=h2
   obtain rfl:=Option.some.inj (n2.symm.trans hg)
   obtain rfl:=Option.some.inj (y2.symm.trans hty)
   subst hd2
   refine YTO fun j d hj=>?_
   obtain ⟨i,a,hi,hja⟩:=YPa _ _ _ _ _ hj
   have hil:i<16:=(List.getElem?_eq_some_iff.1 hi).1
   obtain ⟨fuel',d',q,hdi,he⟩:=array_elem u2 hd i hil
   rw [List.getElem?_map,hi] at hdi
   cases hdi
   rw [c2] at he
   have hcs:=ints_of_struct us hfs (by rw [c2,hsz]) he
   have e0:=congrArg (·[0]?) hcs
   have e1:=congrArg (·[1]?) hcs
   simp only [List.getElem?_take,List.getElem?_drop] at e0 e1
   rcases hja with ⟨rfl,rfl⟩ | ⟨rfl,rfl⟩
   ·refine ⟨.int .u8 a.1,?_,.int _ _⟩
    rw [World.var?_cell hg hvar (2 * i),← Array.getElem?_toList]
    simpa [Nat.mul_comm] using e0
   ·refine ⟨.int .u8 a.2,?_,.int _ _⟩
    rw [World.var?_cell hg hvar (2 * i+1),← Array.getElem?_toList]
    simpa [Nat.mul_comm] using e1
  ·rw [if_neg hA] at hg; cases hg
end Go.Proofs.YtkefchjpggjibaaGreatDoor.Al
