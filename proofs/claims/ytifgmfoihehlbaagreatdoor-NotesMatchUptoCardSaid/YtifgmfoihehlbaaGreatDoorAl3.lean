/- The program logic, a part of it. -/
import Derived.Test.YtifgmfoihehlbaaGreatDoorAl2
import Derived.Lib.LaidU8
set_option linter.all false
namespace Go.Proofs.YtifgmfoihehlbaaGreatDoor.Al
inductive Bw(e:As):List Nat→As→Prop
 | nil:Bw e [] []
 | cons {k:Nat} {ks:List Nat} {v:AV} {r:As} (h:get e k=v) (t:Bw e ks r):Bw e (k::ks) ((k,v)::r)
inductive FU(e:Aj):List Nat→Aj→Prop
 | nil:FU e [] []
 | cons {k:Nat} {ks:List Nat} {v:Af} {r:Aj} (h:hget e k=some v) (t:FU e ks r):FU e (k::ks) ((k,some v)::r)
theorem Bw.cv{e}{ks}{e'}(h:Bw e ks e'):NJ e' e:=by
 induction h with
 | nil=>trivial
 | cons h _ j=>exact⟨.inl (.inl h),j⟩
theorem FU.cv{e}{ks}{e'}(h:FU e ks e'):NE e' e:=by
 induction h with
 | nil=>trivial
 | cons h _ j=>exact⟨.inl h,j⟩
section
variable{e:As}{k:Nat}{ks:List Nat}{r:As}
theorem kR{d}(t:Bw e ks r)(h:get e k=.r d):Bw e (k::ks) ((k,.r d)::r):=.cons h t
theorem kP{a b c d}(t:Bw e ks r)(h:get e k=.ptr a b c d):Bw e (k::ks) ((k,.ptr a b c d)::r):=.cons h t
theorem kO{a b}(t:Bw e ks r)(h:get e k=.own a b):Bw e (k::ks) ((k,.own a b)::r):=.cons h t
theorem kA{d}(t:Bw e ks r)(h:get e k=.agg d):Bw e (k::ks) ((k,.agg d)::r):=.cons h t
theorem kC{d}(t:Bw e ks r)(h:get e k=.cst d):Bw e (k::ks) ((k,.cst d)::r):=.cons h t
theorem kT{d}(t:Bw e ks r)(h:get e k=.tup d):Bw e (k::ks) ((k,.tup d)::r):=.cons h t
theorem kF{f}{d}(t:Bw e ks r)(h:get e k=.fn f d):Bw e (k::ks) ((k,.fn f d)::r):=.cons h t
theorem kQ{d}{i}(t:Bw e ks r)(h:get e k=.rop d i):Bw e (k::ks) ((k,.rop d i)::r):=.cons h t
theorem kM{a b}(t:Bw e ks r)(h:get e k=.mref a b):Bw e (k::ks) ((k,.mref a b)::r):=.cons h t
theorem kW{b}{v}(t:Bw e ks r)(h:get e k=.whn b v):Bw e (k::ks) ((k,.whn b v)::r):=.cons h t
theorem kK{a b c d f}(t:Bw e ks r)(h:get e k=.pk a b c d f):Bw e (k::ks) ((k,.pk a b c d f)::r):=.cons h t
theorem kU{a b c}{d}(t:Bw e ks r)(h:get e k=.fo a b c d):Bw e (k::ks) ((k,.fo a b c d)::r):=.cons h t
theorem kI{b}(t:Bw e ks r)(h:get e k=.ifc b):Bw e (k::ks) ((k,.ifc b)::r):=.cons h t
theorem kV{a b c}(t:Bw e ks r)(h:get e k=.pre a b c):Bw e (k::ks) ((k,.pre a b c)::r):=.cons h t
theorem kY{a b}(t:Bw e ks r)(h:get e k=.yld a b):Bw e (k::ks) ((k,.yld a b)::r):=.cons h t
theorem kL{xs}(t:Bw e ks r)(h:get e k=.full xs):Bw e (k::ks) ((k,.full xs)::r):=.cons h t
end
section
variable{e:Aj}{k:Nat}{ks:List Nat}{r:Aj}
theorem hB{g}{t}{cs}(t1:FU e ks r)(h:hget e k=some (.box g t cs)):FU e (k::ks) ((k,some (.box g t cs))::r):=.cons h t1
theorem hA{g}{t}{sz}{xs}(t1:FU e ks r)(h:hget e k=some (.arr g t sz xs)):FU e (k::ks) ((k,some (.arr g t sz xs))::r):=.cons h t1
theorem hC{o}(t1:FU e ks r)(h:hget e k=some o):FU e (k::ks) ((k,some o)::r):=.cons h t1
end
section
variable{P:Program}{Q:Exit→St→Prop}{x y:Code}
theorem aF{e:As}{h:Aj}{n N:Nat}(ks:List Nat){e':As}(hr:AW P x Q ⟨e',[],n,N⟩)
  (he:Bw e ks e':=by repeat' first | exact Bw.nil | apply kR _ rfl | apply kP _ rfl | apply kA _ rfl | apply kO _ rfl | apply kC _ rfl | apply kT _ rfl | apply kF _ rfl | apply kQ _ rfl | apply kM _ rfl | apply kW _ rfl | apply kL _ rfl | apply kK _ rfl | apply kU _ rfl | apply kI _ rfl | apply kV _ rfl | apply kY _ rfl):AW P x Q ⟨e,h,n,N⟩:=
 AW.weak (Am.cv (h':=[]) he.cv trivial (q9 _)) hr
theorem aG{e:As}{h:Aj}{n N:Nat}(ks js:List Nat){e':As}{h':Aj}(hr:AW P x Q ⟨e',h',n,N⟩)
  (he:Bw e ks e':=by repeat' first | exact Bw.nil | apply kR _ rfl | apply kP _ rfl | apply kA _ rfl | apply kO _ rfl | apply kC _ rfl | apply kT _ rfl | apply kF _ rfl | apply kQ _ rfl | apply kM _ rfl | apply kW _ rfl | apply kL _ rfl | apply kK _ rfl | apply kU _ rfl | apply kI _ rfl | apply kV _ rfl | apply kY _ rfl)
  (hh:FU h js h':=by repeat' first | exact FU.nil | apply hB _ rfl | apply hA _ rfl | apply hC _ rfl):AW P x Q ⟨e,h,n,N⟩:=
 AW.weak (Am.cv he.cv hh.cv (q9 _)) hr
end
section
variable{P:Program}{ops:Array Oper}{rest:List Oper}{K:St→Prop}{o o2:Oper}{e:As}{h:Aj}{n N:Nat}
theorem BZ(ks js:List Nat){e':As}{h':Aj}(hr:AS P ops rest ⟨e',h',n,N⟩ K)
  (he:Bw e ks e':=by repeat' first | exact Bw.nil | apply kR _ rfl | apply kP _ rfl | apply kA _ rfl | apply kO _ rfl | apply kC _ rfl | apply kT _ rfl | apply kF _ rfl | apply kQ _ rfl | apply kM _ rfl | apply kW _ rfl | apply kL _ rfl | apply kK _ rfl | apply kU _ rfl | apply kI _ rfl | apply kV _ rfl | apply kY _ rfl)
  (hh:FU h js h':=by repeat' first | exact FU.nil | apply hB _ rfl | apply hA _ rfl | apply hC _ rfl):AS P ops rest ⟨e,h,n,N⟩ K:=
 AS.weak (Am.cv he.cv hh.cv (q9 _)) hr
end
section
variable{P:Program}{ops:Array Oper}{rest:List Oper}{K:St→Prop}{o o2:Oper}{s:St}
theorem vQ{d j m}{l b}{v}(hg:(o.guard, o.dst, Nat.blt d s.N, (ops[j]?).bind (·.dst), BT s.e (.tmp m))=(some (j, l), some d, true, some m, .r (.bool b)))(q:Ad P (b==l) o s.e s.h v)
 (w:AS P ops rest { e := (d, .whn (b==l) v)::s.e, h := s.h, n := s.n, N := s.N } K):AS P ops (o::rest) s K := by
  simp only[rJ] at hg
  obtain⟨A, B, C, E, F⟩ := hg
  exact AS.stepW (.one A E F) B C (DD q _) w
theorem wQ{d j m}{l b c1}{v}(hg:(o.guard, o.dst, Nat.blt d s.N, (ops[j]?).bind (·.dst), BT s.e (.tmp m))=(some (j, l), some d, true, some m, .whn c1 (.r (.bool b))))(q:Ad P (c1&&(b==l)) o s.e s.h v)
 (w:AS P ops rest { e := (d, .whn (c1&&(b==l)) v)::s.e, h := s.h, n := s.n, N := s.N } K):AS P ops (o::rest) s K := by
  simp only[rJ] at hg
  obtain⟨A, B, C, E, F⟩ := hg
  exact AS.stepW (.two A E F) B C (DD q _) w
theorem qP{d}{v}(hg:(o.guard, o.dst, Nat.blt d s.N)=(none, some d, true))(j:Ad P true o s.e s.h v)
 (l:AQ P ops rest { e := (d, v)::s.e, h := s.h, n := s.n, N := s.N } K):AQ P ops (o::rest) s K :=
  AQ.step (sp hg).1 (sp (sp hg).2).1 (sp (sp hg).2).2 j l
theorem qO{d j m}{l b}{v}(hg:(o.guard, o.dst, Nat.blt d s.N, (ops[j]?).bind (·.dst), BT s.e (.tmp m))=(some (j, l), some d, true, some m, .r (.bool b)))(q:Ad P (b==l) o s.e s.h v)
 (w:AQ P ops rest { e := (d, .whn (b==l) v)::s.e, h := s.h, n := s.n, N := s.N } K):AQ P ops (o::rest) s K := by
  simp only[rJ] at hg
  obtain⟨A, B, C, E, F⟩ := hg
  exact AQ.stepW (.one A E F) B C q w
theorem qT{d j m}{l b c1}{v}(hg:(o.guard, o.dst, Nat.blt d s.N, (ops[j]?).bind (·.dst), BT s.e (.tmp m))=(some (j, l), some d, true, some m, .whn c1 (.r (.bool b))))(q:Ad P (c1&&(b==l)) o s.e s.h v)
 (w:AQ P ops rest { e := (d, .whn (c1&&(b==l)) v)::s.e, h := s.h, n := s.n, N := s.N } K):AQ P ops (o::rest) s K := by
  simp only[rJ] at hg
  obtain⟨A, B, C, E, F⟩ := hg
  exact AQ.stepW (.two A E F) B C q w
theorem sS{d}{v}{h'}{n'}(hg:(o.guard, o.dst, Nat.blt d s.N)=(none, some d, true))(j:Bc P true o s.e s.h s.n v h' n')
 (l:AS P ops rest { e := (d, v)::s.e, h := h', n := n', N := s.N } K):AS P ops (o::rest) s K :=
  AS.step (sp hg).1 (sp (sp hg).2).1 (sp (sp hg).2).2 j l
theorem lF{t t2}{x y}{f off id g i k d1 d2 id' l k'}{e1 e2}{cs j}{a}(w:Ao P t f off)(A:BR P t2)
 (m:(o.guard, o.dst, Nat.blt d1 s.N, o.op, BT s.e x, hget s.h id)=(none, some d1, true, .fieldAddr t x f, .ptr id g i k, some (.box g e1 cs)))
 (q:(o2.guard, o2.dst, Nat.blt d2 s.N, o2.op, BT ((d1, .ptr id g i (k+off))::s.e) y, hget s.h id', j[k']?)=(none, some d2, true, .load t2 y, .ptr id' l 0 k', some (.box l e2 j), some a))
 (B:AS P ops rest { e := (d2, a)::(d1, .ptr id g i (k+off))::s.e, h := s.h, n := s.n, N := s.N } K):AS P ops (o::o2::rest) s K := by
  simp only[rJ] at m q
  obtain⟨C, E, a3, a4, a5, F⟩ := m
  obtain⟨b1, b2, b3, I, J, M, O⟩ := q
  exact AS.step C E a3 (DD (IJ (ob := .box g e1 cs) a4 w (.inl a5) (λ_ => F) rfl) _) (AS.step b1 b2 b3 (DD (AY I A (.inl J) M O) _) B)
theorem vF{t t2}{x y}{f off id g i k d1 d2 id' A k' j B C l}{w b q b2}{e1 e2}{cs m}{a}(I:Ao P t f off)(J:BR P t2)
 (E:(o.guard, o.dst, Nat.blt d1 s.N, (ops[j]?).bind (·.dst), BT s.e (.tmp B), o.op, BT s.e x, hget s.h id)=(some (j, w), some d1, true, some B, .r (.bool b), .fieldAddr t x f, .ptr id g i k, some (.box g e1 cs)))
 (F:(o2.guard, o2.dst, Nat.blt d2 s.N, (ops[C]?).bind (·.dst), BT ((d1, .whn (b==w) (.ptr id g i (k+off)))::s.e) (.tmp l), o2.op, BT ((d1, .whn (b==w) (.ptr id g i (k+off)))::s.e) y, hget s.h id', m[k']?)=(some (C, q), some d2, true, some l, .r (.bool b2), .load t2 y, .whn (b2==q) (.ptr id' A 0 k'), some (.box A e2 m), some a))
 (M:AS P ops rest { e := (d2, .whn (b2==q) a)::(d1, .whn (b==w) (.ptr id g i (k+off)))::s.e, h := s.h, n := s.n, N := s.N } K):AS P ops (o::o2::rest) s K := by
  simp only[rJ] at E F
  obtain⟨O, T, a3, a4, a5, U, V, X⟩ := E
  obtain⟨b1, b2, b3, Z, b5, b6, b7, b8, b9⟩ := F
  exact AS.stepW (.one O a4 a5) T a3 (DD (IJ (ob := .box g e1 cs) U I (.inl V) (λ_ => X) rfl) _) (AS.stepW (.one b1 Z b5) b2 b3 (DD (AY b6 J (iR b7) b8 b9) _) M)
end
def Yy:AV→Bool
 | .r _=>true
 | _=>false
theorem Y3{l:List AV}(h:l.all Yy=true):∃cs:List RV,l=cs.map .r:=by
 induction l with
 | nil=>exact⟨[],rfl⟩
 | cons a l j=>
  rw[te,rF] at h
  obtain⟨cs,rfl⟩:=j h.2
  cases a with
  | r d=>exact⟨d::cs,rfl⟩
  | _=>exact Bool.noConfusion h.1
theorem Fz.g2{h}{a}{ds:List AV}(e:a=.agg ds)(e2:ds.all Yy=true):Fz h a (.agg ds):=by
 obtain⟨l,j⟩:=Y3 e2
 exact .g e j
section
variable{P:Program}{ops:Array Oper}{rest:List Oper}{K:St→Prop}{o:Oper}{s:St}
theorem cL{d:Nat}{f:FuncId}{fo:Operand}{xs:Array Operand}{ats:Array TypeId}{bs:List AV}{r:AV}(hq:Aa P f bs r)
  (hg:(o.guard,o.dst,Nat.blt d s.N,o.op,BT s.e fo,r.flat)=(none,some d,true,.call { callee:=.value fo,args:=xs,argTypes:=ats },.fn f [],true))
  (hr:AS P ops rest { e:=(d,r)::s.e,h:=s.h,n:=s.n,N:=s.N } K)
  (hx:IV true s.e s.h xs.toList bs:=by repeat' first | exact trivial | refine⟨⟨_,iL,.d rfl⟩,?_⟩ | refine⟨⟨_,iL,.g2 rfl rfl⟩,?_⟩ | refine⟨⟨_,iL,.one (.own rfl)⟩,?_⟩ | refine⟨⟨_,iR rfl,.d rfl⟩,?_⟩ | refine⟨⟨_,iR rfl,.g2 rfl rfl⟩,?_⟩):AS P ops (o::rest) s K:=by
 simp only[rJ] at hg
 obtain⟨h1,h2,h3,h4,h5,h6⟩:=hg
 exact AS.step h1 h2 h3 (DU (caps:=[]) h4 (.inl h5) rfl hx (λ_=>by rw[s8];exact hq) h6) hr
theorem vL{d j dj:Nat}{want b:Bool}{f:FuncId}{fo:Operand}{xs:Array Operand}{ats:Array TypeId}{bs:List AV}{r:AV}(hq:(b==want)=true→Aa P f bs r)
  (hg:(o.guard,o.dst,Nat.blt d s.N,(ops[j]?).bind (·.dst),BT s.e (.tmp dj),o.op,BT s.e fo,r.flat)=(some (j,want),some d,true,some dj,.r (.bool b),.call { callee:=.value fo,args:=xs,argTypes:=ats },.fn f [],true))
  (hr:AS P ops rest { e:=(d,.whn (b==want) r)::s.e,h:=s.h,n:=s.n,N:=s.N } K)
  (hx:IV (b==want) s.e s.h xs.toList bs:=by repeat' first | exact trivial | refine⟨⟨_,iL,.d rfl⟩,?_⟩ | refine⟨⟨_,iL,.g2 rfl rfl⟩,?_⟩ | refine⟨⟨_,iL,.one (.own rfl)⟩,?_⟩ | refine⟨⟨_,iR rfl,.d rfl⟩,?_⟩ | refine⟨⟨_,iR rfl,.g2 rfl rfl⟩,?_⟩):AS P ops (o::rest) s K:=by
 simp only[rJ] at hg
 obtain⟨h1,h2,h3,h4,h5,h6,h7,h8⟩:=hg
 exact AS.stepW (.one h1 h4 h5) h2 h3 (DU (caps:=[]) h6 (.inl h7) rfl hx (λhc=>by rw[s8];exact hq hc) h8) hr
end
section
variable{P:Program}{Q:Exit→St→Prop}{s:St}{x y:Code}
theorem aU{id}{l:List Oper}(h:AS P l.toArray l s λj=>AW P y Q j):AW P (.seq (.region id l.toArray false) y) Q s:=.seq (.region h)
theorem aT(h:∀ {K:St→Prop},(∀s,AW P y Q s→K s)→AW P x (HK K Q) s):AW P (.seq x y) Q s:=qV λ_ j=>h j
theorem cI{α:Type}{b:Bool}{c:Operand}{X Y Z:α}(hc:BT s.e c=.r (.bool b))(h:(if b=true then X else Y)=Z)(j:X=Z→AW P x Q s)(l:Y=Z→AW P y Q s):AW P (.cond c x y) Q s:=
 AW.cond hc (λe=>j (ET e h)) (λe=>l (EJ e h))
end
theorem mF{P:Program}{f}{fn:Func}{code}{args:List AV}{r:AV}{N}(l:P.funcs[f]?=some fn)(m:fn.ntmps=N)
 (j : (fn.body, fn.name == "runtime.NumGoroutine", r.closed, Nat.ble args.length N) = (some code, false, true, true)) (hw : ∀ q, AW P code (JR P fn.results.toList r) ⟨Hd 0 args, [], q, N⟩) : Aa P f args r := by
  simp only[rJ] at j
  obtain⟨w, A, B, C⟩ := j
  exact qQ l w A m B (sm C) hw
theorem oZ{P}{ops}{s}{K}{y}{Q}(j:∀s,AW P y Q s→K s)(h:AW P y Q s):AS P ops [] s K:=AS.nil (j _ h)
def WF(t i:Nat):List PO→Nat→Option Nat→Option Nat
 | [],_,r=>r
 | p::L,k,r=>match Nat.blt k i with
  | true=>WF t i L (k+1) (match p.d with
   | some d=>(match Nat.beq d t with
    | true=>some k
    | false=>r)
   | none=>r)
  | false=>r
def Xg(t i:Nat):List PO→Nat→Option Nat→Option Nat
 | [],_,r=>r
 | p::L,k,r=>match Nat.blt k i with
  | true=>Xg t i L (k+1) (match p.hp with
   | some (d,_)=>(match Nat.beq d t with
    | true=>some k
    | false=>r)
   | none=>r)
  | false=>r
section
variable{P:Program}{ops:Array Oper}{s:St}{L:List PO}{i:Nat}{p:PO}{o:Oper}
theorem Q8{D}{G}{e}{t j}(l:Cq ops D i)(_:WF t i L 0 none=some j){p:PO}{a}(m:L[j]?=some p)(hd:p.d=some t)(hw:wt ops 40 i j=true)(hB:LG (L.drop (j+1)) t=true)(q:p.v G=a):get (EA D G e L) t=a:=Tq l j m hd hw hB q
theorem Rq{D}{G}{h}{t j}(l:Cq ops D i)(_:Xg t i L 0 none=some j){p:PO}{ob}{a}(m:L[j]?=some p)(hd:p.hp=some (t,ob))(hw:wt ops 40 i j=true)(hB:Li ops i t (L.drop (j+1)) (j+1)=true)(q:ob G=a):hget (ED D G h L) t=a:=oV l j m hd hw hB q
theorem oB(ie:As)(ih:Aj)(h:∀ {G e h'},Ad P true o (ie++e) (ih++h') (p.v G))
  (hg:o.guard=none:=by rfl) (hd:o.dst=p.d:=by rfl) (hN:∀d,p.d=some d→Nat.blt d s.N=true:=by intro d h;cases h<;>rfl) (hp:p.hp=none:=by rfl) (hv:∀G n,p.v (DZ G i n)=p.v G:=by intros;rfl)
  (hE:∀D G,Cq ops D i→Hc (EA D G s.e L) ie:=by intro _ _ hr;repeat' first | exact trivial | refine⟨QH rfl rfl,?_⟩ | refine⟨Q8 hr rfl rfl rfl (by kernel_rfl) rfl rfl,?_⟩ | refine⟨inE_baseL hr (by kernel_rfl) rfl,?_⟩)
  (hH:∀D G,Cq ops D i→Hy (ED D G s.h L) ih:=by intro _ _ hr;repeat' first | exact trivial | refine⟨P9 rfl rfl,?_⟩ | refine⟨Rq hr rfl rfl rfl (by kernel_rfl) (by kernel_rfl) rfl,?_⟩ | refine⟨Rp hr (by kernel_rfl) rfl,?_⟩):Ob P ops s L i p o:=
 Uc (n1:=λn=>n) hg hd hN hp (λ_=>ie) (λ_=>ih) hE hH hv λ_ _ _ _=>DD h _
theorem oC(ie:(Nat→Nat)→As)(ih:(Nat→Nat)→Aj)(h:∀G e h',Ad P true o (ie G++e) (ih G++h') (p.v G))
  (hg:o.guard=none:=by rfl) (hd:o.dst=p.d:=by rfl) (hN:∀d,p.d=some d→Nat.blt d s.N=true:=by intro d h;cases h<;>rfl) (hp:p.hp=none:=by rfl) (hv:∀G n,p.v (DZ G i n)=p.v G:=by intros;rfl)
  (hE:∀D G,Cq ops D i→Hc (EA D G s.e L) (ie G):=by intro _ _ hr;repeat' first | exact trivial | refine⟨QH rfl rfl,?_⟩ | refine⟨Q8 hr rfl rfl rfl (by kernel_rfl) rfl rfl,?_⟩ | refine⟨inE_baseL hr (by kernel_rfl) rfl,?_⟩)
  (hH:∀D G,Cq ops D i→Hy (ED D G s.h L) (ih G):=by intro _ _ hr;repeat' first | exact trivial | refine⟨P9 rfl rfl,?_⟩ | refine⟨Rq hr rfl rfl rfl (by kernel_rfl) (by kernel_rfl) rfl,?_⟩ | refine⟨Rp hr (by kernel_rfl) rfl,?_⟩):Ob P ops s L i p o:=
 Uc (n1:=λn=>n) hg hd hN hp ie ih hE hH hv λG e h' _=>DD (h G e h') _
theorem oD(ie:(Nat→Nat)→As)(ih:(Nat→Nat)→Aj){n1:Nat→Nat}(h:∀G e h' n,Bc P true o (ie G++e) (ih G++h') n (p.v G) (ih G++h') (n1 n))
  (hg:o.guard=none:=by rfl) (hd:o.dst=p.d:=by rfl) (hN:∀d,p.d=some d→Nat.blt d s.N=true:=by intro d h;cases h<;>rfl) (hp:p.hp=none:=by rfl) (hv:∀G n,p.v (DZ G i n)=p.v G:=by intros;rfl)
  (hE:∀D G,Cq ops D i→Hc (EA D G s.e L) (ie G):=by intro _ _ hr;repeat' first | exact trivial | refine⟨QH rfl rfl,?_⟩ | refine⟨Q8 hr rfl rfl rfl (by kernel_rfl) rfl rfl,?_⟩ | refine⟨inE_baseL hr (by kernel_rfl) rfl,?_⟩)
  (hH:∀D G,Cq ops D i→Hy (ED D G s.h L) (ih G):=by intro _ _ hr;repeat' first | exact trivial | refine⟨P9 rfl rfl,?_⟩ | refine⟨Rq hr rfl rfl rfl (by kernel_rfl) (by kernel_rfl) rfl,?_⟩ | refine⟨Rp hr (by kernel_rfl) rfl,?_⟩):Ob P ops s L i p o:=
 Uc hg hd hN hp ie ih hE hH hv h
theorem oM{id:Nat}{ob:(Nat→Nat)→Option Af}{n1:Nat→Nat}(ie:(Nat→Nat)→As)(ih:(Nat→Nat)→Aj)(hp:p.hp=some (id,ob))(h:∀(G:Nat→Nat) e h' n,Bc P true o (ie G++e) (ih G++h') n (p.v (DZ G i n)) ((id,ob (DZ G i n))::(ih G++h')) (n1 n))
  (hg:o.guard=none:=by rfl) (hd:o.dst=p.d:=by rfl) (hN:∀d,p.d=some d→Nat.blt d s.N=true:=by intro d h;cases h<;>rfl)
  (hE:∀D G,Cq ops D i→Hc (EA D G s.e L) (ie G):=by intro _ _ hr;repeat' first | exact trivial | refine⟨QH rfl rfl,?_⟩ | refine⟨Q8 hr rfl rfl rfl (by kernel_rfl) rfl rfl,?_⟩ | refine⟨inE_baseL hr (by kernel_rfl) rfl,?_⟩)
  (hH:∀D G,Cq ops D i→Hy (ED D G s.h L) (ih G):=by intro _ _ hr;repeat' first | exact trivial | refine⟨P9 rfl rfl,?_⟩ | refine⟨Rq hr rfl rfl rfl (by kernel_rfl) (by kernel_rfl) rfl,?_⟩ | refine⟨Rp hr (by kernel_rfl) rfl,?_⟩):Ob P ops s L i p o:=
 qF hg hd hN hp ie ih hE hH h
end
@[reducible] def pO(d:Nat)(v:AV):PO:=⟨some d,λ_=>v,none,[]⟩
theorem rP{P:Program}{id:Nat}{l:List Oper}{s:St}{Q:Exit→St→Prop}(n:Nat)(L:List PO){lt:List Oper}(hm:P.follows .mixedOrders=true)(e4:l.drop n=lt)(hOb:LD P l.toArray s L 0 L l)
  (h:∀(G:Nat→Nat) (n':Nat),AS P l.toArray lt ⟨EA (λ_=>true) G s.e L,ED (λ_=>true) G s.h L,n',s.N⟩ (Q .normal)) (hB:So l.toArray n L=true:=by kernel_rfl)
  (hLoc:Ij L:=by repeat' first | exact trivial | refine⟨λ_ _ _=>⟨rfl,λ_ _ e=>by cases e<;>rfl⟩,?_⟩):AW P (.region id l.toArray true) Q s:=GJ n L hm hB hLoc e4 hOb h
theorem wk{s s'}(h:Am s s':=by refine Am.cv ?_ ?_ nL<;>repeat (first | exact trivial | refine⟨jL,?_⟩ | refine⟨.inl rfl,?_⟩)):Am s s':=h
section
variable{P:Program}{ops:Array Oper}{rest:List Oper}{K:St→Prop}{o:Oper}{s:St}
theorem mM{d}{x}(hg:(o.guard,o.dst,Nat.blt d s.N,o.op)=(none,some d,true,.move x))(j:AS P ops rest { e:=(d,BT s.e x)::s.e,h:=s.h,n:=s.n,N:=s.N } K):AS P ops (o::rest) s K:=by
 simp only[rJ] at hg
 obtain⟨l,m,q,w⟩:=hg
 exact AS.step l m q (DD (AM w (.inl rfl)) _) j
theorem mA{d}{x}(hg:(o.guard,o.dst,Nat.blt d s.N,o.op)=(none,some d,true,.assign x))(j:AS P ops rest { e:=(d,BT s.e x)::s.e,h:=s.h,n:=s.n,N:=s.N } K):AS P ops (o::rest) s K:=by
 simp only[rJ] at hg
 obtain⟨l,m,q,w⟩:=hg
 exact AS.step l m q (DD (EL w (.inl rfl)) _) j
theorem vM{d j m}{l b}{x}(hg:(o.guard, o.dst, Nat.blt d s.N, (ops[j]?).bind (·.dst), BT s.e (.tmp m), o.op)=(some (j, l), some d, true, some m, .r (.bool b), .move x))
 (q:AS P ops rest { e := (d, .whn (b==l) (BT s.e x))::s.e, h := s.h, n := s.n, N := s.N } K):AS P ops (o::rest) s K := by
  simp only[rJ] at hg
  obtain⟨w, A, B, C, E, F⟩ := hg
  exact AS.stepW (.one w C E) A B (DD (AM F (.inl rfl)) _) q
end
section
variable{P:Program}{ops:Array Oper}{rest:List Oper}{K:St→Prop}{o:Oper}{s:St}{d:Nat}{x y:Operand}
theorem one{v}(hg:o.guard=none)(hd:o.dst=some d)(j:Nat.blt d s.N=true)(l:Ad P true o s.e s.h v)(m:AS P ops rest { e:=(d,v)::s.e,h:=s.h,n:=s.n,N:=s.N } K):AS P ops (o::rest) s K:=AS.step hg hd j (DD l _) m
theorem xI{α:Type}{f}{t e}{sz b}{l:List α}{k}{z}{a}(m:B4 P t e sz b)(hg:(o.guard, o.dst, Nat.blt d s.N, o.op, BT s.e x, BT s.e y)=(none, some d, true, .indexAddr t x y, .r (.sl (l.map f)), .r (.int k z)))
 (q:AL l z=some a) (w:AS P ops rest { e := (d, .rop (f a) 0)::s.e, h := s.h, n := s.n, N := s.N } K) (j:∀a, (f a).length=sz := by intro _;rfl):AS P ops (o::rest) s K := by
  simp only[rJ] at hg
  exact one hg.1 hg.2.1 hg.2.2.1 (A9 hg.2.2.2.1 m.slice (.inl hg.2.2.2.2.1) (.inl hg.2.2.2.2.2) j λ_ => q) w
theorem xL{α:Type}{f}{t e}{sz b}{l:List α}(j:B4 P t e sz b)(hg:(o.guard, o.dst, Nat.blt d s.N, o.op, BT s.e x)=(none, some d, true, .call { callee := .builtin .len, args := #[x], argTypes := #[t] }, .r (.sl (l.map f))))
 (m:AS P ops rest { e := (d, .r (.int .i64 l.length))::s.e, h := s.h, n := s.n, N := s.N } K):AS P ops (o::rest) s K := by
  simp only[rJ] at hg
  exact one hg.1 hg.2.1 hg.2.2.1 (DK hg.2.2.2.1 j.slice (.inl hg.2.2.2.2)) m
theorem xA{t j}{k}{a b r}(hg:(o.guard, o.dst, Nat.blt d s.N, o.op, BT s.e x, BT s.e y)=(none, some d, true, .binOp .add t x y j, .r (.int k a), .r (.int k b)))
 (l:AZ k (a+b)=some r) (m:AS P ops rest { e := (d, .r (.int k r))::s.e, h := s.h, n := s.n, N := s.N } K):AS P ops (o::rest) s K := by
  simp only[rJ] at hg
  exact one hg.1 hg.2.1 hg.2.2.1 (LF hg.2.2.2.1 (.inl hg.2.2.2.2.1) (.inl hg.2.2.2.2.2) λ_ => l) m
theorem xN{a b}(hg:(o.guard, o.dst, Nat.blt d s.N, o.op, BT s.e x, BT s.e y)=(none, some d, true, .pick x y (.const (.bool false)), .r (.bool a), .whn (a==true) (.r (.bool b))))
 (j:AS P ops rest { e := (d, .r (.bool (a&&b)))::s.e, h := s.h, n := s.n, N := s.N } K):AS P ops (o::rest) s K := by
  simp only[rJ] at hg
  exact one hg.1 hg.2.1 hg.2.2.1 (Bd hg.2.2.2.1 (.inl hg.2.2.2.2.1) (iR hg.2.2.2.2.2)) j
theorem xO{a b}(hg:(o.guard, o.dst, Nat.blt d s.N, o.op, BT s.e x, BT s.e y)=(none, some d, true, .pick x (.const (.bool true)) y, .r (.bool a), .whn (a==false) (.r (.bool b))))
 (j:AS P ops rest { e := (d, .r (.bool (a||b)))::s.e, h := s.h, n := s.n, N := s.N } K):AS P ops (o::rest) s K := by
  simp only[rJ] at hg
  exact one hg.1 hg.2.1 hg.2.2.1 (Cp hg.2.2.2.1 (.inl hg.2.2.2.2.1) (iR hg.2.2.2.2.2)) j
theorem xB{t}{row:List RV}{sz}(cs:List AV)(j:Bq P t sz)(hg:(o.guard, o.dst, Nat.blt d s.N, o.op, BT s.e x, row.length, row.map AV.r)=(none, some d, true, .load t x, .rop row 0, sz, cs))
 (l:AS P ops rest { e := (d, .agg cs)::s.e, h := s.h, n := s.n, N := s.N } K):AS P ops (o::rest) s K := by
  simp only[rJ] at hg
  exact one hg.1 hg.2.1 hg.2.2.1 (CN hg.2.2.2.1 j (.inl hg.2.2.2.2.1) hg.2.2.2.2.2.1 hg.2.2.2.2.2.2) l
theorem xC{t}{id g}{e}{sz}{cs:List AV}(j:Bq P t sz)(hg:(o.guard, o.dst, Nat.blt d s.N, o.op, BT s.e x, hget s.h id, cs.length)=(none, some d, true, .load t x, .ptr id g 0 0, some (.box g e cs), sz))
 (l:AS P ops rest { e := (d, .agg cs)::s.e, h := s.h, n := s.n, N := s.N } K):AS P ops (o::rest) s K := by
  simp only[rJ] at hg
  exact one hg.1 hg.2.1 hg.2.2.1 (Dm hg.2.2.2.1 j (.inl hg.2.2.2.2.1) hg.2.2.2.2.2.1 hg.2.2.2.2.2.2) l
theorem xV{t}{row}{k}(r:RV)(j:BR P t)(hg:(o.guard, o.dst, Nat.blt d s.N, o.op, BT s.e x, row[k]?)=(none, some d, true, .load t x, .rop row k, some r))
 (l:AS P ops rest { e := (d, .r r)::s.e, h := s.h, n := s.n, N := s.N } K):AS P ops (o::rest) s K := by
  simp only[rJ] at hg
  exact one hg.1 hg.2.1 hg.2.2.1 (Bs hg.2.2.2.1 j (.inl hg.2.2.2.2.1) hg.2.2.2.2.2) l
theorem xX{vs}{i}{a}(hg:(o.guard, o.dst, Nat.blt d s.N, o.op, BT s.e x, vs[i]?)=(none, some d, true, .extract x i, .tup vs, some a))
 (j:AS P ops rest { e := (d, a)::s.e, h := s.h, n := s.n, N := s.N } K):AS P ops (o::rest) s K := by
  simp only[rJ] at hg
  exact one hg.1 hg.2.1 hg.2.2.1 (Tt hg.2.2.2.1 (.inl hg.2.2.2.2.1) hg.2.2.2.2.2) j
theorem xS{t j}{k}{a b}(hg:(o.guard, o.dst, Nat.blt d s.N, o.op, BT s.e x, BT s.e y)=(none, some d, true, .binOp .lss t x y j, .r (.int k a), .r (.int k b)))
 (l:AS P ops rest { e := (d, .r (.bool (decide (a<b))))::s.e, h := s.h, n := s.n, N := s.N } K):AS P ops (o::rest) s K := by
  simp only[rJ] at hg
  exact one hg.1 hg.2.1 hg.2.2.1 (CO hg.2.2.2.1 (.inl hg.2.2.2.2.1) (.inl hg.2.2.2.2.2)) l
theorem xQ{t j}{k}{a b}(hg:(o.guard, o.dst, Nat.blt d s.N, o.op, BT s.e x, BT s.e y)=(none, some d, true, .binOp .eql t x y j, .r (.int k a), .r (.int k b)))
 (l:AS P ops rest { e := (d, .r (.bool (decide (a=b))))::s.e, h := s.h, n := s.n, N := s.N } K):AS P ops (o::rest) s K := by
  simp only[rJ] at hg
  exact one hg.1 hg.2.1 hg.2.2.1 (A4 hg.2.2.2.1 (.inl hg.2.2.2.2.1) (.inl hg.2.2.2.2.2)) l
theorem xU{t j}{k}{a b}(hg:(o.guard, o.dst, Nat.blt d s.N, o.op, BT s.e x, BT s.e y)=(none, some d, true, .binOp .neq t x y j, .r (.int k a), .r (.int k b)))
 (l:AS P ops rest { e := (d, .r (.bool (!(a=b))))::s.e, h := s.h, n := s.n, N := s.N } K):AS P ops (o::rest) s K := by
  simp only[rJ] at hg
  exact one hg.1 hg.2.1 hg.2.2.1 (DJ hg.2.2.2.1 (.inl hg.2.2.2.2.1) (.inl hg.2.2.2.2.2)) l
end
theorem xH{ρ α:Type}{o:ρ}{v:α ⊕ ρ}{q:ρ}(j:∀q,v=.inr q→o=q)(h:some (.inr q)=some v):o=q:=j _ (rW h).symm
theorem YM{P}{T r}{s:St}{t}(e:some T=some r)(h:get s.e t=rI T):JR P [.tmp t] (rI r) .ret s:=Cg (λr=>rI r) e (.inl rfl) (.t (.d h))
theorem Wu{P}{T r}{s:St}{t}(e:some T=some r)(h:get s.e t=rB T):JR P [.tmp t] (rB r) .ret s:=Cg (λr=>rB r) e (.inl rfl) (.t (.d h))
theorem zI{P}{T r}{s:St}{t id}{x}{o:Oper}{Q}(e:some T=some r)(h:(o.guard, o.dst, Nat.blt t s.N, o.op, BT s.e x)=(none, some t, true, .assign x, rI T))
 (k:JR P [.tmp t] (rI r) .ret { e := (t, BT s.e x)::s.e, h := s.h, n := s.n, N := s.N } → Q .ret { e := (t, BT s.e x)::s.e, h := s.h, n := s.n, N := s.N }):AW P (.seq (.region id [o].toArray false) .ret) Q s := by
  simp only[rJ] at h
  refine aU (AS.step h.1 h.2.1 h.2.2.1 (DD (EL h.2.2.2.1 (.inl rfl)) _) (AS.nil (AW.ret (k (YM e ?_)))))
  show get (_::_) t=_
  unfold get
  rw[Nat.beq_refl]
  exact h.2.2.2.2
theorem zB{P}{T r}{s:St}{t id}{x}{o:Oper}{Q}(e:some T=some r)(h:(o.guard, o.dst, Nat.blt t s.N, o.op, BT s.e x)=(none, some t, true, .assign x, rB T))
 (k:JR P [.tmp t] (rB r) .ret { e := (t, BT s.e x)::s.e, h := s.h, n := s.n, N := s.N } → Q .ret { e := (t, BT s.e x)::s.e, h := s.h, n := s.n, N := s.N }):AW P (.seq (.region id [o].toArray false) .ret) Q s := by
  simp only[rJ] at h
  refine aU (AS.step h.1 h.2.1 h.2.2.1 (DD (EL h.2.2.2.1 (.inl rfl)) _) (AS.nil (AW.ret (k (Wu e ?_)))))
  show get (_::_) t=_
  unfold get
  rw[Nat.beq_refl]
  exact h.2.2.2.2
@[reducible] def rL{α:Type}(l:List α):AV:=rI (l.length:Int)
@[reducible] def rS(l:List UInt8):AV:=.r (.str l)
abbrev NN:=Nat→Nat
open Go.WideShapes
section
variable{H:Type}(K:Gy H){enc:TypeId × Value→H}{P:Program}{W:World}
theorem ib{t:TypeId}{w:Array Field}{α:Type}{f:α→List RV}{ok:α→Prop}{μ:α→Nat}{v:Value}{d:DataW H}{p:List MemPlace}{r:Reach}{A:Nat}(B:P.underlying t=some (.struct w))(C:Bn K enc P W t f ok μ)
  (j:Value.okWide P W r A t v) (h:DataW.Trod enc P W 0 (λ_=>true) true t v d p):∃a,ok a∧AX (Cx.start W) (.agg ((f a).map .r)) v∧μ a≤K.B d:=by
 obtain⟨O,rfl,_⟩:=okWide_struct B j
 obtain⟨l,E⟩:=h
 obtain⟨a,F,m,I⟩:=C l _ _ E
 refine⟨a,F,.agg ?_ λi c u q J=>?_,I⟩
 ·have:=m.1
  rw[rh,← this];rfl
 ·rw[rG,rK] at q
  obtain⟨M,hd,rfl⟩:=q
  exact .r (m.2 i M u hd (by rw[← J];exact sI))
end
end Go.Proofs.YtifgmfoihehlbaaGreatDoor.Al

namespace Go.Proofs.YtifgmfoihehlbaaGreatDoor.Al
open Go.Lib
theorem Yc{W:World}{g}{row}(h:∀j d,row[j]?=some d→∃v,W.cell? ⟨g,j,none⟩=some v∧BG W (· < W.heap.size) d v):AX (Cx.start W) (.rop row 0) (.pointer (some ⟨g,0,none⟩)):=by
 have q:row≠[]→g<W.heap.size:=by
  intro w
  obtain⟨d,hd⟩:∃d,row[0]?=some d:=by
   cases row with
   | nil=>exact absurd rfl w
   | cons d r=>exact⟨d,rfl⟩
  obtain⟨v,l,_⟩:=h 0 d hd
  unfold World.cell? at l
  rcases tY g W.heap.size with m | m
  ·exact m
  ·rw[tC m] at l;cases l
 exact AX.rop (x:=Cx.start W) (row:=row) (k:=0) (b:=g) (off:=0) (λj=>(W.cell? ⟨g,j,none⟩).getD undef) q
  (λj d A=>by obtain⟨v,l,_⟩:=h j d A;rw[rl];show W.cell? _=_;rw[l];rfl)
  (λj d A=>by obtain⟨v,l,m⟩:=h j d A;rw[l];exact m)
theorem Yg{α β:Type}(f:α→β):∀(l:List α) (j:Nat),(l.flatMap λz=>[f z])[j]?=(l[j]?).map f
 | [],j=>by simp
 | x::l,0=>by simp
 | x::l,j+1=>by
  have:=Yg f l j
  rw[sC,List.singleton_append,tM,this,tM]
theorem VK{α β:Type}(f g:α→β):∀(l:List α) (j:Nat) (d:β),(l.flatMap λz=>[f z,g z])[j]?=some d→∃i a,l[i]?=some a∧((j=2 * i∧d=f a)∨(j=2 * i+1∧d=g a))
 | [],j,d,h=>by simp at h
 | x::l,0,d,h=>by
  have:f x=d:=by simpa using h
  exact⟨0,x,rfl,.inl ⟨rfl,this.symm⟩⟩
 | x::l,1,d,h=>by
  have:g x=d:=by simpa using h
  exact⟨0,x,rfl,.inr ⟨rfl,this.symm⟩⟩
 | x::l,j+2,d,h=>by
  rw[sC] at h
  have w:(l.flatMap λz=>[f z,g z])[j]?=some d:=by simpa using h
  obtain⟨i,a,A,m⟩:=VK f g l j d w
  refine⟨i+1,a,by simpa using A,?_⟩
  rcases m with ⟨m,q⟩ | ⟨m,q⟩
  ·exact .inl ⟨by omega,q⟩
  ·exact .inr ⟨by omega,q⟩
theorem pt{P:Program}{W:World}{w}{k}{A:List Int}{g n}{t e}{d}(C:VarReads P W w d)(l:d=tabData k A)(n1:P.globalNamed w=some g)
 (E:(P.globals[g]?).map (·.type)=some t) (F:P.underlying t=some (.array n e)) (I:P.underlying e=some (.int k)) (ce:P.cellsOf e=1) (J:P.cellsOf t=n):∃t p, W.heap[g]?=some (.cells ((A.map λz => Value.int k z).toArray) t p) := by
  obtain⟨U, V, X, B, p, hg, m, j, hd⟩ := C
  obtain rfl := rW (n1.symm.trans hg)
  obtain rfl := rW (E.symm.trans m)
  subst l
  have q := cells_of_tab F I ce J hd
  unfold World.var? at j
  rw[n1] at j
  simp only[rt] at j
  split at j
  · rename_i c M O T
    cases j
    refine⟨M, O, ?_⟩
    rw[T, ← q]
  · cases j
theorem nB {P : Program} {W : World} {d1 d2 : DataW Unit} {t1 t2 e1 e2 : TypeId} {fs : Array Field} (h1 : VarReads P W "unicode/utf8.first" d1) (hd1 : d1 = tabData .u8 GW) (n1 : P.globalNamed "unicode/utf8.first" = some Ia)
  (y1:(P.globals[Ia]?).map (·.type)=some t1) (u1:P.underlying t1=some (.array 256 e1)) (ue:P.underlying e1=some (.int .u8)) (ce:P.cellsOf e1=1) (ct:P.cellsOf t1=256)
  (h2 : VarReads P W "unicode/utf8.acceptRanges" d2) (hd2 : d2 = .agg (Jc.map fun p => .agg ([p.1, p.2].map fun z => .lit (.int .u8 z)))) (n2 : P.globalNamed "unicode/utf8.acceptRanges" = some Ip)
  (y2:(P.globals[Ip]?).map (·.type)=some t2) (u2:P.underlying t2=some (.array 16 e2)) (us:P.underlying e2=some (.struct fs)) (hfs:∀(i:Nat) (f:Field),fs[i]?=some f→P.underlying f.type=some (.int .u8)∧f.offset=i∧P.cellsOf f.type=1)
  (hsz:fs.size=2) (c2:P.cellsOf e2=2)
  (hw:∀g cs,QG g=some cs→0<cs.size∧∃t p,W.heap[g]?=some (.cells cs t p):=by intro _ _ h;cases h) (hF:SC W:=by trivial):Es (Cx.start W):=by
 refine⟨λg row hg=>?_,λg cs hg=>⟨?_,hw g cs hg⟩,W,hF,Go.RowKit.Below.refl _ _,λ_ h=>h⟩
 rotate_left
 ·obtain⟨_,t,p,h⟩:=hw g cs hg
  show g<W.heap.size
  exact(sG.1 h).1
 unfold Hn at hg
 by_cases hF:g=Ia
 ·rw[qy hF] at hg
  cases hg
  subst hF
  obtain⟨g,t,cs,fuel,p,hg,hty,hvar,hd⟩:=h1
  obtain rfl:=rW (n1.symm.trans hg)
  obtain rfl:=rW (y1.symm.trans hty)
  subst hd1
  have hcs:=cells_of_tab u1 ue ce ct hd
  refine Yc λj d hj=>?_
  rw[Yg,rK] at hj
  obtain⟨z,hz,rfl⟩:=hj
  refine⟨.int .u8 z,?_,.int _ _⟩
  rw[World.var?_cell hg hvar j,← sI,hcs,rG,hz];rfl
 ·rw[qx hF] at hg
  by_cases hA:g=Ip
  ·rw[qy hA] at hg
   cases hg
   subst hA
   obtain⟨g,t,cs,fuel,p,hg,hty,hvar,hd⟩:=h2
   obtain rfl:=rW (n2.symm.trans hg)
   obtain rfl:=rW (y2.symm.trans hty)
   subst hd2
   refine Yc λj d hj=>?_
   obtain⟨i,a,hi,hja⟩:=VK _ _ _ _ _ hj
   have hil:i<16:=(rC.1 hi).1
   obtain⟨fuel',d',q,hdi,he⟩:=array_elem u2 hd i hil
   rw[rG,hi] at hdi
   cases hdi
   rw[c2] at he
   have hcs:=ints_of_struct us hfs (by rw[c2,hsz]) he
   have e0:=rU (·[0]?) hcs
   have e1:=rU (·[1]?) hcs
   simp only[sD,ry] at e0 e1
   rcases hja with ⟨rfl,rfl⟩ | ⟨rfl,rfl⟩
   ·refine⟨.int .u8 a.1,?_,.int _ _⟩
    rw[World.var?_cell hg hvar (2 * i),← sI]
    simpa[tI] using e0
   ·refine⟨.int .u8 a.2,?_,.int _ _⟩
    rw[World.var?_cell hg hvar (2 * i+1),← sI]
    simpa[tI] using e1
  ·rw[qx hA] at hg;cases hg
end Go.Proofs.YtifgmfoihehlbaaGreatDoor.Al
