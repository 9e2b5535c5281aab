/- The program logic, a part of it. -/
import Derived.Test.YtmogkkigacadpaaGreatDoorAl2
import Derived.Lib.LaidU8
set_option linter.all false
namespace Go.Proofs.YtmogkkigacadpaaGreatDoor.Al
inductive Bi(e:Ao):List Nat→Ao→Prop
 | nil:Bi e [] []
 | cons {k:Nat} {ks:List Nat} {v:AV} {r:Ao} (h:get e k=v) (t:Bi e ks r):Bi e (k::ks) ((k,v)::r)
inductive Ez(e:Ah):List Nat→Ah→Prop
 | nil:Ez e [] []
 | cons {k:Nat} {ks:List Nat} {v:Ad} {r:Ah} (h:hget e k=some v) (t:Ez e ks r):Ez e (k::ks) ((k,some v)::r)
theorem Bi.cv{e}{ks}{e'}(h:Bi e ks e'):Mj e' e:=by
 induction h with
 | nil=>trivial
 | cons h _ j=>exact⟨.inl (.inl h),j⟩
theorem Ez.cv{e}{ks}{e'}(h:Ez e ks e'):M9 e' e:=by
 induction h with
 | nil=>trivial
 | cons h _ j=>exact⟨.inl h,j⟩
section
variable{e:Ao}{k:Nat}{ks:List Nat}{r:Ao}
theorem kR{d}(t:Bi e ks r)(h:get e k=.r d):Bi e (k::ks) ((k,.r d)::r):=.cons h t
theorem kP{a b c d}(t:Bi e ks r)(h:get e k=.ptr a b c d):Bi e (k::ks) ((k,.ptr a b c d)::r):=.cons h t
theorem kO{a b}(t:Bi e ks r)(h:get e k=.own a b):Bi e (k::ks) ((k,.own a b)::r):=.cons h t
theorem kA{d}(t:Bi e ks r)(h:get e k=.agg d):Bi e (k::ks) ((k,.agg d)::r):=.cons h t
theorem kC{d}(t:Bi e ks r)(h:get e k=.cst d):Bi e (k::ks) ((k,.cst d)::r):=.cons h t
theorem kT{d}(t:Bi e ks r)(h:get e k=.tup d):Bi e (k::ks) ((k,.tup d)::r):=.cons h t
theorem kF{f}{d}(t:Bi e ks r)(h:get e k=.fn f d):Bi e (k::ks) ((k,.fn f d)::r):=.cons h t
theorem kQ{d}{i}(t:Bi e ks r)(h:get e k=.rop d i):Bi e (k::ks) ((k,.rop d i)::r):=.cons h t
theorem kM{a b}(t:Bi e ks r)(h:get e k=.mref a b):Bi e (k::ks) ((k,.mref a b)::r):=.cons h t
theorem kW{b}{v}(t:Bi e ks r)(h:get e k=.whn b v):Bi e (k::ks) ((k,.whn b v)::r):=.cons h t
theorem kK{a b c d f}(t:Bi e ks r)(h:get e k=.pk a b c d f):Bi e (k::ks) ((k,.pk a b c d f)::r):=.cons h t
theorem kU{a b c}{d}(t:Bi e ks r)(h:get e k=.fo a b c d):Bi e (k::ks) ((k,.fo a b c d)::r):=.cons h t
theorem kI{b}(t:Bi e ks r)(h:get e k=.ifc b):Bi e (k::ks) ((k,.ifc b)::r):=.cons h t
theorem kV{a b c}(t:Bi e ks r)(h:get e k=.pre a b c):Bi e (k::ks) ((k,.pre a b c)::r):=.cons h t
theorem kY{a b}(t:Bi e ks r)(h:get e k=.yld a b):Bi e (k::ks) ((k,.yld a b)::r):=.cons h t
theorem kL{xs}(t:Bi e ks r)(h:get e k=.full xs):Bi e (k::ks) ((k,.full xs)::r):=.cons h t
end
section
variable{e:Ah}{k:Nat}{ks:List Nat}{r:Ah}
theorem hB{g}{t}{cs}(t1:Ez e ks r)(h:hget e k=some (.box g t cs)):Ez e (k::ks) ((k,some (.box g t cs))::r):=.cons h t1
theorem hA{g}{t}{sz}{xs}(t1:Ez e ks r)(h:hget e k=some (.arr g t sz xs)):Ez e (k::ks) ((k,some (.arr g t sz xs))::r):=.cons h t1
theorem hC{o}(t1:Ez e ks r)(h:hget e k=some o):Ez e (k::ks) ((k,some o)::r):=.cons h t1
end
section
variable{P:Program}{Q:Exit→St→Prop}{x y:Code}
theorem aF{e:Ao}{h:Ah}{n N:Nat}(ks:List Nat){e':Ao}(hr:AW P x Q ⟨e',[],n,N⟩)
  (he:Bi e ks e':=by repeat' first | exact Bi.nil | apply kR _ rfl | apply kP _ rfl | apply kA _ rfl | apply kO _ rfl | apply kC _ rfl | apply kT _ rfl | apply kF _ rfl | apply kQ _ rfl | apply kM _ rfl | apply kW _ rfl | apply kL _ rfl | apply kK _ rfl | apply kU _ rfl | apply kI _ rfl | apply kV _ rfl | apply kY _ rfl):AW P x Q ⟨e,h,n,N⟩:=
 AW.weak (Ae.cv (h':=[]) he.cv trivial (nk _)) hr
theorem aG{e:Ao}{h:Ah}{n N:Nat}(ks js:List Nat){e':Ao}{h':Ah}(hr:AW P x Q ⟨e',h',n,N⟩)
  (he:Bi e ks e':=by repeat' first | exact Bi.nil | apply kR _ rfl | apply kP _ rfl | apply kA _ rfl | apply kO _ rfl | apply kC _ rfl | apply kT _ rfl | apply kF _ rfl | apply kQ _ rfl | apply kM _ rfl | apply kW _ rfl | apply kL _ rfl | apply kK _ rfl | apply kU _ rfl | apply kI _ rfl | apply kV _ rfl | apply kY _ rfl)
  (hh:Ez h js h':=by repeat' first | exact Ez.nil | apply hB _ rfl | apply hA _ rfl | apply hC _ rfl):AW P x Q ⟨e,h,n,N⟩:=
 AW.weak (Ae.cv he.cv hh.cv (nk _)) hr
end
section
variable{P:Program}{ops:Array Oper}{rest:List Oper}{K:St→Prop}{o o2:Oper}{e:Ao}{h:Ah}{n N:Nat}
theorem BU(ks js:List Nat){e':Ao}{h':Ah}(hr:AL P ops rest ⟨e',h',n,N⟩ K)
  (he:Bi e ks e':=by repeat' first | exact Bi.nil | apply kR _ rfl | apply kP _ rfl | apply kA _ rfl | apply kO _ rfl | apply kC _ rfl | apply kT _ rfl | apply kF _ rfl | apply kQ _ rfl | apply kM _ rfl | apply kW _ rfl | apply kL _ rfl | apply kK _ rfl | apply kU _ rfl | apply kI _ rfl | apply kV _ rfl | apply kY _ rfl)
  (hh:Ez h js h':=by repeat' first | exact Ez.nil | apply hB _ rfl | apply hA _ rfl | apply hC _ rfl):AL P ops rest ⟨e,h,n,N⟩ K:=
 AL.weak (Ae.cv he.cv hh.cv (nk _)) hr
end
section
variable{P:Program}{ops:Array Oper}{rest:List Oper}{K:St→Prop}{o o2:Oper}{s:St}
theorem vQ{d j m}{l b}{v}(hg:(o.guard, o.dst, Nat.blt d s.N, (ops[j]?).bind (·.dst), BG s.e (.tmp m))=(some (j, l), some d, true, some m, .r (.bool b)))(q:Aa P (b==l) o s.e s.h v)
 (w:AL P ops rest { e := (d, .whn (b==l) v)::s.e, h := s.h, n := s.n, N := s.N } K):AL P ops (o::rest) s K := by
  simp only[ns] at hg
  obtain⟨A, B, C, E, F⟩ := hg
  exact AL.stepW (.one A E F) B C (CS q _) w
theorem wQ{d j q}{l b m}{v}(hg:(o.guard, o.dst, Nat.blt d s.N, (ops[j]?).bind (·.dst), BG s.e (.tmp q))=(some (j, l), some d, true, some q, .whn m (.r (.bool b))))(w:Aa P (m&&(b==l)) o s.e s.h v)
 (A:AL P ops rest { e := (d, .whn (m&&(b==l)) v)::s.e, h := s.h, n := s.n, N := s.N } K):AL P ops (o::rest) s K := by
  simp only[ns] at hg
  obtain⟨B, C, E, F, I⟩ := hg
  exact AL.stepW (.two B F I) C E (CS w _) A
theorem qP{d}{v}(hg:(o.guard, o.dst, Nat.blt d s.N)=(none, some d, true))(j:Aa P true o s.e s.h v)
 (l:AQ P ops rest { e := (d, v)::s.e, h := s.h, n := s.n, N := s.N } K):AQ P ops (o::rest) s K :=
  AQ.step (pB hg).1 (pB (pB hg).2).1 (pB (pB hg).2).2 j l
theorem qO{d j m}{l b}{v}(hg:(o.guard, o.dst, Nat.blt d s.N, (ops[j]?).bind (·.dst), BG s.e (.tmp m))=(some (j, l), some d, true, some m, .r (.bool b)))(q:Aa P (b==l) o s.e s.h v)
 (w:AQ P ops rest { e := (d, .whn (b==l) v)::s.e, h := s.h, n := s.n, N := s.N } K):AQ P ops (o::rest) s K := by
  simp only[ns] at hg
  obtain⟨A, B, C, E, F⟩ := hg
  exact AQ.stepW (.one A E F) B C q w
theorem qT{d j q}{l b m}{v}(hg:(o.guard, o.dst, Nat.blt d s.N, (ops[j]?).bind (·.dst), BG s.e (.tmp q))=(some (j, l), some d, true, some q, .whn m (.r (.bool b))))(w:Aa P (m&&(b==l)) o s.e s.h v)
 (A:AQ P ops rest { e := (d, .whn (m&&(b==l)) v)::s.e, h := s.h, n := s.n, N := s.N } K):AQ P ops (o::rest) s K := by
  simp only[ns] at hg
  obtain⟨B, C, E, F, I⟩ := hg
  exact AQ.stepW (.two B F I) C E w A
theorem sS{d}{v}{h'}{n'}(hg:(o.guard, o.dst, Nat.blt d s.N)=(none, some d, true))(j:BR P true o s.e s.h s.n v h' n')
 (l:AL P ops rest { e := (d, v)::s.e, h := h', n := n', N := s.N } K):AL P ops (o::rest) s K :=
  AL.step (pB hg).1 (pB (pB hg).2).1 (pB (pB hg).2).2 j l
theorem lF{t t2}{x y}{f off id g i k d1 d2 id' l m}{e1 e2}{cs j}{a}(A:An P t f off)(B:BQ P t2)
 (q:(o.guard, o.dst, Nat.blt d1 s.N, o.op, BG s.e x, hget s.h id)=(none, some d1, true, .fieldAddr t x f, .ptr id g i k, some (.box g e1 cs)))
 (w:(o2.guard, o2.dst, Nat.blt d2 s.N, o2.op, BG ((d1, .ptr id g i (k+off))::s.e) y, hget s.h id', j[m]?)=(none, some d2, true, .load t2 y, .ptr id' l 0 m, some (.box l e2 j), some a))
 (C:AL P ops rest { e := (d2, a)::(d1, .ptr id g i (k+off))::s.e, h := s.h, n := s.n, N := s.N } K):AL P ops (o::o2::rest) s K := by
  simp only[ns] at q w
  obtain⟨E, F, a3, a4, a5, I⟩ := q
  obtain⟨J, M, O, T, U, V, X⟩ := w
  exact AL.step E F a3 (CS (H5 (ob := .box g e1 cs) a4 A (.inl a5) (λ_ => I) rfl) _) (AL.step J M O (CS (AU T B (.inl U) V X) _) C)
theorem vF{t t2}{x y}{f off id g i k d1 d2 id' B C j E F l}{w b A m}{e1 e2}{cs q}{a}(M:An P t f off)(O:BQ P t2)
 (I:(o.guard, o.dst, Nat.blt d1 s.N, (ops[j]?).bind (·.dst), BG s.e (.tmp E), o.op, BG s.e x, hget s.h id)=(some (j, w), some d1, true, some E, .r (.bool b), .fieldAddr t x f, .ptr id g i k, some (.box g e1 cs)))
 (J:(o2.guard, o2.dst, Nat.blt d2 s.N, (ops[F]?).bind (·.dst), BG ((d1, .whn (b==w) (.ptr id g i (k+off)))::s.e) (.tmp l), o2.op, BG ((d1, .whn (b==w) (.ptr id g i (k+off)))::s.e) y, hget s.h id', q[C]?)=(some (F, A), some d2, true, some l, .r (.bool m), .load t2 y, .whn (m==A) (.ptr id' B 0 C), some (.box B e2 q), some a))
 (T:AL P ops rest { e := (d2, .whn (m==A) a)::(d1, .whn (b==w) (.ptr id g i (k+off)))::s.e, h := s.h, n := s.n, N := s.N } K):AL P ops (o::o2::rest) s K := by
  simp only[ns] at I J
  obtain⟨U, V, a3, a4, a5, X, Z, a8⟩ := I
  obtain⟨b1, m, b3, b4, b5, b6, b7, b8, b9⟩ := J
  exact AL.stepW (.one U a4 a5) V a3 (CS (H5 (ob := .box g e1 cs) X M (.inl Z) (λ_ => a8) rfl) _) (AL.stepW (.one b1 b4 b5) m b3 (CS (AU b6 O (iR b7) b8 b9) _) T)
end
def XE:AV→Bool
 | .r _=>true
 | _=>false
theorem bE{l:List AV}(h:l.all XE=true):∃cs:List RV,l=cs.map .r:=by
 induction l with
 | nil=>exact⟨[],rfl⟩
 | cons a l j=>
  rw[qn,np] at h
  obtain⟨cs,rfl⟩:=j h.2
  cases a with
  | r d=>exact⟨d::cs,rfl⟩
  | _=>exact Bool.noConfusion h.1
theorem Fz.g2{h}{a}{ds:List AV}(e:a=.agg ds)(e2:ds.all XE=true):Fz h a (.agg ds):=by
 obtain⟨l,j⟩:=bE e2
 exact .g e j
section
variable{P:Program}{ops:Array Oper}{rest:List Oper}{K:St→Prop}{o:Oper}{s:St}
theorem cL{d:Nat}{f:FuncId}{fo:Operand}{xs:Array Operand}{ats:Array TypeId}{bs:List AV}{r:AV}(hq:AZ P f bs r)
  (hg:(o.guard,o.dst,Nat.blt d s.N,o.op,BG s.e fo,r.flat)=(none,some d,true,.call { callee:=.value fo,args:=xs,argTypes:=ats },.fn f [],true))
  (hr:AL P ops rest { e:=(d,r)::s.e,h:=s.h,n:=s.n,N:=s.N } K)
  (hx:Ho true s.e s.h xs.toList bs:=by repeat' first | exact trivial | refine⟨⟨_,iL,.d rfl⟩,?_⟩ | refine⟨⟨_,iL,.g2 rfl rfl⟩,?_⟩ | refine⟨⟨_,iL,.one (.own rfl)⟩,?_⟩ | refine⟨⟨_,iR rfl,.d rfl⟩,?_⟩ | refine⟨⟨_,iR rfl,.g2 rfl rfl⟩,?_⟩):AL P ops (o::rest) s K:=by
 simp only[ns] at hg
 obtain⟨h1,h2,h3,h4,h5,h6⟩:=hg
 exact AL.step h1 h2 h3 (DJ (caps:=[]) h4 (.inl h5) rfl hx (λ_=>by rw[pa];exact hq) h6) hr
theorem vL{d j dj:Nat}{want b:Bool}{f:FuncId}{fo:Operand}{xs:Array Operand}{ats:Array TypeId}{bs:List AV}{r:AV}(hq:(b==want)=true→AZ P f bs r)
  (hg:(o.guard,o.dst,Nat.blt d s.N,(ops[j]?).bind (·.dst),BG s.e (.tmp dj),o.op,BG s.e fo,r.flat)=(some (j,want),some d,true,some dj,.r (.bool b),.call { callee:=.value fo,args:=xs,argTypes:=ats },.fn f [],true))
  (hr:AL P ops rest { e:=(d,.whn (b==want) r)::s.e,h:=s.h,n:=s.n,N:=s.N } K)
  (hx:Ho (b==want) s.e s.h xs.toList bs:=by repeat' first | exact trivial | refine⟨⟨_,iL,.d rfl⟩,?_⟩ | refine⟨⟨_,iL,.g2 rfl rfl⟩,?_⟩ | refine⟨⟨_,iL,.one (.own rfl)⟩,?_⟩ | refine⟨⟨_,iR rfl,.d rfl⟩,?_⟩ | refine⟨⟨_,iR rfl,.g2 rfl rfl⟩,?_⟩):AL P ops (o::rest) s K:=by
 simp only[ns] at hg
 obtain⟨h1,h2,h3,h4,h5,h6,h7,h8⟩:=hg
 exact AL.stepW (.one h1 h4 h5) h2 h3 (DJ (caps:=[]) h6 (.inl h7) rfl hx (λhc=>by rw[pa];exact hq hc) h8) hr
end
section
variable{P:Program}{Q:Exit→St→Prop}{s:St}{x y:Code}
theorem aU{id}{l:List Oper}(h:AL P l.toArray l s λj=>AW P y Q j):AW P (.seq (.region id l.toArray false) y) Q s:=.seq (.region h)
theorem aT(h:∀ {K:St→Prop},(∀s,AW P y Q s→K s)→AW P x (GQ K Q) s):AW P (.seq x y) Q s:=nK λ_ j=>h j
theorem cI{α:Type}{b:Bool}{c:Operand}{X Y Z:α}(hc:BG s.e c=.r (.bool b))(h:(if b=true then X else Y)=Z)(j:X=Z→AW P x Q s)(l:Y=Z→AW P y Q s):AW P (.cond c x y) Q s:=
 AW.cond hc (λe=>j (Cd e h)) (λe=>l (CY e h))
end
theorem mF{P:Program}{f}{fn:Func}{code}{args:List AV}{r:AV}{N}(l:P.funcs[f]?=some fn)(m:fn.ntmps=N)
 (j : (fn.body, fn.name == "runtime.NumGoroutine", r.closed, Nat.ble args.length N) = (some code, false, true, true)) (hw : ∀ q, AW P code (II P fn.results.toList r) ⟨HC 0 args, [], q, N⟩) : AZ P f args r := by
  simp only[ns] at j
  obtain⟨w, A, B, C⟩ := j
  exact XK l w A m B (pF C) hw
theorem oZ{P}{ops}{s}{K}{y}{Q}(j:∀s,AW P y Q s→K s)(h:AW P y Q s):AL P ops [] s K:=AL.nil (j _ h)
def Us(t i:Nat):List PO→Nat→Option Nat→Option Nat
 | [],_,r=>r
 | p::L,k,r=>match Nat.blt k i with
  | true=>Us t i L (k+1) (match p.d with
   | some d=>(match Nat.beq d t with
    | true=>some k
    | false=>r)
   | none=>r)
  | false=>r
def Vj(t i:Nat):List PO→Nat→Option Nat→Option Nat
 | [],_,r=>r
 | p::L,k,r=>match Nat.blt k i with
  | true=>Vj t i L (k+1) (match p.hp with
   | some (d,_)=>(match Nat.beq d t with
    | true=>some k
    | false=>r)
   | none=>r)
  | false=>r
section
variable{P:Program}{ops:Array Oper}{s:St}{L:List PO}{i:Nat}{p:PO}{o:Oper}
theorem Qc{D}{G}{e}{t j}(l:CN ops D i)(_:Us t i L 0 none=some j){p:PO}{a}(m:L[j]?=some p)(hd:p.d=some t)(hw:wt ops 40 i j=true)(hB:JB (L.drop (j+1)) t=true)(q:p.v G=a):get (Dn D G e L) t=a:=UL l j m hd hw hB q
theorem PC{D}{G}{h}{t j}(l:CN ops D i)(_:Vj t i L 0 none=some j){p:PO}{ob}{a}(m:L[j]?=some p)(hd:p.hp=some (t,ob))(hw:wt ops 40 i j=true)(hB:LP ops i t (L.drop (j+1)) (j+1)=true)(q:ob G=a):hget (Dm D G h L) t=a:=jt l j m hd hw hB q
theorem oB(ie:Ao)(ih:Ah)(h:∀ {G e h'},Aa P true o (ie++e) (ih++h') (p.v G))
  (hg:o.guard=none:=by rfl) (hd:o.dst=p.d:=by rfl) (hN:∀d,p.d=some d→Nat.blt d s.N=true:=by intro d h;cases h<;>rfl) (hp:p.hp=none:=by rfl) (hv:∀G n,p.v (Cy G i n)=p.v G:=by intros;rfl)
  (hE:∀D G,CN ops D i→HM (Dn D G s.e L) ie:=by intro _ _ hr;repeat' first | exact trivial | refine⟨P3 rfl rfl,?_⟩ | refine⟨Qc hr rfl rfl rfl (by kernel_rfl) rfl rfl,?_⟩ | refine⟨inE_baseL hr (by kernel_rfl) rfl,?_⟩)
  (hH:∀D G,CN ops D i→G4 (Dm D G s.h L) ih:=by intro _ _ hr;repeat' first | exact trivial | refine⟨Pp rfl rfl,?_⟩ | refine⟨PC hr rfl rfl rfl (by kernel_rfl) (by kernel_rfl) rfl,?_⟩ | refine⟨QS hr (by kernel_rfl) rfl,?_⟩):Ob P ops s L i p o:=
 TH (n1:=λn=>n) hg hd hN hp (λ_=>ie) (λ_=>ih) hE hH hv λ_ _ _ _=>CS h _
theorem oC(ie:(Nat→Nat)→Ao)(ih:(Nat→Nat)→Ah)(h:∀G e h',Aa P true o (ie G++e) (ih G++h') (p.v G))
  (hg:o.guard=none:=by rfl) (hd:o.dst=p.d:=by rfl) (hN:∀d,p.d=some d→Nat.blt d s.N=true:=by intro d h;cases h<;>rfl) (hp:p.hp=none:=by rfl) (hv:∀G n,p.v (Cy G i n)=p.v G:=by intros;rfl)
  (hE:∀D G,CN ops D i→HM (Dn D G s.e L) (ie G):=by intro _ _ hr;repeat' first | exact trivial | refine⟨P3 rfl rfl,?_⟩ | refine⟨Qc hr rfl rfl rfl (by kernel_rfl) rfl rfl,?_⟩ | refine⟨inE_baseL hr (by kernel_rfl) rfl,?_⟩)
  (hH:∀D G,CN ops D i→G4 (Dm D G s.h L) (ih G):=by intro _ _ hr;repeat' first | exact trivial | refine⟨Pp rfl rfl,?_⟩ | refine⟨PC hr rfl rfl rfl (by kernel_rfl) (by kernel_rfl) rfl,?_⟩ | refine⟨QS hr (by kernel_rfl) rfl,?_⟩):Ob P ops s L i p o:=
 TH (n1:=λn=>n) hg hd hN hp ie ih hE hH hv λG e h' _=>CS (h G e h') _
theorem oD(ie:(Nat→Nat)→Ao)(ih:(Nat→Nat)→Ah){n1:Nat→Nat}(h:∀G e h' n,BR P true o (ie G++e) (ih G++h') n (p.v G) (ih G++h') (n1 n))
  (hg:o.guard=none:=by rfl) (hd:o.dst=p.d:=by rfl) (hN:∀d,p.d=some d→Nat.blt d s.N=true:=by intro d h;cases h<;>rfl) (hp:p.hp=none:=by rfl) (hv:∀G n,p.v (Cy G i n)=p.v G:=by intros;rfl)
  (hE:∀D G,CN ops D i→HM (Dn D G s.e L) (ie G):=by intro _ _ hr;repeat' first | exact trivial | refine⟨P3 rfl rfl,?_⟩ | refine⟨Qc hr rfl rfl rfl (by kernel_rfl) rfl rfl,?_⟩ | refine⟨inE_baseL hr (by kernel_rfl) rfl,?_⟩)
  (hH:∀D G,CN ops D i→G4 (Dm D G s.h L) (ih G):=by intro _ _ hr;repeat' first | exact trivial | refine⟨Pp rfl rfl,?_⟩ | refine⟨PC hr rfl rfl rfl (by kernel_rfl) (by kernel_rfl) rfl,?_⟩ | refine⟨QS hr (by kernel_rfl) rfl,?_⟩):Ob P ops s L i p o:=
 TH hg hd hN hp ie ih hE hH hv h
theorem oM{id:Nat}{ob:(Nat→Nat)→Option Ad}{n1:Nat→Nat}(ie:(Nat→Nat)→Ao)(ih:(Nat→Nat)→Ah)(hp:p.hp=some (id,ob))(h:∀(G:Nat→Nat) e h' n,BR P true o (ie G++e) (ih G++h') n (p.v (Cy G i n)) ((id,ob (Cy G i n))::(ih G++h')) (n1 n))
  (hg:o.guard=none:=by rfl) (hd:o.dst=p.d:=by rfl) (hN:∀d,p.d=some d→Nat.blt d s.N=true:=by intro d h;cases h<;>rfl)
  (hE:∀D G,CN ops D i→HM (Dn D G s.e L) (ie G):=by intro _ _ hr;repeat' first | exact trivial | refine⟨P3 rfl rfl,?_⟩ | refine⟨Qc hr rfl rfl rfl (by kernel_rfl) rfl rfl,?_⟩ | refine⟨inE_baseL hr (by kernel_rfl) rfl,?_⟩)
  (hH:∀D G,CN ops D i→G4 (Dm D G s.h L) (ih G):=by intro _ _ hr;repeat' first | exact trivial | refine⟨Pp rfl rfl,?_⟩ | refine⟨PC hr rfl rfl rfl (by kernel_rfl) (by kernel_rfl) rfl,?_⟩ | refine⟨QS hr (by kernel_rfl) rfl,?_⟩):Ob P ops s L i p o:=
 my hg hd hN hp ie ih hE hH h
end
@[reducible] def pO(d:Nat)(v:AV):PO:=⟨some d,λ_=>v,none,[]⟩
theorem rP{P:Program}{id:Nat}{l:List Oper}{s:St}{Q:Exit→St→Prop}(n:Nat)(L:List PO){lt:List Oper}(hm:P.follows .mixedOrders=true)(e4:l.drop n=lt)(hOb:Jl P l.toArray s L 0 L l)
  (h:∀(G:Nat→Nat) (n':Nat),AL P l.toArray lt ⟨Dn (λ_=>true) G s.e L,Dm (λ_=>true) G s.h L,n',s.N⟩ (Q .normal)) (hB:Qq l.toArray n L=true:=by kernel_rfl)
  (hLoc:HW L:=by repeat' first | exact trivial | refine⟨λ_ _ _=>⟨rfl,λ_ _ e=>by cases e<;>rfl⟩,?_⟩):AW P (.region id l.toArray true) Q s:=Li n L hm hB hLoc e4 hOb h
theorem wk{s s'}(h:Ae s s':=by refine Ae.cv ?_ ?_ nL<;>repeat (first | exact trivial | refine⟨jL,?_⟩ | refine⟨.inl rfl,?_⟩)):Ae s s':=h
section
variable{P:Program}{ops:Array Oper}{rest:List Oper}{K:St→Prop}{o:Oper}{s:St}
theorem mM{d}{x}(hg:(o.guard,o.dst,Nat.blt d s.N,o.op)=(none,some d,true,.move x))(j:AL P ops rest { e:=(d,BG s.e x)::s.e,h:=s.h,n:=s.n,N:=s.N } K):AL P ops (o::rest) s K:=by
 simp only[ns] at hg
 obtain⟨l,m,q,w⟩:=hg
 exact AL.step l m q (CS (AK w (.inl rfl)) _) j
theorem mA{d}{x}(hg:(o.guard,o.dst,Nat.blt d s.N,o.op)=(none,some d,true,.assign x))(j:AL P ops rest { e:=(d,BG s.e x)::s.e,h:=s.h,n:=s.n,N:=s.N } K):AL P ops (o::rest) s K:=by
 simp only[ns] at hg
 obtain⟨l,m,q,w⟩:=hg
 exact AL.step l m q (CS (EF w (.inl rfl)) _) j
theorem vM{d j m}{l b}{x}(hg:(o.guard, o.dst, Nat.blt d s.N, (ops[j]?).bind (·.dst), BG s.e (.tmp m), o.op)=(some (j, l), some d, true, some m, .r (.bool b), .move x))
 (q:AL P ops rest { e := (d, .whn (b==l) (BG s.e x))::s.e, h := s.h, n := s.n, N := s.N } K):AL P ops (o::rest) s K := by
  simp only[ns] at hg
  obtain⟨w, A, B, C, E, F⟩ := hg
  exact AL.stepW (.one w C E) A B (CS (AK F (.inl rfl)) _) q
end
section
variable{P:Program}{ops:Array Oper}{rest:List Oper}{K:St→Prop}{o:Oper}{s:St}{d:Nat}{x y:Operand}
theorem one{v}(hg:o.guard=none)(hd:o.dst=some d)(j:Nat.blt d s.N=true)(l:Aa P true o s.e s.h v)(m:AL P ops rest { e:=(d,v)::s.e,h:=s.h,n:=s.n,N:=s.N } K):AL P ops (o::rest) s K:=AL.step hg hd j (CS l _) m
theorem xI{α:Type}{f}{t e}{sz b}{l:List α}{k}{z}{a}(m:By P t e sz b)(hg:(o.guard, o.dst, Nat.blt d s.N, o.op, BG s.e x, BG s.e y)=(none, some d, true, .indexAddr t x y, .r (.sl (l.map f)), .r (.int k z)))
 (q:AM l z=some a) (w:AL P ops rest { e := (d, .rop (f a) 0)::s.e, h := s.h, n := s.n, N := s.N } K) (j:∀a, (f a).length=sz := by intro _;rfl):AL P ops (o::rest) s K := by
  simp only[ns] at hg
  exact one hg.1 hg.2.1 hg.2.2.1 (A9 hg.2.2.2.1 m.slice (.inl hg.2.2.2.2.1) (.inl hg.2.2.2.2.2) j λ_ => q) w
theorem xL{α:Type}{f}{t e}{sz b}{l:List α}(j:By P t e sz b)(hg:(o.guard, o.dst, Nat.blt d s.N, o.op, BG s.e x)=(none, some d, true, .call { callee := .builtin .len, args := #[x], argTypes := #[t] }, .r (.sl (l.map f))))
 (m:AL P ops rest { e := (d, .r (.int .i64 l.length))::s.e, h := s.h, n := s.n, N := s.N } K):AL P ops (o::rest) s K := by
  simp only[ns] at hg
  exact one hg.1 hg.2.1 hg.2.2.1 (DM hg.2.2.2.1 j.slice (.inl hg.2.2.2.2)) m
theorem xA{t j}{k}{a b r}(hg:(o.guard, o.dst, Nat.blt d s.N, o.op, BG s.e x, BG s.e y)=(none, some d, true, .binOp .add t x y j, .r (.int k a), .r (.int k b)))
 (l:AS k (a+b)=some r) (m:AL P ops rest { e := (d, .r (.int k r))::s.e, h := s.h, n := s.n, N := s.N } K):AL P ops (o::rest) s K := by
  simp only[ns] at hg
  exact one hg.1 hg.2.1 hg.2.2.1 (HO hg.2.2.2.1 (.inl hg.2.2.2.2.1) (.inl hg.2.2.2.2.2) λ_ => l) m
theorem xN{a b}(hg:(o.guard, o.dst, Nat.blt d s.N, o.op, BG s.e x, BG s.e y)=(none, some d, true, .pick x y (.const (.bool false)), .r (.bool a), .whn (a==true) (.r (.bool b))))
 (j:AL P ops rest { e := (d, .r (.bool (a&&b)))::s.e, h := s.h, n := s.n, N := s.N } K):AL P ops (o::rest) s K := by
  simp only[ns] at hg
  exact one hg.1 hg.2.1 hg.2.2.1 (BK hg.2.2.2.1 (.inl hg.2.2.2.2.1) (iR hg.2.2.2.2.2)) j
theorem xO{a b}(hg:(o.guard, o.dst, Nat.blt d s.N, o.op, BG s.e x, BG s.e y)=(none, some d, true, .pick x (.const (.bool true)) y, .r (.bool a), .whn (a==false) (.r (.bool b))))
 (j:AL P ops rest { e := (d, .r (.bool (a||b)))::s.e, h := s.h, n := s.n, N := s.N } K):AL P ops (o::rest) s K := by
  simp only[ns] at hg
  exact one hg.1 hg.2.1 hg.2.2.1 (Ct hg.2.2.2.1 (.inl hg.2.2.2.2.1) (iR hg.2.2.2.2.2)) j
theorem xB{t}{row:List RV}{sz}(cs:List AV)(j:Bg P t sz)(hg:(o.guard, o.dst, Nat.blt d s.N, o.op, BG s.e x, row.length, row.map AV.r)=(none, some d, true, .load t x, .rop row 0, sz, cs))
 (l:AL P ops rest { e := (d, .agg cs)::s.e, h := s.h, n := s.n, N := s.N } K):AL P ops (o::rest) s K := by
  simp only[ns] at hg
  exact one hg.1 hg.2.1 hg.2.2.1 (Cf hg.2.2.2.1 j (.inl hg.2.2.2.2.1) hg.2.2.2.2.2.1 hg.2.2.2.2.2.2) l
theorem xC{t}{id g}{e}{sz}{cs:List AV}(j:Bg P t sz)(hg:(o.guard, o.dst, Nat.blt d s.N, o.op, BG s.e x, hget s.h id, cs.length)=(none, some d, true, .load t x, .ptr id g 0 0, some (.box g e cs), sz))
 (l:AL P ops rest { e := (d, .agg cs)::s.e, h := s.h, n := s.n, N := s.N } K):AL P ops (o::rest) s K := by
  simp only[ns] at hg
  exact one hg.1 hg.2.1 hg.2.2.1 (DU hg.2.2.2.1 j (.inl hg.2.2.2.2.1) hg.2.2.2.2.2.1 hg.2.2.2.2.2.2) l
theorem xV{t}{row}{k}(r:RV)(j:BQ P t)(hg:(o.guard, o.dst, Nat.blt d s.N, o.op, BG s.e x, row[k]?)=(none, some d, true, .load t x, .rop row k, some r))
 (l:AL P ops rest { e := (d, .r r)::s.e, h := s.h, n := s.n, N := s.N } K):AL P ops (o::rest) s K := by
  simp only[ns] at hg
  exact one hg.1 hg.2.1 hg.2.2.1 (Bc hg.2.2.2.1 j (.inl hg.2.2.2.2.1) hg.2.2.2.2.2) l
theorem xX{vs}{i}{a}(hg:(o.guard, o.dst, Nat.blt d s.N, o.op, BG s.e x, vs[i]?)=(none, some d, true, .extract x i, .tup vs, some a))
 (j:AL P ops rest { e := (d, a)::s.e, h := s.h, n := s.n, N := s.N } K):AL P ops (o::rest) s K := by
  simp only[ns] at hg
  exact one hg.1 hg.2.1 hg.2.2.1 (Nv hg.2.2.2.1 (.inl hg.2.2.2.2.1) hg.2.2.2.2.2) j
theorem xS{t j}{k}{a b}(hg:(o.guard, o.dst, Nat.blt d s.N, o.op, BG s.e x, BG s.e y)=(none, some d, true, .binOp .lss t x y j, .r (.int k a), .r (.int k b)))
 (l:AL P ops rest { e := (d, .r (.bool (decide (a<b))))::s.e, h := s.h, n := s.n, N := s.N } K):AL P ops (o::rest) s K := by
  simp only[ns] at hg
  exact one hg.1 hg.2.1 hg.2.2.1 (Bz hg.2.2.2.1 (.inl hg.2.2.2.2.1) (.inl hg.2.2.2.2.2)) l
theorem xQ{t j}{k}{a b}(hg:(o.guard, o.dst, Nat.blt d s.N, o.op, BG s.e x, BG s.e y)=(none, some d, true, .binOp .eql t x y j, .r (.int k a), .r (.int k b)))
 (l:AL P ops rest { e := (d, .r (.bool (decide (a=b))))::s.e, h := s.h, n := s.n, N := s.N } K):AL P ops (o::rest) s K := by
  simp only[ns] at hg
  exact one hg.1 hg.2.1 hg.2.2.1 (A8 hg.2.2.2.1 (.inl hg.2.2.2.2.1) (.inl hg.2.2.2.2.2)) l
theorem xU{t j}{k}{a b}(hg:(o.guard, o.dst, Nat.blt d s.N, o.op, BG s.e x, BG s.e y)=(none, some d, true, .binOp .neq t x y j, .r (.int k a), .r (.int k b)))
 (l:AL P ops rest { e := (d, .r (.bool (!(a=b))))::s.e, h := s.h, n := s.n, N := s.N } K):AL P ops (o::rest) s K := by
  simp only[ns] at hg
  exact one hg.1 hg.2.1 hg.2.2.1 (DK hg.2.2.2.1 (.inl hg.2.2.2.2.1) (.inl hg.2.2.2.2.2)) l
end
theorem xH{ρ α:Type}{o:ρ}{v:α ⊕ ρ}{q:ρ}(j:∀q,v=.inr q→o=q)(h:some (.inr q)=some v):o=q:=j _ (n8 h).symm
theorem Vp{P}{T r}{s:St}{t}(e:some T=some r)(h:get s.e t=rI T):II P [.tmp t] (rI r) .ret s:=CG (λr=>rI r) e (.inl rfl) (.t (.d h))
theorem TO{P}{T r}{s:St}{t}(e:some T=some r)(h:get s.e t=rB T):II P [.tmp t] (rB r) .ret s:=CG (λr=>rB r) e (.inl rfl) (.t (.d h))
theorem zI{P}{T r}{s:St}{t id}{x}{o:Oper}{Q}(e:some T=some r)(h:(o.guard, o.dst, Nat.blt t s.N, o.op, BG s.e x)=(none, some t, true, .assign x, rI T))
 (k:II P [.tmp t] (rI r) .ret { e := (t, BG s.e x)::s.e, h := s.h, n := s.n, N := s.N } → Q .ret { e := (t, BG s.e x)::s.e, h := s.h, n := s.n, N := s.N }):AW P (.seq (.region id [o].toArray false) .ret) Q s := by
  simp only[ns] at h
  refine aU (AL.step h.1 h.2.1 h.2.2.1 (CS (EF h.2.2.2.1 (.inl rfl)) _) (AL.nil (AW.ret (k (Vp e ?_)))))
  show get (_::_) t=_
  unfold get
  rw[Nat.beq_refl]
  exact h.2.2.2.2
theorem zB{P}{T r}{s:St}{t id}{x}{o:Oper}{Q}(e:some T=some r)(h:(o.guard, o.dst, Nat.blt t s.N, o.op, BG s.e x)=(none, some t, true, .assign x, rB T))
 (k:II P [.tmp t] (rB r) .ret { e := (t, BG s.e x)::s.e, h := s.h, n := s.n, N := s.N } → Q .ret { e := (t, BG s.e x)::s.e, h := s.h, n := s.n, N := s.N }):AW P (.seq (.region id [o].toArray false) .ret) Q s := by
  simp only[ns] at h
  refine aU (AL.step h.1 h.2.1 h.2.2.1 (CS (EF h.2.2.2.1 (.inl rfl)) _) (AL.nil (AW.ret (k (TO e ?_)))))
  show get (_::_) t=_
  unfold get
  rw[Nat.beq_refl]
  exact h.2.2.2.2
@[reducible] def rL{α:Type}(l:List α):AV:=rI (l.length:Int)
@[reducible] def rS(l:List UInt8):AV:=.r (.str l)
abbrev NN:=Nat→Nat
open Go.WideShapes
section
variable{H:Type}(K:Ga H){enc:TypeId × Value→H}{P:Program}{W:World}
theorem kn{t:TypeId}{w:Array Field}{α:Type}{f:α→List RV}{ok:α→Prop}{μ:α→Nat}{v:Value}{d:DataW H}{p:List MemPlace}{r:Reach}{A:Nat}(B:P.underlying t=some (.struct w))(C:BW K enc P W t f ok μ)
  (j:Value.okWide P W r A t v) (h:DataW.Trod enc P W 0 (λ_=>true) true t v d p):∃a,ok a∧AO (Cx.start W) (.agg ((f a).map .r)) v∧μ a≤K.B d:=by
 obtain⟨O,rfl,_⟩:=okWide_struct B j
 obtain⟨l,E⟩:=h
 obtain⟨a,F,m,I⟩:=C l _ _ E
 refine⟨a,F,.agg ?_ λi c u q J=>?_,I⟩
 ·have:=m.1
  rw[oK,← this];rfl
 ·rw[nq,nt] at q
  obtain⟨M,hd,rfl⟩:=q
  exact .r (m.2 i M u hd (by rw[← J];exact om))
end
end Go.Proofs.YtmogkkigacadpaaGreatDoor.Al

namespace Go.Proofs.YtmogkkigacadpaaGreatDoor.Al
open Go.Lib
theorem Uy{W:World}{g}{row}(h:∀j d,row[j]?=some d→∃v,W.cell? ⟨g,j,none⟩=some v∧BC W (· < W.heap.size) d v):AO (Cx.start W) (.rop row 0) (.pointer (some ⟨g,0,none⟩)):=by
 have q:row≠[]→g<W.heap.size:=by
  intro w
  obtain⟨d,hd⟩:∃d,row[0]?=some d:=by
   cases row with
   | nil=>exact absurd rfl w
   | cons d r=>exact⟨d,rfl⟩
  obtain⟨v,l,_⟩:=h 0 d hd
  unfold World.cell? at l
  rcases qF g W.heap.size with m | m
  ·exact m
  ·rw[pf m] at l;cases l
 exact AO.rop (x:=Cx.start W) (row:=row) (k:=0) (b:=g) (off:=0) (λj=>(W.cell? ⟨g,j,none⟩).getD undef) q
  (λj d A=>by obtain⟨v,l,_⟩:=h j d A;rw[oQ];show W.cell? _=_;rw[l];rfl)
  (λj d A=>by obtain⟨v,l,m⟩:=h j d A;rw[l];exact m)
theorem VP{α β:Type}(f:α→β):∀(l:List α) (j:Nat),(l.flatMap λz=>[f z])[j]?=(l[j]?).map f
 | [],j=>by simp
 | x::l,0=>by simp
 | x::l,j+1=>by
  have:=VP f l j
  rw[o6,List.singleton_append,pq,this,pq]
theorem T5{α β:Type}(f g:α→β):∀(l:List α) (j:Nat) (d:β),(l.flatMap λz=>[f z,g z])[j]?=some d→∃i a,l[i]?=some a∧((j=2 * i∧d=f a)∨(j=2 * i+1∧d=g a))
 | [],j,d,h=>by simp at h
 | x::l,0,d,h=>by
  have:f x=d:=by simpa using h
  exact⟨0,x,rfl,.inl ⟨rfl,this.symm⟩⟩
 | x::l,1,d,h=>by
  have:g x=d:=by simpa using h
  exact⟨0,x,rfl,.inr ⟨rfl,this.symm⟩⟩
 | x::l,j+2,d,h=>by
  rw[o6] at h
  have w:(l.flatMap λz=>[f z,g z])[j]?=some d:=by simpa using h
  obtain⟨i,a,A,m⟩:=T5 f g l j d w
  refine⟨i+1,a,by simpa using A,?_⟩
  rcases m with ⟨m,q⟩ | ⟨m,q⟩
  ·exact .inl ⟨by omega,q⟩
  ·exact .inr ⟨by omega,q⟩
theorem Z6{P:Program}{W:World}{w}{k}{A:List Int}{g n}{t e}{d}(C:VarReads P W w d)(l:d=tabData k A)(n1:P.globalNamed w=some g)
 (E:(P.globals[g]?).map (·.type)=some t) (F:P.underlying t=some (.array n e)) (I:P.underlying e=some (.int k)) (ce:P.cellsOf e=1) (J:P.cellsOf t=n):∃t p, W.heap[g]?=some (.cells ((A.map λz => Value.int k z).toArray) t p) := by
  obtain⟨U, V, X, B, p, hg, m, j, hd⟩ := C
  obtain rfl := n8 (n1.symm.trans hg)
  obtain rfl := n8 (E.symm.trans m)
  subst l
  have q := cells_of_tab F I ce J hd
  unfold World.var? at j
  rw[n1] at j
  simp only[oR] at j
  split at j
  · rename_i c M O T
    cases j
    refine⟨M, O, ?_⟩
    rw[T, ← q]
  · cases j
theorem eT {P : Program} {W : World} {d1 d2 : DataW Unit} {t1 t2 e1 e2 : TypeId} {fs : Array Field} (h1 : VarReads P W "unicode/utf8.first" d1) (hd1 : d1 = tabData .u8 Fx) (n1 : P.globalNamed "unicode/utf8.first" = some Hq)
  (y1:(P.globals[Hq]?).map (·.type)=some t1) (u1:P.underlying t1=some (.array 256 e1)) (ue:P.underlying e1=some (.int .u8)) (ce:P.cellsOf e1=1) (ct:P.cellsOf t1=256)
  (h2 : VarReads P W "unicode/utf8.acceptRanges" d2) (hd2 : d2 = .agg (IO.map fun p => .agg ([p.1, p.2].map fun z => .lit (.int .u8 z)))) (n2 : P.globalNamed "unicode/utf8.acceptRanges" = some H1)
  (y2:(P.globals[H1]?).map (·.type)=some t2) (u2:P.underlying t2=some (.array 16 e2)) (us:P.underlying e2=some (.struct fs)) (hfs:∀(i:Nat) (f:Field),fs[i]?=some f→P.underlying f.type=some (.int .u8)∧f.offset=i∧P.cellsOf f.type=1)
  (hsz:fs.size=2) (c2:P.cellsOf e2=2)
  (hw:∀g cs,QX g=some cs→0<cs.size∧∃t p,W.heap[g]?=some (.cells cs t p):=by intro _ _ h;cases h) (hF:Ry W:=by trivial):EL (Cx.start W):=by
 refine⟨λg row hg=>?_,λg cs hg=>⟨?_,hw g cs hg⟩,W,hF,Go.RowKit.Below.refl _ _,λ_ h=>h⟩
 rotate_left
 ·obtain⟨_,t,p,h⟩:=hw g cs hg
  show g<W.heap.size
  exact(oe.1 h).1
 unfold HN at hg
 by_cases hF:g=Hq
 ·rw[ne hF] at hg
  cases hg
  subst hF
  obtain⟨g,t,cs,fuel,p,hg,hty,hvar,hd⟩:=h1
  obtain rfl:=n8 (n1.symm.trans hg)
  obtain rfl:=n8 (y1.symm.trans hty)
  subst hd1
  have hcs:=cells_of_tab u1 ue ce ct hd
  refine Uy λj d hj=>?_
  rw[VP,nt] at hj
  obtain⟨z,hz,rfl⟩:=hj
  refine⟨.int .u8 z,?_,.int _ _⟩
  rw[World.var?_cell hg hvar j,← om,hcs,nq,hz];rfl
 ·rw[nd hF] at hg
  by_cases hA:g=H1
  ·rw[ne hA] at hg
   cases hg
   subst hA
   obtain⟨g,t,cs,fuel,p,hg,hty,hvar,hd⟩:=h2
   obtain rfl:=n8 (n2.symm.trans hg)
   obtain rfl:=n8 (y2.symm.trans hty)
   subst hd2
   refine Uy λj d hj=>?_
   obtain⟨i,a,hi,hja⟩:=T5 _ _ _ _ _ hj
   have hil:i<16:=(nl.1 hi).1
   obtain⟨fuel',d',q,hdi,he⟩:=array_elem u2 hd i hil
   rw[nq,hi] at hdi
   cases hdi
   rw[c2] at he
   have hcs:=ints_of_struct us hfs (by rw[c2,hsz]) he
   have e0:=n9 (·[0]?) hcs
   have e1:=n9 (·[1]?) hcs
   simp only[od,oX] at e0 e1
   rcases hja with ⟨rfl,rfl⟩ | ⟨rfl,rfl⟩
   ·refine⟨.int .u8 a.1,?_,.int _ _⟩
    rw[World.var?_cell hg hvar (2 * i),← om]
    simpa[pl] using e0
   ·refine⟨.int .u8 a.2,?_,.int _ _⟩
    rw[World.var?_cell hg hvar (2 * i+1),← om]
    simpa[pl] using e1
  ·rw[nd hA] at hg;cases hg
end Go.Proofs.YtmogkkigacadpaaGreatDoor.Al
