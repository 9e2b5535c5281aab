/- The program logic, a part of it. -/
import Derived.Test.YtmogkkigacadpaaGreatDoorAl2
import Derived.Lib.LaidU8
set_option linter.all false
namespace Go.Proofs.YtmogkkigacadpaaGreatDoor.Al
open Go
section
variable{P:Program}{ops:Array Oper}{rest:List Oper}{s:St}{K:St→Prop}
theorem VZ(z:Array Value) n:(Builtin.zeroCells z n).size=n * z.size:=by simp[Builtin.zeroCells]
theorem mn{o1 o2:Oper}{t e:TypeId}{sz:Nat}{x y:Operand}{id g d:Nat}{k:IntKind}{z:Nat}{xs:List (List RV)}{zr:List RV}{ty:TypeId}
  (bc:o1.guard=none) (bd:o1.dst=some d) (hN:Nat.blt d s.N=true) (ar:o1.op=.slice t x (some y) none none)
  (be:o2.guard=none) (af:o2.dst=none) (ag:o2.op=.call { callee:=.builtin .clear,args:=#[.tmp d],argTypes:=#[t] })
  (ht:Bl P t e sz ty) (bf:Gj P e zr) (hx:Ev true s.e x (.own id g)) (hh:hget s.h id=some (.arr g e sz xs)) (hy:Ev true s.e y (.r (.int k (z:Int)))) (hz:z≤xs.length)
  (hr:AO P ops rest ⟨(d,.any)::s.e,(id,some (.arr g e sz (xs.take z++List.replicate (xs.length-z) zr)))::s.h,s.n,s.N⟩ K):AO P ops (o1::o2::rest) s K:=by
 intro c0 a w ⟨ds,X,hsz,M,bg,Z,U,hH,hn,he⟩ Q hQ
 subst bg
 obtain⟨V,ii,J,hi,aa,_,a0,a1,bh,au⟩:=ht
 obtain⟨i2,c2,av,aw,ah⟩:=bf
 rw[hi] at av;cases av
 rw[a0] at aw;cases aw
 obtain⟨bi,bj⟩:=LL ah (R8 M J)
 have ax:zr.length=sz:=by rw[← bi,a1]
 have B:M.H id=some (.arr g e sz xs):=by rw[hH];exact hh
 obtain⟨h0,ab,us,hd,a2,bk⟩:=Jq U B (hx.rep he rfl)
 have bl:=(U.obj _ _ B).1
 have bm:=CU (hy.rep he rfl)
 have a6:∀(len cap:Nat),z≤len→len≤cap→∀W,(Instr.sliceBounds true len cap (some (a.eval y)) none none).run P W=.ok (z,len,cap) W:=by
  intro len cap h1 h2 W
  have bn:(Instr.sliceBound (a.eval y) len .sliceB).run P W=.ok z W:=by
   rw[bm,I5 (by omega) (by omega)];simp
  simp[Instr.sliceBounds,bn]
 have a8:d<a.tmps.size:=by rw[hsz];exact Cb hN
 have l:(xs.take z++List.replicate (xs.length-z) zr).length=xs.length:=by simp;omega
 obtain⟨u,bo,bp⟩:∃u,(∀w2,(execOp a.eval o1).run P w2=.ok (.value u) w2)∧((u=.slice none 0 0∧xs.length=0)∨∃b cap off,M.β id=some (b,cap)∧(xs.length-z≠0→off=z * sz)∧u=.slice (some ⟨b,off,none⟩) (xs.length-z) (cap-z)):=by
  generalize ai:a.eval x=xv at hd a2
  unfold CT at hd
  split at hd
  ·rename_i heq
   obtain⟨bq,rfl⟩:=hd
   refine⟨.slice none 0 0,λw2=>?_,.inl ⟨rfl,bq⟩⟩
   unfold execOp
   rw[ar]
   have ay:=a6 0 0 (by omega) (nO _) w2
   have az:z=0:=by omega
   rw[az] at ay
   simp[ai,Instr.sliceAt,Instr.slice,run_underlying V,DJ hi,ay]
  ·rename_i b cap heq
   subst hd
   have a7:xs.length≤cap:=by
    rcases a2.2 with ⟨h1,_⟩ | ⟨g',b0,C,h1,_,_,h2,h3,_⟩
    ·cases h1
    ·simp only[Value.slice.injEq] at h1;rw[h1.2.2];simpa using h2
   refine⟨.slice (some ⟨b,if cap=z then 0 else z * sz,none⟩) (xs.length-z) (cap-z),λw2=>?_,.inr ⟨b,cap,_,heq,λb1=>nG (by omega),rfl⟩⟩
   unfold execOp
   rw[ar]
   simp only[ai,Instr.sliceAt,Instr.slice]
   by_cases b2:cap=z
   ·subst b2
    simp[run_underlying V,DJ hi,aa,a6 _ cap hz a7,Addr.add_lit]
   ·simp[ai,run_underlying V,DJ hi,aa,a6 _ cap hz a7,Addr.add_lit,b2]
 refine wpList_plain bc λK1 br=>?_
 unfold Oper.wp
 rw[bo]
 refine br _ _ ?_
 rw[bd]
 refine wpList_plain be λK2 aj=>?_
 have E:(a.put (some d) u).eval (.tmp d)=u:=by simp[Act.put,Act.eval,a8]
 have b3:Bq M ((d,.any)::s.e) (a.put (some d) u):=he.put a8 (.any _)
 have b4:(a.put (some d) u).tmps.size=s.N:=by simpa[Act.put] using hsz
 rcases bp with ⟨rfl,bs⟩ | ⟨b,cap,off,hβ,b5,rfl⟩
 ·have b6:xs=[]:=pF.1 bs
  subst b6
  unfold Oper.wp execOp
  rw[ag]
  simp only[pi,nk,og,E]
  simp[resolve,invoke,builtin,Builtin.clear_,run_underlying V,E]
  refine aj _ _ ?_
  rw[af]
  refine hr c0 (a.put (some d) (.slice none 0 0)) _ ⟨ds,X,b4,M,rfl,Z,U,?_,hn,b3⟩ Q hQ
  rw[hH]
  funext i
  rw[BI]
  split
  ·rename_i e;subst e;rw[hh];simp
  ·rfl
 ·obtain⟨c3,ak⟩:=a2
  have F:=hd
  unfold CT at F
  rw[hβ] at F
  simp only at F
  rcases ak with ⟨hv,_⟩ | ⟨b',b0,C,hv,_,ac,a7,bt,b7,al⟩
  ·rw[F] at hv;cases hv
  rw[F] at hv
  simp only[Value.slice.injEq,nQ,Addr.mk.injEq,qJ,qC] at hv
  obtain⟨rfl,rfl⟩:=hv
  have bx:xs.length * sz≤C.size:=by rw[b7];exact nr _ a7
  by_cases hl:xs.length-z=0
  ·
   have an:xs.take z++List.replicate (xs.length-z) zr=xs:=by rw[hl,pL (by omega)];simp
   simp only[hl] at E ⊢
   unfold Oper.wp execOp
   rw[ag]
   simp only[pi,nk,og,E]
   simp[resolve,invoke,builtin,Builtin.clear_,run_underlying V,E]
   refine aj _ _ ?_
   rw[af]
   refine hr c0 (a.put (some d) _) _ ⟨ds,X,by simpa[Act.put] using hsz,M,rfl,Z,U,?_,hn,he.put a8 (.any _)⟩ Q hQ
   rw[hH]
   funext i
   rw[BI,an]
   split
   ·rename_i e;subst e;rw[hh]
   ·rfl
  ·have ao:=b5 hl
   subst ao
   have O:(Builtin.zeroCells J.cells (xs.length-z)).toList.length=(xs.length-z) * sz:=by rw[n9,VZ,a1]
   have bz:z * sz+(xs.length-z) * sz=xs.length * sz:=by rw[← oY];congr 1;omega
   have b8:∀v∈(Builtin.zeroCells J.cells (xs.length-z)).toList,v.oneCell'=true:=λv hv=>by
    simp only[Builtin.zeroCells,qI,oA] at hv
    obtain⟨i,_,rfl⟩:=hv
    have:i % J.cells.size<J.cells.size:=Nat.mod_lt _ (by omega)
    rw[nW J.cells _ this]
    exact bh _ (by simp)
   have bu:=run_storeCells_at (P:=P) b (z * sz) _ (Builtin.zeroCells J.cells (xs.length-z)).toList 0 C M.w ac (by rw[O];omega) b8
   obtain⟨m,hm⟩:∃m,xs.length-z=m+1:=⟨xs.length-z-1,by omega⟩
   let A:Array Value:=(C.toList.take (z * sz)++(Builtin.zeroCells J.cells (xs.length-z)).toList++C.toList.drop (z * sz+(xs.length-z) * sz)).toArray
   have b9:=λj=>IS C.toList (Builtin.zeroCells J.cells (xs.length-z)).toList (z * sz) j (by have:=n9 (xs:=C);rw[O];omega)
   rw[O] at b9
   have T:A.size=C.size:=by
    have:(Builtin.zeroCells J.cells (xs.length-z)).size=(xs.length-z) * sz:=by rw[VZ,a1]
    simp[A,this];omega
   have ad:(storeCells ⟨b,z * sz,none⟩ (Builtin.zeroCells J.cells (xs.length-z)).toList 0).run P M.w=.ok () (M.w.setRow b A):=by
    rw[bu,O];rfl
   have aq:=Dh U id (.arr g e sz (xs.take z++List.replicate (xs.length-z) zr)) (M.w.setRow b A) (some (b,cap)) M.n (by simp[World.setRow]) rfl rfl rfl
    (λb' _ b1=>setRow_other _ _ _ _ (λe=>b1 _ cap B (by rw[e];exact hβ))) (λb' k' hb=>by
     cases hb
     exact⟨by simpa[World.setRow] using(U.own id _ b cap B hβ).1,.inr ⟨_,_,B,hβ⟩⟩) (nO _) bl
    (λ_=>⟨_,B,rfl,by simp[Aa.shape,l],hβ.symm⟩)
    (λZ=>by
     have ba:∀b',M.S b'→(M.w.setRow b A).heap[b']?=M.w.heap[b']?:=λb' hb=>Z.blk b' (.inl hb)
     refine⟨au,λr hr=>?_,.slice (some ⟨b,0,none⟩) xs.length cap,A.toList.take (xs.length * sz),by simp[CT,l],⟨by simp[T,l];omega,.inr ⟨b,cap,A,by rw[l],oo _,setRow_heap _ _ _ _ _ _ ac,by rw[l];exact a7,bt,by rw[T,b7],by rw[l]⟩⟩,λi row c d k1 k2=>?_⟩
     ·rcases oe.1 hr with hr | hr
      ·exact ab r (qY hr)
      ·rw[(List.mem_replicate.1 hr).2];exact ax
     ·have bv:i<xs.length:=by rw[← l];exact(nN.1 k1).1
      have ae:∀q,q<sz→i * sz+q<xs.length * sz:=λq hq=>by
       calc i * sz+q<i * sz+sz:=by omega
        _=(i+1) * sz:=by rw[oY,pE]
        _≤xs.length * sz:=nr _ bv
      have hget:∀q,q<sz→(A.toList.take (xs.length * sz))[i * sz+q]?=if z * sz≤i * sz+q∧i * sz+q<z * sz+(xs.length-z) * sz then(Builtin.zeroCells J.cells (xs.length-z)).toList[i * sz+q-z * sz]? else C.toList[i * sz+q]?:=λq hq=>by
       rw[nv,nH (ae q hq)]
       exact b9 _
      by_cases a0:i<z
      ·rw[na (by simp;omega),nv,nH a0] at k1
       have I:c<sz:=by rw[← ab row (nd k1)];exact(nN.1 k2).1
       have c1:i * sz+sz≤z * sz:=by
        have:(i+1) * sz≤z * sz:=nr _ a0
        rwa [oY,pE] at this
       obtain⟨u,h3,h4⟩:=bk i row c d k1 k2
       refine⟨u,?_,h4.mono ba λ_ h=>h⟩
       rw[hget c I,nG (by omega),← h3,← al,nv,nH (ae c I)]
      ·rw[nZ (by simp;omega),List.getElem?_replicate] at k1
       split at k1
       ·cases k1
        have I:c<sz:=by rw[← ax];exact(nN.1 k2).1
        obtain⟨u,h3,h4⟩:=bj c d k2
        refine⟨u,?_,h4.mono ba λ_ h=>h⟩
        have e1:i * sz+c=z * sz+((i-z) * sz+c):=by
         rw[← pc,← oY];congr 2;omega
        have e2:(i-z) * sz+c<(xs.length-z) * sz:=by
         calc (i-z) * sz+c<(i-z) * sz+sz:=by omega
          _=(i-z+1) * sz:=by rw[oY,pE]
          _≤(xs.length-z) * sz:=nr _ (by omega)
        rw[hget c I,nH (by omega),show i * sz+c-z * sz=(i-z) * sz+c by omega,oE]
        simp only[Builtin.zeroCells]
        rw[Array.getElem?_map,Array.getElem?_range,nH (by rw[a1];exact e2)]
        have bb:((i-z) * sz+c) % J.cells.size=c:=by rw[a1,pI,Nat.mul_add_mod,py I]
        simp only[oJ,bb]
        rw[← h3,nW J.cells c (by omega),ng (by omega)]
       ·cases k1)
   unfold Oper.wp execOp
   rw[ag]
   simp only[pi,nk,og,E]
   simp only[hm] at ad E ⊢
   have bw:∀w2,(zeroValue e).run P w2=.ok J w2:=λw2=>by
    simp only[zeroValue,typeInfo,Sem.run_bind,run_program,Result.andThen_ok,hi,Sem.run_pure,a0]
   simp[resolve,invoke,builtin,Builtin.clear_,run_underlying V,bw,E,ad]
   refine aj _ _ ?_
   rw[af]
   refine hr c0 (a.put (some d) _) _ ⟨ds,X,by simpa[Act.put] using hsz,_,rfl,Z.trans aq.1,aq.2,?_,hn,(he.put a8 (.any _)).mono aq.1⟩ Q hQ
   simp only[hH]
   exact CZ _ _ _
theorem mX{α:Type}{f}{m o2:Oper}{t e}{sz}{x y}{id g d}{j:Int}{l J:List α}{z0}{O}
 (w:m.guard=none) (A:m.dst=some d) (T:Nat.blt d s.N=true) (B:m.op=.slice t x (some y) none none)
 (C:o2.guard=none) (E:o2.dst=none) (F:o2.op=.call { callee := .builtin .clear, args := #[.tmp d], argTypes := #[t] })
 (U:Bl P t e sz O) (I:Gj P e (f z0)) (V:Ev true s.e x (.own id g)) (X:hget s.h id=some (.arr g e sz (l.map f))) (Z:∃k, Ev true s.e y (.r (.int k j))) (q:OA l j z0=some J)
 (M:AO P ops rest ⟨(d, .any)::s.e, (id, some (.arr g e sz (J.map f)))::s.h, s.n, s.N⟩ K):AO P ops (m::o2::rest) s K := by
  unfold OA at q
  split at q
  · rename_i hb
    cases q
    obtain⟨k, hk⟩ := Z
    refine mn (z := j.toNat) w A T B C E F U I V X (k := k) (by rw[show((j.toNat:Nat):Int)=j by omega];exact hk) (by simp;omega) ?_
    rw[oz, List.map_take, List.map_replicate] at M
    rw[ni]
    exact M
  · cases q
end
end Go.Proofs.YtmogkkigacadpaaGreatDoor.Al

namespace Go.Proofs.YtmogkkigacadpaaGreatDoor.Al
open Go.Shelf Go.Proofs
theorem Ue:QW Tryz.prog 115 4:=⟨⟨Tryz.f115,Tryz.func115,rfl,rfl⟩,_,rfl,ZJ,Tryz.isAgg103,Tryz.sizeOf103⟩
end Go.Proofs.YtmogkkigacadpaaGreatDoor.Al

namespace Go.Proofs.YtmogkkigacadpaaGreatDoor.Al
inductive Bf(e:Ao):List Nat→Ao→Prop
 | nil:Bf e [] []
 | cons {k:Nat} {ks:List Nat} {v:AV} {r:Ao} (h:get e k=v) (t:Bf e ks r):Bf e (k::ks) ((k,v)::r)
inductive Ec(e:Ag):List Nat→Ag→Prop
 | nil:Ec e [] []
 | cons {k:Nat} {ks:List Nat} {v:Aa} {r:Ag} (h:hget e k=some v) (t:Ec e ks r):Ec e (k::ks) ((k,some v)::r)
theorem Bf.cv{e}{ks}{e'}(h:Bf e ks e'):Mz e' e:=by
 induction h with
 | nil=>trivial
 | cons h _ j=>exact⟨.inl (.inl h),j⟩
theorem Ec.cv{e}{ks}{e'}(h:Ec e ks e'):NC e' e:=by
 induction h with
 | nil=>trivial
 | cons h _ j=>exact⟨.inl h,j⟩
section
variable{e:Ao}{k:Nat}{ks:List Nat}{r:Ao}
theorem kR{d}(t:Bf e ks r)(h:get e k=.r d):Bf e (k::ks) ((k,.r d)::r):=.cons h t
theorem kP{a b c d}(t:Bf e ks r)(h:get e k=.ptr a b c d):Bf e (k::ks) ((k,.ptr a b c d)::r):=.cons h t
theorem kO{a b}(t:Bf e ks r)(h:get e k=.own a b):Bf e (k::ks) ((k,.own a b)::r):=.cons h t
theorem kA{d}(t:Bf e ks r)(h:get e k=.agg d):Bf e (k::ks) ((k,.agg d)::r):=.cons h t
theorem kC{d}(t:Bf e ks r)(h:get e k=.cst d):Bf e (k::ks) ((k,.cst d)::r):=.cons h t
theorem kT{d}(t:Bf e ks r)(h:get e k=.tup d):Bf e (k::ks) ((k,.tup d)::r):=.cons h t
theorem kF{f}{d}(t:Bf e ks r)(h:get e k=.fn f d):Bf e (k::ks) ((k,.fn f d)::r):=.cons h t
theorem kQ{d}{i}(t:Bf e ks r)(h:get e k=.rop d i):Bf e (k::ks) ((k,.rop d i)::r):=.cons h t
theorem kM{a b}(t:Bf e ks r)(h:get e k=.mref a b):Bf e (k::ks) ((k,.mref a b)::r):=.cons h t
theorem kW{b}{v}(t:Bf e ks r)(h:get e k=.whn b v):Bf e (k::ks) ((k,.whn b v)::r):=.cons h t
theorem kK{a b c d f}(t:Bf e ks r)(h:get e k=.pk a b c d f):Bf e (k::ks) ((k,.pk a b c d f)::r):=.cons h t
theorem kU{a b c}{d}(t:Bf e ks r)(h:get e k=.fo a b c d):Bf e (k::ks) ((k,.fo a b c d)::r):=.cons h t
theorem kI{b}(t:Bf e ks r)(h:get e k=.ifc b):Bf e (k::ks) ((k,.ifc b)::r):=.cons h t
theorem kV{a b c}(t:Bf e ks r)(h:get e k=.pre a b c):Bf e (k::ks) ((k,.pre a b c)::r):=.cons h t
theorem kY{a b}(t:Bf e ks r)(h:get e k=.yld a b):Bf e (k::ks) ((k,.yld a b)::r):=.cons h t
theorem kL{xs}(t:Bf e ks r)(h:get e k=.full xs):Bf e (k::ks) ((k,.full xs)::r):=.cons h t
end
section
variable{e:Ag}{k:Nat}{ks:List Nat}{r:Ag}
theorem hB{g}{t}{cs}(t1:Ec e ks r)(h:hget e k=some (.box g t cs)):Ec e (k::ks) ((k,some (.box g t cs))::r):=.cons h t1
theorem hA{g}{t}{sz}{xs}(t1:Ec e ks r)(h:hget e k=some (.arr g t sz xs)):Ec e (k::ks) ((k,some (.arr g t sz xs))::r):=.cons h t1
theorem hC{o}(t1:Ec e ks r)(h:hget e k=some o):Ec e (k::ks) ((k,some o)::r):=.cons h t1
end
section
variable{P:Program}{Q:Exit→St→Prop}{x y:Code}
theorem aF{e:Ao}{h:Ag}{n N:Nat}(ks:List Nat){e':Ao}(hr:AW P x Q ⟨e',[],n,N⟩)
  (he:Bf e ks e':=by repeat' first | exact Bf.nil | apply kR _ rfl | apply kP _ rfl | apply kA _ rfl | apply kO _ rfl | apply kC _ rfl | apply kT _ rfl | apply kF _ rfl | apply kQ _ rfl | apply kM _ rfl | apply kW _ rfl | apply kL _ rfl | apply kK _ rfl | apply kU _ rfl | apply kI _ rfl | apply kV _ rfl | apply kY _ rfl):AW P x Q ⟨e,h,n,N⟩:=
 AW.weak (Am.cv (h':=[]) he.cv trivial (nO _)) hr
theorem aG{e:Ao}{h:Ag}{n N:Nat}(ks js:List Nat){e':Ao}{h':Ag}(hr:AW P x Q ⟨e',h',n,N⟩)
  (he:Bf e ks e':=by repeat' first | exact Bf.nil | apply kR _ rfl | apply kP _ rfl | apply kA _ rfl | apply kO _ rfl | apply kC _ rfl | apply kT _ rfl | apply kF _ rfl | apply kQ _ rfl | apply kM _ rfl | apply kW _ rfl | apply kL _ rfl | apply kK _ rfl | apply kU _ rfl | apply kI _ rfl | apply kV _ rfl | apply kY _ rfl)
  (hh:Ec h js h':=by repeat' first | exact Ec.nil | apply hB _ rfl | apply hA _ rfl | apply hC _ rfl):AW P x Q ⟨e,h,n,N⟩:=
 AW.weak (Am.cv he.cv hh.cv (nO _)) hr
end
section
variable{P:Program}{ops:Array Oper}{rest:List Oper}{K:St→Prop}{o o2:Oper}{e:Ao}{h:Ag}{n N:Nat}
theorem Bg(ks js:List Nat){e':Ao}{h':Ag}(hr:AO P ops rest ⟨e',h',n,N⟩ K)
  (he:Bf e ks e':=by repeat' first | exact Bf.nil | apply kR _ rfl | apply kP _ rfl | apply kA _ rfl | apply kO _ rfl | apply kC _ rfl | apply kT _ rfl | apply kF _ rfl | apply kQ _ rfl | apply kM _ rfl | apply kW _ rfl | apply kL _ rfl | apply kK _ rfl | apply kU _ rfl | apply kI _ rfl | apply kV _ rfl | apply kY _ rfl)
  (hh:Ec h js h':=by repeat' first | exact Ec.nil | apply hB _ rfl | apply hA _ rfl | apply hC _ rfl):AO P ops rest ⟨e,h,n,N⟩ K:=
 AO.weak (Am.cv he.cv hh.cv (nO _)) hr
end
section
variable{P:Program}{ops:Array Oper}{rest:List Oper}{K:St→Prop}{o o2:Oper}{s:St}
theorem vQ{d j m}{l b}{v}(hg:(o.guard, o.dst, Nat.blt d s.N, (ops[j]?).bind (·.dst), BE s.e (.tmp m))=(some (j, l), some d, true, some m, .r (.bool b)))(q:AZ P (b==l) o s.e s.h v)
 (w:AO P ops rest { e := (d, .whn (b==l) v)::s.e, h := s.h, n := s.n, N := s.N } K):AO P ops (o::rest) s K := by
  simp only[nU] at hg
  obtain⟨A, B, C, E, F⟩ := hg
  exact AO.stepW (.one A E F) B C (DN q _) w
theorem wQ{d j q}{l b m}{v}(hg:(o.guard, o.dst, Nat.blt d s.N, (ops[j]?).bind (·.dst), BE s.e (.tmp q))=(some (j, l), some d, true, some q, .whn m (.r (.bool b))))(w:AZ P (m&&(b==l)) o s.e s.h v)
 (A:AO P ops rest { e := (d, .whn (m&&(b==l)) v)::s.e, h := s.h, n := s.n, N := s.N } K):AO P ops (o::rest) s K := by
  simp only[nU] at hg
  obtain⟨B, C, E, F, I⟩ := hg
  exact AO.stepW (.two B F I) C E (DN w _) A
theorem qP{d}{v}(hg:(o.guard, o.dst, Nat.blt d s.N)=(none, some d, true))(j:AZ P true o s.e s.h v)
 (l:AQ P ops rest { e := (d, v)::s.e, h := s.h, n := s.n, N := s.N } K):AQ P ops (o::rest) s K :=
  AQ.step (oc hg).1 (oc (oc hg).2).1 (oc (oc hg).2).2 j l
theorem qO{d j m}{l b}{v}(hg:(o.guard, o.dst, Nat.blt d s.N, (ops[j]?).bind (·.dst), BE s.e (.tmp m))=(some (j, l), some d, true, some m, .r (.bool b)))(q:AZ P (b==l) o s.e s.h v)
 (w:AQ P ops rest { e := (d, .whn (b==l) v)::s.e, h := s.h, n := s.n, N := s.N } K):AQ P ops (o::rest) s K := by
  simp only[nU] at hg
  obtain⟨A, B, C, E, F⟩ := hg
  exact AQ.stepW (.one A E F) B C q w
theorem qT{d j q}{l b m}{v}(hg:(o.guard, o.dst, Nat.blt d s.N, (ops[j]?).bind (·.dst), BE s.e (.tmp q))=(some (j, l), some d, true, some q, .whn m (.r (.bool b))))(w:AZ P (m&&(b==l)) o s.e s.h v)
 (A:AQ P ops rest { e := (d, .whn (m&&(b==l)) v)::s.e, h := s.h, n := s.n, N := s.N } K):AQ P ops (o::rest) s K := by
  simp only[nU] at hg
  obtain⟨B, C, E, F, I⟩ := hg
  exact AQ.stepW (.two B F I) C E w A
theorem sS{d}{v}{h'}{n'}(hg:(o.guard, o.dst, Nat.blt d s.N)=(none, some d, true))(j:BN P true o s.e s.h s.n v h' n')
 (l:AO P ops rest { e := (d, v)::s.e, h := h', n := n', N := s.N } K):AO P ops (o::rest) s K :=
  AO.step (oc hg).1 (oc (oc hg).2).1 (oc (oc hg).2).2 j l
theorem lF{t t2}{x y}{f off id g i k d1 d2 id' l m}{e1 e2}{cs j}{a}(A:Ap P t f off)(B:BO P t2)
 (q:(o.guard, o.dst, Nat.blt d1 s.N, o.op, BE s.e x, hget s.h id)=(none, some d1, true, .fieldAddr t x f, .ptr id g i k, some (.box g e1 cs)))
 (w:(o2.guard, o2.dst, Nat.blt d2 s.N, o2.op, BE ((d1, .ptr id g i (k+off))::s.e) y, hget s.h id', j[m]?)=(none, some d2, true, .load t2 y, .ptr id' l 0 m, some (.box l e2 j), some a))
 (C:AO P ops rest { e := (d2, a)::(d1, .ptr id g i (k+off))::s.e, h := s.h, n := s.n, N := s.N } K):AO P ops (o::o2::rest) s K := by
  simp only[nU] at q w
  obtain⟨E, F, a3, a4, a5, I⟩ := q
  obtain⟨J, M, O, T, U, V, X⟩ := w
  exact AO.step E F a3 (DN (HG (ob := .box g e1 cs) a4 A (.inl a5) (λ_ => I) rfl) _) (AO.step J M O (DN (Ab T B (.inl U) V X) _) C)
theorem vF{t t2}{x y}{f off id g i k d1 d2 id' B C j E F l}{w b A m}{e1 e2}{cs q}{a}(M:Ap P t f off)(O:BO P t2)
 (I:(o.guard, o.dst, Nat.blt d1 s.N, (ops[j]?).bind (·.dst), BE s.e (.tmp E), o.op, BE s.e x, hget s.h id)=(some (j, w), some d1, true, some E, .r (.bool b), .fieldAddr t x f, .ptr id g i k, some (.box g e1 cs)))
 (J:(o2.guard, o2.dst, Nat.blt d2 s.N, (ops[F]?).bind (·.dst), BE ((d1, .whn (b==w) (.ptr id g i (k+off)))::s.e) (.tmp l), o2.op, BE ((d1, .whn (b==w) (.ptr id g i (k+off)))::s.e) y, hget s.h id', q[C]?)=(some (F, A), some d2, true, some l, .r (.bool m), .load t2 y, .whn (m==A) (.ptr id' B 0 C), some (.box B e2 q), some a))
 (T:AO P ops rest { e := (d2, .whn (m==A) a)::(d1, .whn (b==w) (.ptr id g i (k+off)))::s.e, h := s.h, n := s.n, N := s.N } K):AO P ops (o::o2::rest) s K := by
  simp only[nU] at I J
  obtain⟨U, V, a3, a4, a5, X, Z, a8⟩ := I
  obtain⟨b1, m, b3, b4, b5, b6, b7, b8, b9⟩ := J
  exact AO.stepW (.one U a4 a5) V a3 (DN (HG (ob := .box g e1 cs) X M (.inl Z) (λ_ => a8) rfl) _) (AO.stepW (.one b1 b4 b5) m b3 (DN (Ab b6 O (iR b7) b8 b9) _) T)
end
def W7:AV→Bool
 | .r _=>true
 | _=>false
theorem fL{l:List AV}(h:l.all W7=true):∃cs:List RV,l=cs.map .r:=by
 induction l with
 | nil=>exact⟨[],rfl⟩
 | cons a l j=>
  rw[qG,nR] at h
  obtain⟨cs,rfl⟩:=j h.2
  cases a with
  | r d=>exact⟨d::cs,rfl⟩
  | _=>exact Bool.noConfusion h.1
theorem Fz.g2{h}{a}{ds:List AV}(e:a=.agg ds)(e2:ds.all W7=true):Fz h a (.agg ds):=by
 obtain⟨l,j⟩:=fL e2
 exact .g e j
section
variable{P:Program}{ops:Array Oper}{rest:List Oper}{K:St→Prop}{o:Oper}{s:St}
theorem cL{d:Nat}{f:FuncId}{fo:Operand}{xs:Array Operand}{ats:Array TypeId}{bs:List AV}{r:AV}(hq:AX P f bs r)
  (hg:(o.guard,o.dst,Nat.blt d s.N,o.op,BE s.e fo,r.flat)=(none,some d,true,.call { callee:=.value fo,args:=xs,argTypes:=ats },.fn f [],true))
  (hr:AO P ops rest { e:=(d,r)::s.e,h:=s.h,n:=s.n,N:=s.N } K)
  (hx:G7 true s.e s.h xs.toList bs:=by repeat' first | exact trivial | refine⟨⟨_,iL,.d rfl⟩,?_⟩ | refine⟨⟨_,iL,.g2 rfl rfl⟩,?_⟩ | refine⟨⟨_,iL,.one (.own rfl)⟩,?_⟩ | refine⟨⟨_,iR rfl,.d rfl⟩,?_⟩ | refine⟨⟨_,iR rfl,.g2 rfl rfl⟩,?_⟩):AO P ops (o::rest) s K:=by
 simp only[nU] at hg
 obtain⟨h1,h2,h3,h4,h5,h6⟩:=hg
 exact AO.step h1 h2 h3 (EJ (caps:=[]) h4 (.inl h5) rfl hx (λ_=>by rw[ot];exact hq) h6) hr
theorem vL{d j dj:Nat}{want b:Bool}{f:FuncId}{fo:Operand}{xs:Array Operand}{ats:Array TypeId}{bs:List AV}{r:AV}(hq:(b==want)=true→AX P f bs r)
  (hg:(o.guard,o.dst,Nat.blt d s.N,(ops[j]?).bind (·.dst),BE s.e (.tmp dj),o.op,BE s.e fo,r.flat)=(some (j,want),some d,true,some dj,.r (.bool b),.call { callee:=.value fo,args:=xs,argTypes:=ats },.fn f [],true))
  (hr:AO P ops rest { e:=(d,.whn (b==want) r)::s.e,h:=s.h,n:=s.n,N:=s.N } K)
  (hx:G7 (b==want) s.e s.h xs.toList bs:=by repeat' first | exact trivial | refine⟨⟨_,iL,.d rfl⟩,?_⟩ | refine⟨⟨_,iL,.g2 rfl rfl⟩,?_⟩ | refine⟨⟨_,iL,.one (.own rfl)⟩,?_⟩ | refine⟨⟨_,iR rfl,.d rfl⟩,?_⟩ | refine⟨⟨_,iR rfl,.g2 rfl rfl⟩,?_⟩):AO P ops (o::rest) s K:=by
 simp only[nU] at hg
 obtain⟨h1,h2,h3,h4,h5,h6,h7,h8⟩:=hg
 exact AO.stepW (.one h1 h4 h5) h2 h3 (EJ (caps:=[]) h6 (.inl h7) rfl hx (λhc=>by rw[ot];exact hq hc) h8) hr
end
section
variable{P:Program}{Q:Exit→St→Prop}{s:St}{x y:Code}
theorem aU{id}{l:List Oper}(h:AO P l.toArray l s λj=>AW P y Q j):AW P (.seq (.region id l.toArray false) y) Q s:=.seq (.region h)
theorem aT(h:∀ {K:St→Prop},(∀s,AW P y Q s→K s)→AW P x (F8 K Q) s):AW P (.seq x y) Q s:=mL λ_ j=>h j
theorem cI{α:Type}{b:Bool}{c:Operand}{X Y Z:α}(hc:BE s.e c=.r (.bool b))(h:(if b=true then X else Y)=Z)(j:X=Z→AW P x Q s)(l:Y=Z→AW P y Q s):AW P (.cond c x y) Q s:=
 AW.cond hc (λe=>j (Dz e h)) (λe=>l (D6 e h))
end
theorem mF{P:Program}{f}{fn:Func}{code}{args:List AV}{r:AV}{N}(l:P.funcs[f]?=some fn)(m:fn.ntmps=N)
 (j : (fn.body, fn.name == "runtime.NumGoroutine", r.closed, Nat.ble args.length N) = (some code, false, true, true)) (hw : ∀ q, AW P code (IQ P fn.results.toList r) ⟨Gz 0 args, [], q, N⟩) : AX P f args r := by
  simp only[nU] at j
  obtain⟨w, A, B, C⟩ := j
  exact mo l w A m B (oy C) hw
theorem oZ{P}{ops}{s}{K}{y}{Q}(j:∀s,AW P y Q s→K s)(h:AW P y Q s):AO P ops [] s K:=AO.nil (j _ h)
def TN(t i:Nat):List PO→Nat→Option Nat→Option Nat
 | [],_,r=>r
 | p::L,k,r=>match Nat.blt k i with
  | true=>TN t i L (k+1) (match p.d with
   | some d=>(match Nat.beq d t with
    | true=>some k
    | false=>r)
   | none=>r)
  | false=>r
def U0(t i:Nat):List PO→Nat→Option Nat→Option Nat
 | [],_,r=>r
 | p::L,k,r=>match Nat.blt k i with
  | true=>U0 t i L (k+1) (match p.hp with
   | some (d,_)=>(match Nat.beq d t with
    | true=>some k
    | false=>r)
   | none=>r)
  | false=>r
section
variable{P:Program}{ops:Array Oper}{s:St}{L:List PO}{i:Nat}{p:PO}{o:Oper}
theorem OU{D}{G}{e}{t j}(l:CL ops D i)(_:TN t i L 0 none=some j){p:PO}{a}(m:L[j]?=some p)(hd:p.d=some t)(hw:wt ops 40 i j=true)(hB:JC (L.drop (j+1)) t=true)(q:p.v G=a):get (Dd D G e L) t=a:=WK l j m hd hw hB q
theorem QR{D}{G}{h}{t j}(l:CL ops D i)(_:U0 t i L 0 none=some j){p:PO}{ob}{a}(m:L[j]?=some p)(hd:p.hp=some (t,ob))(hw:wt ops 40 i j=true)(hB:Kk ops i t (L.drop (j+1)) (j+1)=true)(q:ob G=a):hget (Dc D G h L) t=a:=eK l j m hd hw hB q
theorem oB(ie:Ao)(ih:Ag)(h:∀ {G e h'},AZ P true o (ie++e) (ih++h') (p.v G))
  (hg:o.guard=none:=by rfl) (hd:o.dst=p.d:=by rfl) (hN:∀d,p.d=some d→Nat.blt d s.N=true:=by intro d h;cases h<;>rfl) (hp:p.hp=none:=by rfl) (hv:∀G n,p.v (Cu G i n)=p.v G:=by intros;rfl)
  (hE:∀D G,CL ops D i→Gi (Dd D G s.e L) ie:=by intro _ _ hr;repeat' first | exact trivial | refine⟨QC rfl rfl,?_⟩ | refine⟨OU hr rfl rfl rfl (by kernel_rfl) rfl rfl,?_⟩ | refine⟨inE_baseL hr (by kernel_rfl) rfl,?_⟩)
  (hH:∀D G,CL ops D i→Gk (Dc D G s.h L) ih:=by intro _ _ hr;repeat' first | exact trivial | refine⟨QM rfl rfl,?_⟩ | refine⟨QR hr rfl rfl rfl (by kernel_rfl) (by kernel_rfl) rfl,?_⟩ | refine⟨Pv hr (by kernel_rfl) rfl,?_⟩):Ob P ops s L i p o:=
 S2 (n1:=λn=>n) hg hd hN hp (λ_=>ie) (λ_=>ih) hE hH hv λ_ _ _ _=>DN h _
theorem oC(ie:(Nat→Nat)→Ao)(ih:(Nat→Nat)→Ag)(h:∀G e h',AZ P true o (ie G++e) (ih G++h') (p.v G))
  (hg:o.guard=none:=by rfl) (hd:o.dst=p.d:=by rfl) (hN:∀d,p.d=some d→Nat.blt d s.N=true:=by intro d h;cases h<;>rfl) (hp:p.hp=none:=by rfl) (hv:∀G n,p.v (Cu G i n)=p.v G:=by intros;rfl)
  (hE:∀D G,CL ops D i→Gi (Dd D G s.e L) (ie G):=by intro _ _ hr;repeat' first | exact trivial | refine⟨QC rfl rfl,?_⟩ | refine⟨OU hr rfl rfl rfl (by kernel_rfl) rfl rfl,?_⟩ | refine⟨inE_baseL hr (by kernel_rfl) rfl,?_⟩)
  (hH:∀D G,CL ops D i→Gk (Dc D G s.h L) (ih G):=by intro _ _ hr;repeat' first | exact trivial | refine⟨QM rfl rfl,?_⟩ | refine⟨QR hr rfl rfl rfl (by kernel_rfl) (by kernel_rfl) rfl,?_⟩ | refine⟨Pv hr (by kernel_rfl) rfl,?_⟩):Ob P ops s L i p o:=
 S2 (n1:=λn=>n) hg hd hN hp ie ih hE hH hv λG e h' _=>DN (h G e h') _
theorem oD(ie:(Nat→Nat)→Ao)(ih:(Nat→Nat)→Ag){n1:Nat→Nat}(h:∀G e h' n,BN P true o (ie G++e) (ih G++h') n (p.v G) (ih G++h') (n1 n))
  (hg:o.guard=none:=by rfl) (hd:o.dst=p.d:=by rfl) (hN:∀d,p.d=some d→Nat.blt d s.N=true:=by intro d h;cases h<;>rfl) (hp:p.hp=none:=by rfl) (hv:∀G n,p.v (Cu G i n)=p.v G:=by intros;rfl)
  (hE:∀D G,CL ops D i→Gi (Dd D G s.e L) (ie G):=by intro _ _ hr;repeat' first | exact trivial | refine⟨QC rfl rfl,?_⟩ | refine⟨OU hr rfl rfl rfl (by kernel_rfl) rfl rfl,?_⟩ | refine⟨inE_baseL hr (by kernel_rfl) rfl,?_⟩)
  (hH:∀D G,CL ops D i→Gk (Dc D G s.h L) (ih G):=by intro _ _ hr;repeat' first | exact trivial | refine⟨QM rfl rfl,?_⟩ | refine⟨QR hr rfl rfl rfl (by kernel_rfl) (by kernel_rfl) rfl,?_⟩ | refine⟨Pv hr (by kernel_rfl) rfl,?_⟩):Ob P ops s L i p o:=
 S2 hg hd hN hp ie ih hE hH hv h
theorem oM{id:Nat}{ob:(Nat→Nat)→Option Aa}{n1:Nat→Nat}(ie:(Nat→Nat)→Ao)(ih:(Nat→Nat)→Ag)(hp:p.hp=some (id,ob))(h:∀(G:Nat→Nat) e h' n,BN P true o (ie G++e) (ih G++h') n (p.v (Cu G i n)) ((id,ob (Cu G i n))::(ih G++h')) (n1 n))
  (hg:o.guard=none:=by rfl) (hd:o.dst=p.d:=by rfl) (hN:∀d,p.d=some d→Nat.blt d s.N=true:=by intro d h;cases h<;>rfl)
  (hE:∀D G,CL ops D i→Gi (Dd D G s.e L) (ie G):=by intro _ _ hr;repeat' first | exact trivial | refine⟨QC rfl rfl,?_⟩ | refine⟨OU hr rfl rfl rfl (by kernel_rfl) rfl rfl,?_⟩ | refine⟨inE_baseL hr (by kernel_rfl) rfl,?_⟩)
  (hH:∀D G,CL ops D i→Gk (Dc D G s.h L) (ih G):=by intro _ _ hr;repeat' first | exact trivial | refine⟨QM rfl rfl,?_⟩ | refine⟨QR hr rfl rfl rfl (by kernel_rfl) (by kernel_rfl) rfl,?_⟩ | refine⟨Pv hr (by kernel_rfl) rfl,?_⟩):Ob P ops s L i p o:=
 mq hg hd hN hp ie ih hE hH h
end
@[reducible] def pO(d:Nat)(v:AV):PO:=⟨some d,λ_=>v,none,[]⟩
theorem rP{P:Program}{id:Nat}{l:List Oper}{s:St}{Q:Exit→St→Prop}(n:Nat)(L:List PO){lt:List Oper}(hm:P.follows .mixedOrders=true)(e4:l.drop n=lt)(hOb:I7 P l.toArray s L 0 L l)
  (h:∀(G:Nat→Nat) (n':Nat),AO P l.toArray lt ⟨Dd (λ_=>true) G s.e L,Dc (λ_=>true) G s.h L,n',s.N⟩ (Q .normal)) (hB:RD l.toArray n L=true:=by kernel_rfl)
  (hLoc:Ho L:=by repeat' first | exact trivial | refine⟨λ_ _ _=>⟨rfl,λ_ _ e=>by cases e<;>rfl⟩,?_⟩):AW P (.region id l.toArray true) Q s:=Lk n L hm hB hLoc e4 hOb h
theorem wk{s s'}(h:Am s s':=by refine Am.cv ?_ ?_ nL<;>repeat (first | exact trivial | refine⟨jL,?_⟩ | refine⟨.inl rfl,?_⟩)):Am s s':=h
section
variable{P:Program}{ops:Array Oper}{rest:List Oper}{K:St→Prop}{o:Oper}{s:St}
theorem mM{d}{x}(hg:(o.guard,o.dst,Nat.blt d s.N,o.op)=(none,some d,true,.move x))(j:AO P ops rest { e:=(d,BE s.e x)::s.e,h:=s.h,n:=s.n,N:=s.N } K):AO P ops (o::rest) s K:=by
 simp only[nU] at hg
 obtain⟨l,m,q,w⟩:=hg
 exact AO.step l m q (DN (AN w (.inl rfl)) _) j
theorem mA{d}{x}(hg:(o.guard,o.dst,Nat.blt d s.N,o.op)=(none,some d,true,.assign x))(j:AO P ops rest { e:=(d,BE s.e x)::s.e,h:=s.h,n:=s.n,N:=s.N } K):AO P ops (o::rest) s K:=by
 simp only[nU] at hg
 obtain⟨l,m,q,w⟩:=hg
 exact AO.step l m q (DN (EI w (.inl rfl)) _) j
theorem vM{d j m}{l b}{x}(hg:(o.guard, o.dst, Nat.blt d s.N, (ops[j]?).bind (·.dst), BE s.e (.tmp m), o.op)=(some (j, l), some d, true, some m, .r (.bool b), .move x))
 (q:AO P ops rest { e := (d, .whn (b==l) (BE s.e x))::s.e, h := s.h, n := s.n, N := s.N } K):AO P ops (o::rest) s K := by
  simp only[nU] at hg
  obtain⟨w, A, B, C, E, F⟩ := hg
  exact AO.stepW (.one w C E) A B (DN (AN F (.inl rfl)) _) q
end
section
variable{P:Program}{ops:Array Oper}{rest:List Oper}{K:St→Prop}{o:Oper}{s:St}{d:Nat}{x y:Operand}
theorem one{v}(hg:o.guard=none)(hd:o.dst=some d)(j:Nat.blt d s.N=true)(l:AZ P true o s.e s.h v)(m:AO P ops rest { e:=(d,v)::s.e,h:=s.h,n:=s.n,N:=s.N } K):AO P ops (o::rest) s K:=AO.step hg hd j (DN l _) m
theorem xI{α:Type}{f}{t e}{sz b}{l:List α}{k}{z}{a}(m:Bl P t e sz b)(hg:(o.guard, o.dst, Nat.blt d s.N, o.op, BE s.e x, BE s.e y)=(none, some d, true, .indexAddr t x y, .r (.sl (l.map f)), .r (.int k z)))
 (q:AL l z=some a) (w:AO P ops rest { e := (d, .rop (f a) 0)::s.e, h := s.h, n := s.n, N := s.N } K) (j:∀a, (f a).length=sz := by intro _;rfl):AO P ops (o::rest) s K := by
  simp only[nU] at hg
  exact one hg.1 hg.2.1 hg.2.2.1 (BA hg.2.2.2.1 m.slice (.inl hg.2.2.2.2.1) (.inl hg.2.2.2.2.2) j λ_ => q) w
theorem xL{α:Type}{f}{t e}{sz b}{l:List α}(j:Bl P t e sz b)(hg:(o.guard, o.dst, Nat.blt d s.N, o.op, BE s.e x)=(none, some d, true, .call { callee := .builtin .len, args := #[x], argTypes := #[t] }, .r (.sl (l.map f))))
 (m:AO P ops rest { e := (d, .r (.int .i64 l.length))::s.e, h := s.h, n := s.n, N := s.N } K):AO P ops (o::rest) s K := by
  simp only[nU] at hg
  exact one hg.1 hg.2.1 hg.2.2.1 (DP hg.2.2.2.1 j.slice (.inl hg.2.2.2.2)) m
theorem xA{t j}{k}{a b r}(hg:(o.guard, o.dst, Nat.blt d s.N, o.op, BE s.e x, BE s.e y)=(none, some d, true, .binOp .add t x y j, .r (.int k a), .r (.int k b)))
 (l:AR k (a+b)=some r) (m:AO P ops rest { e := (d, .r (.int k r))::s.e, h := s.h, n := s.n, N := s.N } K):AO P ops (o::rest) s K := by
  simp only[nU] at hg
  exact one hg.1 hg.2.1 hg.2.2.1 (JY hg.2.2.2.1 (.inl hg.2.2.2.2.1) (.inl hg.2.2.2.2.2) λ_ => l) m
theorem xN{a b}(hg:(o.guard, o.dst, Nat.blt d s.N, o.op, BE s.e x, BE s.e y)=(none, some d, true, .pick x y (.const (.bool false)), .r (.bool a), .whn (a==true) (.r (.bool b))))
 (j:AO P ops rest { e := (d, .r (.bool (a&&b)))::s.e, h := s.h, n := s.n, N := s.N } K):AO P ops (o::rest) s K := by
  simp only[nU] at hg
  exact one hg.1 hg.2.1 hg.2.2.1 (Bb hg.2.2.2.1 (.inl hg.2.2.2.2.1) (iR hg.2.2.2.2.2)) j
theorem xO{a b}(hg:(o.guard, o.dst, Nat.blt d s.N, o.op, BE s.e x, BE s.e y)=(none, some d, true, .pick x (.const (.bool true)) y, .r (.bool a), .whn (a==false) (.r (.bool b))))
 (j:AO P ops rest { e := (d, .r (.bool (a||b)))::s.e, h := s.h, n := s.n, N := s.N } K):AO P ops (o::rest) s K := by
  simp only[nU] at hg
  exact one hg.1 hg.2.1 hg.2.2.1 (Cm hg.2.2.2.1 (.inl hg.2.2.2.2.1) (iR hg.2.2.2.2.2)) j
theorem xB{t}{row:List RV}{sz}(cs:List AV)(j:Bd P t sz)(hg:(o.guard, o.dst, Nat.blt d s.N, o.op, BE s.e x, row.length, row.map AV.r)=(none, some d, true, .load t x, .rop row 0, sz, cs))
 (l:AO P ops rest { e := (d, .agg cs)::s.e, h := s.h, n := s.n, N := s.N } K):AO P ops (o::rest) s K := by
  simp only[nU] at hg
  exact one hg.1 hg.2.1 hg.2.2.1 (CV hg.2.2.2.1 j (.inl hg.2.2.2.2.1) hg.2.2.2.2.2.1 hg.2.2.2.2.2.2) l
theorem xC{t}{id g}{e}{sz}{cs:List AV}(j:Bd P t sz)(hg:(o.guard, o.dst, Nat.blt d s.N, o.op, BE s.e x, hget s.h id, cs.length)=(none, some d, true, .load t x, .ptr id g 0 0, some (.box g e cs), sz))
 (l:AO P ops rest { e := (d, .agg cs)::s.e, h := s.h, n := s.n, N := s.N } K):AO P ops (o::rest) s K := by
  simp only[nU] at hg
  exact one hg.1 hg.2.1 hg.2.2.1 (EK hg.2.2.2.1 j (.inl hg.2.2.2.2.1) hg.2.2.2.2.2.1 hg.2.2.2.2.2.2) l
theorem xV{t}{row}{k}(r:RV)(j:BO P t)(hg:(o.guard, o.dst, Nat.blt d s.N, o.op, BE s.e x, row[k]?)=(none, some d, true, .load t x, .rop row k, some r))
 (l:AO P ops rest { e := (d, .r r)::s.e, h := s.h, n := s.n, N := s.N } K):AO P ops (o::rest) s K := by
  simp only[nU] at hg
  exact one hg.1 hg.2.1 hg.2.2.1 (Bs hg.2.2.2.1 j (.inl hg.2.2.2.2.1) hg.2.2.2.2.2) l
theorem xX{vs}{i}{a}(hg:(o.guard, o.dst, Nat.blt d s.N, o.op, BE s.e x, vs[i]?)=(none, some d, true, .extract x i, .tup vs, some a))
 (j:AO P ops rest { e := (d, a)::s.e, h := s.h, n := s.n, N := s.N } K):AO P ops (o::rest) s K := by
  simp only[nU] at hg
  exact one hg.1 hg.2.1 hg.2.2.1 (ST hg.2.2.2.1 (.inl hg.2.2.2.2.1) hg.2.2.2.2.2) j
theorem xS{t j}{k}{a b}(hg:(o.guard, o.dst, Nat.blt d s.N, o.op, BE s.e x, BE s.e y)=(none, some d, true, .binOp .lss t x y j, .r (.int k a), .r (.int k b)))
 (l:AO P ops rest { e := (d, .r (.bool (decide (a<b))))::s.e, h := s.h, n := s.n, N := s.N } K):AO P ops (o::rest) s K := by
  simp only[nU] at hg
  exact one hg.1 hg.2.1 hg.2.2.1 (B1 hg.2.2.2.1 (.inl hg.2.2.2.2.1) (.inl hg.2.2.2.2.2)) l
theorem xQ{t j}{k}{a b}(hg:(o.guard, o.dst, Nat.blt d s.N, o.op, BE s.e x, BE s.e y)=(none, some d, true, .binOp .eql t x y j, .r (.int k a), .r (.int k b)))
 (l:AO P ops rest { e := (d, .r (.bool (decide (a=b))))::s.e, h := s.h, n := s.n, N := s.N } K):AO P ops (o::rest) s K := by
  simp only[nU] at hg
  exact one hg.1 hg.2.1 hg.2.2.1 (A5 hg.2.2.2.1 (.inl hg.2.2.2.2.1) (.inl hg.2.2.2.2.2)) l
theorem xU{t j}{k}{a b}(hg:(o.guard, o.dst, Nat.blt d s.N, o.op, BE s.e x, BE s.e y)=(none, some d, true, .binOp .neq t x y j, .r (.int k a), .r (.int k b)))
 (l:AO P ops rest { e := (d, .r (.bool (!(a=b))))::s.e, h := s.h, n := s.n, N := s.N } K):AO P ops (o::rest) s K := by
  simp only[nU] at hg
  exact one hg.1 hg.2.1 hg.2.2.1 (DV hg.2.2.2.1 (.inl hg.2.2.2.2.1) (.inl hg.2.2.2.2.2)) l
end
theorem xH{ρ α:Type}{o:ρ}{v:α ⊕ ρ}{q:ρ}(j:∀q,v=.inr q→o=q)(h:some (.inr q)=some v):o=q:=j _ (nh h).symm
theorem VT{P}{T r}{s:St}{t}(e:some T=some r)(h:get s.e t=rI T):IQ P [.tmp t] (rI r) .ret s:=Cf (λr=>rI r) e (.inl rfl) (.t (.d h))
theorem S9{P}{T r}{s:St}{t}(e:some T=some r)(h:get s.e t=rB T):IQ P [.tmp t] (rB r) .ret s:=Cf (λr=>rB r) e (.inl rfl) (.t (.d h))
theorem zI{P}{T r}{s:St}{t id}{x}{o:Oper}{Q}(e:some T=some r)(h:(o.guard, o.dst, Nat.blt t s.N, o.op, BE s.e x)=(none, some t, true, .assign x, rI T))
 (k:IQ P [.tmp t] (rI r) .ret { e := (t, BE s.e x)::s.e, h := s.h, n := s.n, N := s.N } → Q .ret { e := (t, BE s.e x)::s.e, h := s.h, n := s.n, N := s.N }):AW P (.seq (.region id [o].toArray false) .ret) Q s := by
  simp only[nU] at h
  refine aU (AO.step h.1 h.2.1 h.2.2.1 (DN (EI h.2.2.2.1 (.inl rfl)) _) (AO.nil (AW.ret (k (VT e ?_)))))
  show get (_::_) t=_
  unfold get
  rw[Nat.beq_refl]
  exact h.2.2.2.2
theorem zB{P}{T r}{s:St}{t id}{x}{o:Oper}{Q}(e:some T=some r)(h:(o.guard, o.dst, Nat.blt t s.N, o.op, BE s.e x)=(none, some t, true, .assign x, rB T))
 (k:IQ P [.tmp t] (rB r) .ret { e := (t, BE s.e x)::s.e, h := s.h, n := s.n, N := s.N } → Q .ret { e := (t, BE s.e x)::s.e, h := s.h, n := s.n, N := s.N }):AW P (.seq (.region id [o].toArray false) .ret) Q s := by
  simp only[nU] at h
  refine aU (AO.step h.1 h.2.1 h.2.2.1 (DN (EI h.2.2.2.1 (.inl rfl)) _) (AO.nil (AW.ret (k (S9 e ?_)))))
  show get (_::_) t=_
  unfold get
  rw[Nat.beq_refl]
  exact h.2.2.2.2
@[reducible] def rL{α:Type}(l:List α):AV:=rI (l.length:Int)
@[reducible] def rS(l:List UInt8):AV:=.r (.str l)
abbrev NN:=Nat→Nat
open Go.WideShapes
section
variable{H:Type}(K:GC H){enc:TypeId × Value→H}{P:Program}{W:World}
theorem XM{t:TypeId}{w:Array Field}{α:Type}{f:α→List RV}{ok:α→Prop}{μ:α→Nat}{v:Value}{d:DataW H}{p:List MemPlace}{r:Reach}{A:Nat}(B:P.underlying t=some (.struct w))(C:BX K enc P W t f ok μ)
  (j:Value.okWide P W r A t v) (h:DataW.Trod enc P W 0 (λ_=>true) true t v d p):∃a,ok a∧AP (Cx.start W) (.agg ((f a).map .r)) v∧μ a≤K.B d:=by
 obtain⟨O,rfl,_⟩:=okWide_struct B j
 obtain⟨l,E⟩:=h
 obtain⟨a,F,m,I⟩:=C l _ _ E
 refine⟨a,F,.agg ?_ λi c u q J=>?_,I⟩
 ·have:=m.1
  rw[ni,← this];rfl
 ·rw[nS,nV] at q
  obtain⟨M,hd,rfl⟩:=q
  exact .r (m.2 i M u hd (by rw[← J];exact oE))
end
end Go.Proofs.YtmogkkigacadpaaGreatDoor.Al

namespace Go.Proofs.YtmogkkigacadpaaGreatDoor.Al
open Go.Lib
theorem U3{W:World}{g}{row}(h:∀j d,row[j]?=some d→∃v,W.cell? ⟨g,j,none⟩=some v∧A7 W (· < W.heap.size) d v):AP (Cx.start W) (.rop row 0) (.pointer (some ⟨g,0,none⟩)):=by
 have q:row≠[]→g<W.heap.size:=by
  intro w
  obtain⟨d,hd⟩:∃d,row[0]?=some d:=by
   cases row with
   | nil=>exact absurd rfl w
   | cons d r=>exact⟨d,rfl⟩
  obtain⟨v,l,_⟩:=h 0 d hd
  unfold World.cell? at l
  rcases pl g W.heap.size with m | m
  ·exact m
  ·rw[pK m] at l;cases l
 exact AP.rop (x:=Cx.start W) (row:=row) (k:=0) (b:=g) (off:=0) (λj=>(W.cell? ⟨g,j,none⟩).getD undef) q
  (λj d A=>by obtain⟨v,l,_⟩:=h j d A;rw[np];show W.cell? _=_;rw[l];rfl)
  (λj d A=>by obtain⟨v,l,m⟩:=h j d A;rw[l];exact m)
theorem VJ{α β:Type}(f:α→β):∀(l:List α) (j:Nat),(l.flatMap λz=>[f z])[j]?=(l[j]?).map f
 | [],j=>by simp
 | x::l,0=>by simp
 | x::l,j+1=>by
  have:=VJ f l j
  rw[ow,List.singleton_append,pV,this,pV]
theorem Wc{α β:Type}(f g:α→β):∀(l:List α) (j:Nat) (d:β),(l.flatMap λz=>[f z,g z])[j]?=some d→∃i a,l[i]?=some a∧((j=2 * i∧d=f a)∨(j=2 * i+1∧d=g a))
 | [],j,d,h=>by simp at h
 | x::l,0,d,h=>by
  have:f x=d:=by simpa using h
  exact⟨0,x,rfl,.inl ⟨rfl,this.symm⟩⟩
 | x::l,1,d,h=>by
  have:g x=d:=by simpa using h
  exact⟨0,x,rfl,.inr ⟨rfl,this.symm⟩⟩
 | x::l,j+2,d,h=>by
  rw[ow] at h
  have w:(l.flatMap λz=>[f z,g z])[j]?=some d:=by simpa using h
  obtain⟨i,a,A,m⟩:=Wc f g l j d w
  refine⟨i+1,a,by simpa using A,?_⟩
  rcases m with ⟨m,q⟩ | ⟨m,q⟩
  ·exact .inl ⟨by omega,q⟩
  ·exact .inr ⟨by omega,q⟩
theorem ew{P:Program}{W:World}{w}{k}{A:List Int}{g n}{t e}{d}(C:VarReads P W w d)(l:d=tabData k A)(n1:P.globalNamed w=some g)
 (E:(P.globals[g]?).map (·.type)=some t) (F:P.underlying t=some (.array n e)) (I:P.underlying e=some (.int k)) (ce:P.cellsOf e=1) (J:P.cellsOf t=n):∃t p, W.heap[g]?=some (.cells ((A.map λz => Value.int k z).toArray) t p) := by
  obtain⟨U, V, X, B, p, hg, m, j, hd⟩ := C
  obtain rfl := nh (n1.symm.trans hg)
  obtain rfl := nh (E.symm.trans m)
  subst l
  have q := cells_of_tab F I ce J hd
  unfold World.var? at j
  rw[n1] at j
  simp only[oH] at j
  split at j
  · rename_i c M O T
    cases j
    refine⟨M, O, ?_⟩
    rw[T, ← q]
  · cases j
theorem XX {P : Program} {W : World} {d1 d2 : DataW Unit} {t1 t2 e1 e2 : TypeId} {fs : Array Field} (h1 : VarReads P W "unicode/utf8.first" d1) (hd1 : d1 = tabData .u8 Fl) (n1 : P.globalNamed "unicode/utf8.first" = some Hd)
  (y1:(P.globals[Hd]?).map (·.type)=some t1) (u1:P.underlying t1=some (.array 256 e1)) (ue:P.underlying e1=some (.int .u8)) (ce:P.cellsOf e1=1) (ct:P.cellsOf t1=256)
  (h2 : VarReads P W "unicode/utf8.acceptRanges" d2) (hd2 : d2 = .agg (IA.map fun p => .agg ([p.1, p.2].map fun z => .lit (.int .u8 z)))) (n2 : P.globalNamed "unicode/utf8.acceptRanges" = some HY)
  (y2:(P.globals[HY]?).map (·.type)=some t2) (u2:P.underlying t2=some (.array 16 e2)) (us:P.underlying e2=some (.struct fs)) (hfs:∀(i:Nat) (f:Field),fs[i]?=some f→P.underlying f.type=some (.int .u8)∧f.offset=i∧P.cellsOf f.type=1)
  (hsz:fs.size=2) (c2:P.cellsOf e2=2)
  (hw:∀g cs,P0 g=some cs→0<cs.size∧∃t p,W.heap[g]?=some (.cells cs t p):=by intro _ _ h;cases h) (hF:RA W:=by trivial):EF (Cx.start W):=by
 refine⟨λg row hg=>?_,λg cs hg=>⟨?_,hw g cs hg⟩,W,hF,Go.RowKit.Below.refl _ _,λ_ h=>h⟩
 rotate_left
 ·obtain⟨_,t,p,h⟩:=hw g cs hg
  show g<W.heap.size
  exact(oI.1 h).1
 unfold Gl at hg
 by_cases hF:g=Hd
 ·rw[nH hF] at hg
  cases hg
  subst hF
  obtain⟨g,t,cs,fuel,p,hg,hty,hvar,hd⟩:=h1
  obtain rfl:=nh (n1.symm.trans hg)
  obtain rfl:=nh (y1.symm.trans hty)
  subst hd1
  have hcs:=cells_of_tab u1 ue ce ct hd
  refine U3 λj d hj=>?_
  rw[VJ,nV] at hj
  obtain⟨z,hz,rfl⟩:=hj
  refine⟨.int .u8 z,?_,.int _ _⟩
  rw[World.var?_cell hg hvar j,← oE,hcs,nS,hz];rfl
 ·rw[nG hF] at hg
  by_cases hA:g=HY
  ·rw[nH hA] at hg
   cases hg
   subst hA
   obtain⟨g,t,cs,fuel,p,hg,hty,hvar,hd⟩:=h2
   obtain rfl:=nh (n2.symm.trans hg)
   obtain rfl:=nh (y2.symm.trans hty)
   subst hd2
   refine U3 λj d hj=>?_
   obtain⟨i,a,hi,hja⟩:=Wc _ _ _ _ _ hj
   have hil:i<16:=(nN.1 hi).1
   obtain⟨fuel',d',q,hdi,he⟩:=array_elem u2 hd i hil
   rw[nS,hi] at hdi
   cases hdi
   rw[c2] at he
   have hcs:=ints_of_struct us hfs (by rw[c2,hsz]) he
   have e0:=nb (·[0]?) hcs
   have e1:=nb (·[1]?) hcs
   simp only[nv,nz] at e0 e1
   rcases hja with ⟨rfl,rfl⟩ | ⟨rfl,rfl⟩
   ·refine⟨.int .u8 a.1,?_,.int _ _⟩
    rw[World.var?_cell hg hvar (2 * i),← oE]
    simpa[pI] using e0
   ·refine⟨.int .u8 a.2,?_,.int _ _⟩
    rw[World.var?_cell hg hvar (2 * i+1),← oE]
    simpa[pI] using e1
  ·rw[nG hA] at hg;cases hg
end Go.Proofs.YtmogkkigacadpaaGreatDoor.Al
