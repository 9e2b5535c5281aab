/- The program logic, a part of it. -/
import Derived.Test.YtmbjbecccheclaaDoorAl1
import Derived.Laws.BytesString
import Derived.Laws.RangeString
import Derived.Lib.LaidU8
import Derived.OrdersHeld
import Derived.Shelf.Unicode.PredsPay
import Derived.Shelf.Unicode.ValidAny
import Derived.Test.YtmbjbecccheclaaDoorProg
namespace Go.Proofs.YtmbjbecccheclaaDoor.Al
open Go.RowKit
section
variable {x:Cx} (id0:Nat) (o0:AO) (β0:Option (Nat × Nat)) (κ0:Nat→Option (Nat × Nat)) (n':Nat)
def Cx.add (x:Cx):Cx:={ x with H:=fun i=>if id0=i then some o0 else x.H i,β:=fun i=>if id0=i then β0 else x.β i,K:=fun i=>if id0=i then κ0 else x.K i,n:=n' }
theorem AJ.add (hg:x.n≤o0.gen) (hn:x.n≤n') (hf:o0.isFam=false) {a:AV} {v:Value} (h:AJ x a v):AJ (x.add id0 o0 β0 κ0 n') a v:=by
 induction h with
 | r h=>exact .r h
 | agg hl _ ih=>exact .agg hl ih
 | tup hl _ ih=>exact .tup hl ih
 | own hg' h1 ho=>
  refine .own (Nat.lt_of_lt_of_le hg' hn) h1 fun o h2 h3=>?_
  dsimp only [Cx.add] at h2 ⊢
  split at h2
  ·cases h2; omega
  ·rename_i hi; rw [if_neg hi]; exact ho o h2 h3
 | ptr hg' h1 ho=>
  refine .ptr (Nat.lt_of_lt_of_le hg' hn) h1 fun o h2 h3=>?_
  dsimp only [Cx.add] at h2 ⊢
  split at h2
  ·cases h2; omega
  ·rename_i hi; rw [if_neg hi]; exact ho o h2 h3
 | mref hg' h1 ho=>
  refine .mref (Nat.lt_of_lt_of_le hg' hn) h1 fun o h2 h3=>?_
  dsimp only [Cx.add] at h2 ⊢
  split at h2
  ·cases h2; omega
  ·rename_i hi; rw [if_neg hi]; exact ho o h2 h3
 | yld hg' h1 ho=>
  refine .yld (Nat.lt_of_lt_of_le hg' hn) h1 fun o h2 h3=>?_
  dsimp only [Cx.add] at h2 ⊢
  split at h2
  ·cases h2; omega
  ·rename_i hi; rw [if_neg hi]; exact ho o h2 h3
 | pk hg' hv h1 ho=>
  refine .pk (Nat.lt_of_lt_of_le hg' hn) (Nat.lt_of_lt_of_le hv hn) h1 fun o b c q m h2 h3 h4 h5 h6 h7=>?_
  dsimp only [Cx.add] at h2 h7
  split at h2
  ·cases h2; rw [hf] at h3; cases h3
  ·rename_i hi; rw [if_neg hi] at h7; exact ho o b c q m h2 h3 h4 h5 h6 h7
 | fo hg' hv h1 ho=>
  refine .fo (Nat.lt_of_lt_of_le hg' hn) (Nat.lt_of_lt_of_le hv hn) h1 fun o h2 h3 h4 h5=>?_
  dsimp only [Cx.add] at h2 ⊢
  split at h2
  ·cases h2; rw [hf] at h3; cases h3
  ·rename_i hi; rw [if_neg hi]; exact ho o h2 h3 h4 h5
 | full h hf=>exact .full h hf
 | rop u hS hc hr=>exact .rop u hS hc hr
 | fn hl _ ih=>exact .fn hl ih
 | cst v=>exact .cst v
 | whn _ h2 ih=>exact .whn ih h2
 | any v=>exact .any v
theorem Au.add (hg:x.n≤o0.gen) (hn:x.n≤n') (hf:o0.isFam=false) {β:Option (Nat × Nat)} {κ:Nat→Option (Nat × Nat)} {o:AO} (h:Au x β κ o):Au (x.add id0 o0 β0 κ0 n') β κ o:=by
 have hA : ∀ {a:AV} {v:Value},AJ x a v→AJ (x.add id0 o0 β0 κ0 n') a v:=fun h=>h.add id0 o0 β0 κ0 n' hg hn hf
 cases o with
 | box g e cs=>
  obtain ⟨b,cur,h1,h2,h3,h4⟩:=h
  exact ⟨b,cur,h1,h2,h3,fun j c hj=>let ⟨u,k1,k2,k3⟩:=h4 j c hj; ⟨u,k1,k2,hA k3⟩⟩
 | hot g e xs k id g'=>
  obtain ⟨h0,h1,hdr,us,h2,h3,h4,u,h5,h6⟩:=h
  exact ⟨h0,h1,hdr,us,h2,h3,h4,u,h5,hA h6⟩
 | mp g ks vs clock=>
  obtain ⟨b,us,h1,h2,h3,h4,h5⟩:=h
  exact ⟨b,us,h1,h2,h3,h4,fun j c u k1 k2=>hA (h5 j c u k1 k2)⟩
 | mi g mid mg since Ay last=>obtain ⟨b,m,h1,h2,h3⟩:=h; exact ⟨b,m,h1,h2,hA h3⟩
 | mj g mid mg len Ay=>obtain ⟨b,m,h1,h2,h3⟩:=h; exact ⟨b,m,h1,h2,hA h3⟩
 | lp g e N ps a b st p=>
  obtain ⟨b,r,h1,h2,h3,h4,h5,h6,h7,h8,h9⟩:=h
  exact ⟨b,r,h1,h2,h3,h4,h5,h6,h7,h8,fun t=>hA (h9 t)⟩
 | arr g e sz xs=>exact h
 | it g s pos=>exact h
 | md g l=>exact h
 | mb g v e l=>exact ⟨Nat.lt_of_lt_of_le h.1 hn,h.2⟩
 | mr g v e sz hole l=>exact ⟨h.1,Nat.lt_of_lt_of_le h.2.1 hn,h.2.2⟩
 | cal g W ys=>exact h
theorem Cx.ok.add (hok:x.ok) (hg:x.n≤o0.gen) (hgn:o0.gen<n') (hf:o0.isFam=false) (hβ : ∀ b k,β0=some (b,k)→b<x.w.heap.size ∧ ¬ x.S b ∧ ¬ x.F b ∧ ∀ id o k',x.H id=some o→x.atk id b k'→False)
  (hκ : ∀ j b k,κ0 j=some (b,k)→(b<x.w.heap.size ∧ ¬ x.S b ∧ ¬ x.F b ∧ ∀ id o k',x.H id=some o→x.atk id b k'→False)∧(∀ k',β0=some (b,k')→False) ∧ ∀ j' k',κ0 j'=some (b,k')→j'=j)
  (hrep:Au (x.add id0 o0 β0 κ0 n') β0 κ0 o0):(x.add id0 o0 β0 κ0 n').ok:=by
 have hn:x.n≤n':=by omega
 have hne : ∀ {i:Nat} {o:AO},(x.add id0 o0 β0 κ0 n').H i=some o→id0≠i→x.H i=some o:=fun h hi=>by dsimp only [Cx.add] at h; rwa [if_neg hi] at h
 have hβe : ∀ i,id0≠i→(x.add id0 o0 β0 κ0 n').β i=x.β i:=fun i hi=>if_neg hi
 have hKe : ∀ i,id0≠i→(x.add id0 o0 β0 κ0 n').K i=x.K i:=fun i hi=>if_neg hi
 have hβ0:(x.add id0 o0 β0 κ0 n').β id0=β0:=if_pos rfl
 have hK0:(x.add id0 o0 β0 κ0 n').K id0=κ0:=if_pos rfl
 refine ⟨hok.S_lt,hok.F_lt,hok.SF,fun i o h=>?_,fun i o b k h hb=>?_,fun i i' o o' b k k' h h' hb hb'=>?_,fun i o j b c h hb=>?_,hok.tabs.same rfl fun _ h=>h⟩
 ·by_cases hi:id0=i
  ·subst hi
   have:(x.add id0 o0 β0 κ0 n').H id0=some o0:=if_pos rfl
   rw [this] at h; cases h
   rw [hβ0,hK0]
   exact ⟨hgn,hrep⟩
  ·obtain ⟨k1,k2⟩:=hok.obj i o (hne h hi)
   rw [hβe i hi,hKe i hi]
   exact ⟨Nat.lt_of_lt_of_le k1 hn,k2.add id0 o0 β0 κ0 n' hg hn hf⟩
 ·by_cases hi:id0=i
  ·subst hi
   rw [hβ0] at hb
   obtain ⟨k1,k2,k3,_⟩:=hβ b k hb
   exact ⟨k1,k2,k3⟩
  ·rw [hβe i hi] at hb
   exact hok.own i o b k (hne h hi) hb
 ·by_cases hi:id0=i <;> by_cases hi':id0=i'
  ·rw [← hi,← hi']
  ·subst hi
   rw [hβ0] at hb; rw [hβe i' hi'] at hb'
   exact ((hβ b k hb).2.2.2 i' o' k' (hne h' hi') (.inl hb')).elim
  ·subst hi'
   rw [hβ0] at hb'; rw [hβe i hi] at hb
   exact ((hβ b k' hb').2.2.2 i o k (hne h hi) (.inl hb)).elim
  ·rw [hβe i hi] at hb; rw [hβe i' hi'] at hb'
   exact hok.inj i i' o o' b k k' (hne h hi) (hne h' hi') hb hb'
 ·by_cases hi:id0=i
  ·subst hi
   rw [hK0] at hb
   obtain ⟨⟨k1,k2,k3,k4⟩,k5,k6⟩:=hκ j b c hb
   refine ⟨k1,k2,k3,fun i' o' k h' hb'=>?_,fun i' o' j' c' h' hb'=>?_⟩
   ·by_cases hi':id0=i'
    ·subst hi'; rw [hβ0] at hb'; exact k5 k hb'
    ·rw [hβe i' hi'] at hb'; exact k4 i' o' k (hne h' hi') (.inl hb')
   ·by_cases hi':id0=i'
    ·subst hi'; rw [hK0] at hb'; exact ⟨rfl,k6 j' c' hb'⟩
    ·rw [hKe i' hi'] at hb'; exact (k4 i' o' c' (hne h' hi') (.inr ⟨j',hb'⟩)).elim
  ·rw [hKe i hi] at hb
   obtain ⟨k1,k2,k3,k4,k5⟩:=hok.ext i o j b c (hne h hi) hb
   refine ⟨k1,k2,k3,fun i' o' k h' hb'=>?_,fun i' o' j' c' h' hb'=>?_⟩
   ·by_cases hi':id0=i'
    ·subst hi'; rw [hβ0] at hb'; exact (hβ b k hb').2.2.2 i o c (hne h hi) (.inr ⟨j,hb⟩)
    ·rw [hβe i' hi'] at hb'; exact k4 i' o' k (hne h' hi') hb'
   ·by_cases hi':id0=i'
    ·subst hi'; rw [hK0] at hb'; exact ((hκ j' b c' hb').1.2.2.2 i o c (hne h hi) (.inr ⟨j,hb⟩)).elim
    ·rw [hKe i' hi'] at hb'; exact k5 i' o' j' c' (hne h' hi') hb'
end
end Go.Proofs.YtmbjbecccheclaaDoor.Al

namespace Go.Proofs.YtmbjbecccheclaaDoor.Al
open Go.RowKit
section
variable {P:Program} {s:St}
open Classical in
theorem Li {σ:Type} {g:Operand} {ps:Array Tmp} {asg bd:Code} {Q:Exit→St→Prop} {f:FuncId} {caps:List AV} {L:List Nat} {hB:AL} {Post:B2→AV→AL→Prop} (lid:Nat) (F:σ→List RV→Option σ) (st0:σ) (Hf:σ→(Nat→Nat)→AL) (nf:(Nat→Nat)→Nat) (i0:Nat→Nat)
  (hgv:Cr s.e g = .fn f (BO (lid :: L) caps)) (hcc:Bt (L.length+1) caps=true) (hsh:By s.h (lid :: L) hB) (hB0:AH hB 1000=none) (hnd:(lid :: L).Nodup) (hno:Db s.h=true)
  (hsub:C2 (Hf st0 i0) s.h) (hdis : ∀ j∈lid :: L,AH (Hf st0 i0) j=none) (hdis2 : ∀ st i,AH (Hf st i) lid=none) (hn0:s.n+1≤nf i0) (hg : ∀ i,s.n<nf i) (hps:(ps.toList.all fun p=>Nat.blt p s.N)=true) (hndc:(An asg && An bd)=true)
  (hcon : ∀ W:B2,W.P=P→W.A=CF F st0→BA P f (L.length+1) (.yld 1000 s.n :: caps) ((1000,some (.cal s.n W [])) :: hB) (Post W))
  (hround : ∀ st y st' i,F st y=some st'→y.length=ps.toList.length∧AW P asg (Cj P lid s.n bd fun c h' n'=>c=true ∧ ∃ i',(∀ id o,AH ((lid,some (.lp s.n s.e s.N ps.toList asg bd .ready none)) :: Hf st' i') id=some o→AH h' id=some o)∧n'≤nf i')
   ⟨Ea ps.toList (y.map .r) s.e,(lid,some (.lp s.n s.e s.N ps.toList asg bd .ready none)) :: Hf st i,nf i,s.N⟩)
  (hfn : ∃ fn, P.funcs[f]? = some fn ∧ fn.body.isNone = false ∧ (fn.name == "runtime.NumGoroutine") = false)
  (hpost : ∀ W r h',W.A=CF F st0→Post W r h' → ∃ ys st1,AH h' 1000=some (.cal s.n W ys)∧BT F ys st0=some st1 ∧ ∀ i,Q .normal ⟨s.e,Hf st1 i,nf i,s.N⟩) :
  AW P (.rangeFunc g ps asg bd) Q s:=by
 intro z hz c0 a w ⟨ds,hdef,hsz,y,hyw,hle,hok,hH,hn,he⟩
 have hz0:z=none:=hz.resolve_right (by simp [An])
 subst hz0
 subst hyw
 obtain ⟨fn,hf,hfbn,hname⟩:=hfn
 obtain ⟨code,hfb⟩ : ∃ code,fn.body=some code:=by
  cases h:fn.body with
  | none=>rw [h] at hfbn; cases hfbn
  | some c=>exact ⟨c,rfl⟩
 have hgv2:=he.eval g
 rw [hgv] at hgv2
 generalize hgv':a.eval g=gv at hgv2
 cases hgv2 with
 | @fn _ _ us hul hus=>
 refine wpIn_rangeFunc fun fnid _=>?_
 obtain ⟨q1,q2⟩:=Lb hok (.deferred (some []))
 let lp:AO:=.lp s.n s.e s.N ps.toList asg bd .ready none
 have hrep : ∀ r:Loop,r.params=ps→r.assign=asg→r.body=bd→r.state = .ready→r.pending=none→r.tmps=a.tmps →
   ∃ z:Cx,z.w=(y.w.alloc (.deferred (some []))).alloc (.loop r)∧y.le z∧z.ok∧z.H=AH ((lid,some lp) :: s.h)∧z.n=s.n+1∧z.S y.w.heap.size∧z.β lid=some (y.w.heap.size+1,1) ∧
    (∀ d,z.S d↔y.S d∨d=y.w.heap.size)∧z.F=y.F∧(∀ i,i≠lid→z.β i=y.β i∧z.K i=y.K i) ∧ ∀ j,z.K lid j=none:=by
  intro r e1 e2 e3 e4 e5 e6
  have hup:=Cg q2 lid lp ((y.w.alloc (.deferred (some []))).alloc (.loop r)) (some (y.w.heap.size+1,1)) (s.n+1) (by simp) rfl rfl rfl
   (fun c hc _=>Below.heap_alloc _ _ _ hc) (fun c k hc=>by
    simp only [Option.some.injEq,Prod.mk.injEq] at hc
    obtain ⟨rfl,rfl⟩:=hc
    exact ⟨by simp,.inl (by simp)⟩) (by show y.n≤s.n+1; omega) (Nat.lt_succ_self _) (fun hlt=>by
     have:s.n<y.n:=hlt
     omega)
   (fun hle'=>⟨y.w.heap.size+1,r,rfl,by
    have:=World.alloc_heap_new (y.w.alloc (.deferred (some []))) (.loop r)
    rwa [World.size_alloc] at this,by simp [e1],e2,e3,e4,e5,by rw [e6]; exact hsz,fun t=>by rw [e6]; exact ((he t).mono q1).mono hle'⟩)
  refine ⟨_,rfl,q1.trans hup.1,hup.2,?_,rfl,.inr rfl,by simp,fun d=>Iff.rfl,rfl,fun i hi=>⟨if_neg fun e=>hi e.symm,if_neg fun e=>hi e.symm⟩,fun j=>by simp⟩
  funext i
  simp only [Af]
  rw [hH]
 obtain ⟨r,hr⟩ : ∃ r:Loop,r = { state:=.ready,pending:=none,fn:=fnid,tmps:=a.tmps,params:=ps,assign:=asg,body:=bd,defers:=y.w.heap.size }:=⟨_,rfl⟩
 obtain ⟨x,hxw,hyx,hxok,hxH,hxn,hxS,hxβ,hxSi,hxF,hxo,hxK⟩:=hrep r (by rw [hr]) (by rw [hr]) (by rw [hr]) (by rw [hr]) (by rw [hr]) (by rw [hr])
 have hlx:x.H lid=some lp:=by rw [hxH,Af,if_pos rfl]
 have hDx:x.w.heap[y.w.heap.size]? = some (.deferred (some [])):=by
  rw [hxw]; exact (Below.heap_alloc _ _ _ (by simp)).trans (World.alloc_heap_new _ _)
 let q:Cx:={ y with w:=y.w.alloc (.deferred (some [])),S:=fun b=>y.S b∨b=y.w.heap.size }
 obtain ⟨t1,t2⟩:=Cx.ok.turn (x:=q) q2 (w':=x.w) (by rw [hxw]; simp [q]) (by rw [hxw]; rfl) (by rw [hxw]; rfl) (by rw [hxw]; rfl) (fun d hd=>by
  have hlt:d<q.w.heap.size:=by
   rcases hd with hd | hd | ⟨id,o,k,e1,e2⟩
   ·exact q2.S_lt d hd
   ·exact q2.F_lt d hd
   ·exact (q2.own' id o d k e1 e2).1
  rw [hxw]; exact Below.heap_alloc _ _ _ hlt)
 let q':Cx:={ q with w:=x.w }
 have hyq:y.le q':=q1.trans t1
 have hqsz:q.w.heap.size=y.w.heap.size+1:=World.size_alloc _ _
 have hxsz:x.w.heap.size=y.w.heap.size+2:=by rw [hxw]; simp
 have hv1:(q'.view (lid :: L) hB).ok:=Ia (z:=q') t2 hH hsh hnd
 have hv2:=hv1.fence (fun _=>False) (fun b h=>h.elim) (fun b _ h=>h.elim) (fun id o b k _ _ h=>h.elim)
 have hSF : ∀ id o b k,(q'.view (lid :: L) hB).H id=some o→(q'.view (lid :: L) hB).atk id b k → ¬ (q'.S b∨q'.F b):=fun id o b k h ha hs=>by
  obtain ⟨_,k2,k3⟩:=hv1.own' id o b k h ha
  exact hs.elim k2 fun h=>k3 (.inl h)
 obtain ⟨r1,r2⟩:=Gr hv2 (fun b=>q'.S b∨q'.F b) (AH hB) q'.n (Nat.le_refl _) (fun b h=>.inl h) (fun b h=>h.elim (t2.S_lt b) (t2.F_lt b)) (fun b _ h=>h) (fun id o h=>⟨o,h,rfl,rfl,fun b k ha=>hSF id o b k h ha,fun _=>rfl,fun _ h=>h⟩)
 let v3:Cx:={ q'.view (lid :: L) hB with F:=fun _=>False,S:=fun b=>q'.S b∨q'.F b,H:=AH hB,n:=q'.n }
 have r2:v3.ok:=r2
 let κ0:Nat→Prop:=fun d=>∃ id o k,id ∉ lid :: L∧q'.H id=some o∧q'.atk id d k
 let S0:Nat→Prop:=fun d=>x.S d∨x.F d
 let W:B2:=GC P x lid (y.w.heap.size+1) lp F st0 Hf nf
 have hS0 : ∀ d,S0 d↔v3.S d:=fun d=>by
  show x.S d∨x.F d↔(y.S d∨d=y.w.heap.size)∨y.F d
  rw [hxSi,hxF]
 have hbnew:y.w.heap.size+1<x.w.heap.size ∧ ¬ v3.S (y.w.heap.size+1) ∧ ¬ v3.F (y.w.heap.size+1) ∧ ∀ id o k',v3.H id=some o→v3.atk id (y.w.heap.size+1) k'→False:=by
  have hno1 : ∀ d,q'.S d∨q'.F d→d<y.w.heap.size+1:=fun d hd=>by
   have:d<q.w.heap.size:=hd.elim (q2.S_lt d) (q2.F_lt d)
   omega
  refine ⟨by omega,fun h=>by have:=hno1 _ h; omega,fun h=>h,fun id o k' h ha=>?_⟩
  obtain ⟨_,_,h3,_⟩:=hsh.get h
  have:y.w.heap.size+1<q.w.heap.size:=(q2.own' (Ac (lid :: L) id) _ _ k' (show y.H _=_ by rw [hH]; exact h3) ha).1
  omega
 have hcal:=Ks (P:=P) (x:=x) (lid:=lid) (b:=y.w.heap.size+1) (g:=s.n) (N:=s.N) (e:=s.e) (ps:=ps.toList) (asg:=asg) (bd:=bd) (F:=F) (st0:=st0) (Hf:=Hf) (nf:=nf) (fun d h1 h2=>hxok.SF d h2 h1) hg hps hndc hround
 have hJ0:HI x lid (y.w.heap.size+1) lp F st0 Hf nf [] x.w κ0:=by
  have hsubx : ∀ id o,AH ((lid,some lp) :: Hf st0 i0) id=some o→x.H id=some o:=fun id o ho=>by
   rw [Af] at ho
   rw [hxH,Af]
   split at ho
   ·rename_i hi; rw [if_pos hi]; exact ho
   ·rename_i hi; rw [if_neg hi]
    rcases hsub.get id with e1 | e1
    ·rw [e1] at ho; cases ho
    ·rw [← e1]; exact ho
  obtain ⟨f1,f2⟩:=Fo hxok (AH ((lid,some lp) :: Hf st0 i0)) hsubx (nf i0) (by rw [hxn]; exact hn0)
  refine ⟨{ x with H:=AH ((lid,some lp) :: Hf st0 i0),n:=nf i0 },st0,i0,rfl,rfl,f2,f1,rfl,rfl,hxβ,fun id o d k ho ha=>?_,fun d hd=>.inl (.inl hd)⟩
  by_cases hi:id=lid
  ·subst hi
   left
   rcases ha with ha | ⟨j,ha⟩
   ·have ha:x.β id=some (d,k):=ha
    rw [hxβ] at ha
    simp only [Option.some.injEq,Prod.mk.injEq] at ha
    exact ha.1.symm
   ·have ha:x.K id j=some (d,k):=ha
    rw [hxK] at ha; cases ha
  ·right
   have hx:=hsubx id o ho
   have hyH:y.H id=some o:=by rw [hxH,Af,if_neg fun e=>hi e.symm] at hx; rw [hH]; exact hx
   refine ⟨id,o,k,fun hm=>?_,hyH,?_⟩
   ·have:=hdis id hm
    have ho':AH (Hf st0 i0) id=some o:=by have ho:AH ((lid,some lp) :: Hf st0 i0) id=some o:=ho; rwa [Af,if_neg fun e=>hi e.symm] at ho
    rw [this] at ho'; cases ho'
   ·have h1:=hxo id hi
    rcases ha with ha | ⟨j,ha⟩
    ·exact .inl (by have ha:x.β id=some (d,k):=ha; rwa [h1.1] at ha)
    ·exact .inr ⟨j,by have ha:x.K id j=some (d,k):=ha; rwa [h1.2] at ha⟩
 have hκlt : ∀ d,κ0 d→d<y.w.heap.size+1 ∧ ¬ v3.S d ∧ ¬ v3.F d ∧ ∀ id o k',v3.H id=some o→v3.atk id d k'→False:=fun d ⟨id,o,k,e1,e2,e3⟩=>by
  obtain ⟨k1,k2,k3⟩:=q2.own' id o d k e2 e3
  have k1:d<q.w.heap.size:=k1
  refine ⟨by omega,fun h=>h.elim k2 k3,fun h=>h,fun id' o' k' h' ha'=>?_⟩
  obtain ⟨h1,h2,h3,_⟩:=hsh.get h'
  have:=q2.inj' (id:=id) (id':=Ac (lid :: L) id') e2 (show y.H _=_ by rw [hH]; exact h3) e3 ha'
  exact e1 (this ▸ E2 h1 h2)
 have hv:=r2.add 1000 (.cal s.n W []) (some (y.w.heap.size+1,1)) (fun j=>if κ0 j then some (j,0) else none) (s.n+1) (by show y.n≤s.n; omega) (Nat.lt_succ_self _) rfl
  (fun b k hb=>by
   simp only [Option.some.injEq,Prod.mk.injEq] at hb
   obtain ⟨rfl,rfl⟩:=hb
   exact hbnew)
  (fun j d k hb=>by
   split at hb
   ·rename_i hj
    simp only [Option.some.injEq,Prod.mk.injEq] at hb
    obtain ⟨rfl,rfl⟩:=hb
    obtain ⟨k1,k2,k3,k4⟩:=hκlt j hj
    refine ⟨⟨by show j<x.w.heap.size; omega,k2,k3,k4⟩,fun k' hb'=>?_,fun j' k' hb'=>?_⟩
    ·simp only [Option.some.injEq,Prod.mk.injEq] at hb'
     omega
    ·split at hb'
     ·simp only [Option.some.injEq,Prod.mk.injEq] at hb'
      exact hb'.1
     ·cases hb'
   ·cases hb)
  ⟨κ0,rfl,hcal,hJ0,fun d hd=>⟨d,0,if_pos hd⟩,fun d hd=>(hS0 d).1 hd⟩
 obtain ⟨v,hve⟩ : ∃ v:Cx,v=v3.add 1000 (.cal s.n W []) (some (y.w.heap.size+1,1)) (fun j=>if κ0 j then some (j,0) else none) (s.n+1):=⟨_,rfl⟩
 rw [← hve] at hv
 have hvH:v.H=AH ((1000,some (.cal s.n W [])) :: hB):=by
  rw [hve]; funext i; rw [Af]; rfl
 have hvw:v.w=x.w:=by rw [hve]; rfl
 have hargs:Ch v (.yld 1000 s.n :: caps) (#[Value.func (.yield (y.w.heap.size+1)) #[] #[]]++us).toList:=by
  refine ⟨by rw [B8] at hul; simp [hul],fun i c u h1 h2=>?_⟩
  cases i with
  | zero=>
   simp only [List.getElem?_cons_zero,Option.some.injEq] at h1
   have h2':some (Value.func (.yield (y.w.heap.size+1)) #[] #[])=some u:=by simpa using h2
   cases h2'; subst h1
   exact .yld (by rw [hve]; exact Nat.lt_succ_self _) rfl fun o ho _=>⟨y.w.heap.size+1,1,by rw [hve]; simp [Cx.add],rfl⟩
  | succ i=>
   have h2':us[i]? = some u:=by simpa [Array.getElem?_append] using h2
   have h1':caps[i]? = some c:=by simpa using h1
   have h3:=(hus i (ren (lid :: L) c) u (by rw [CE,h1']; rfl) h2').mono hyq
   have h4:AJ (q'.view (lid :: L) hB) c u:=GV (x:=q') (y:=q'.view (lid :: L) hB) (L:=lid :: L) (k:=(lid :: L).length) rfl (fun _ h=>h) (Nat.le_refl _) (Gj hH hsh) h3 c rfl (CM hcc h1')
   have h5:AJ v3 c u:=(h4.fence fun _=>False).mono r1
   rw [hve]
   exact h5.add 1000 _ _ _ _ (by show y.n≤s.n; omega) (by show y.n≤s.n+1; omega) rfl
 have hname' : ∀ (args:Array Value) (w:World),(callFunc f args).run P w = .ok (.enter f args) w:=fun args w=>by
  simp only [callFunc,Sem.run_bind,run_program,Result.andThen_ok,hf,hname,hfb]
  simp [Sem.run_pure]
 refine ⟨y.w.heap.size+1,[{ target:=.collected y.w.heap.size,args:=#[] }],x.w,{ target:=.fn (.func f) us,args:=#[.func (.yield (y.w.heap.size+1)) #[] #[]] },x.w,f,
  #[.func (.yield (y.w.heap.size+1)) #[] #[]]++us,x.w,?_,?_,fun _ _=>trivial,?_,fun e=>(by cases e),?_⟩
 ·rw [hxw,hr]; exact run_enterLoop_outer _ _ _ _ _
 ·simp only [resolve,hgv',Deferred.ofValue]
  simp [Act.eval,go_sem]
 ·simp [invoke,hname']
 ·have hc1:=(hcon W rfl rfl).2 v _ hv hvH hargs
  rw [hvw] at hc1
  have hc2:CallsIn (zF none) (0-1) P f (#[.func (.yield (y.w.heap.size+1)) #[] #[]]++us) x.w _:=callsIn_wide.2 hc1
  refine hc2.mono fun e w' ⟨u,v',rv,h',he',hvw',hvv,hvok,hvH',_,_,_,hp⟩=>?_
  subst he'
  subst hvw'
  obtain ⟨ys,st1,hcal',hruns,hQ⟩:=hpost _ _ _ rfl hp
  obtain ⟨_,κ',m1,m2,⟨z,st,i,k1,k2,k3,k4,k5,k6,k7,k8,k9⟩,m4,m5⟩:=hvok.obj 1000 _ (by rw [hvH']; exact hcal')
  have hb1:v'.β 1000=some (y.w.heap.size+1,1):=m1
  have hlz:z.H lid=some lp:=by rw [k5,Af,if_pos rfl]
  obtain ⟨_,b2,r2',n1,n2,_,_,_,n6,n7,_⟩:=k3.obj lid _ hlz
  rw [k7] at n1
  simp only [Option.some.injEq,Prod.mk.injEq,and_true] at n1
  subst n1
  rw [k1] at hruns
  cases hruns
  rw [k2] at n2
  have hend:=run_endLoop (P:=P) n2 (by rw [n6]; exact fun h=>by cases h)
  rw [← k2] at n2
  obtain ⟨u1,u2⟩:=Ge (st':=.exhausted) (pd':=r2'.pending) k3 hlz k7 n2
  have hr':({ r2' with state:=.exhausted,pending:=r2'.pending } : Loop) = { r2' with state:=.exhausted }:=rfl
  rw [hr'] at u1 u2
  obtain ⟨f1,f2⟩:=Fo u2 (AH (Hf st1 i)) (fun id o ho=>by
   show (if lid=id then _ else z.H id)=_
   by_cases hi:lid=id
   ·subst hi; rw [hdis2] at ho; cases ho
   ·rw [if_neg hi,k5,Af,if_neg hi]; exact ho) (nf i) (by show z.n≤nf i; rw [k6]; exact Nat.le_refl _)
  have hyz:=((hyx.trans k4).trans u1).trans f1
  have hsim:Be c0 ⟨s.e,Hf st1 i,nf i,s.N⟩ { a with defers:=[{ target:=.collected y.w.heap.size,args:=#[] }]++a.defers } (z.w.putObj (y.w.heap.size+1) (.loop { r2' with state:=.exhausted })):=by
   refine ⟨{ target:=.collected y.w.heap.size,args:=#[] } :: ds,by rw [← hdef]; rfl,hsz,_,rfl,⟨hle.le.trans hyz,⟨List.nodup_cons.2 ⟨fun hmem=>?_,hle.marks.1.1⟩,fun _ j oj hj=>?_⟩,fun d hd=>?_⟩,f2,rfl,rfl,he.mono hyz⟩
   ·obtain ⟨D,h1,_,h3,_⟩:=hle.marks.2 _ hmem
    have:=hok.S_lt D h3
    simp only [Deferred.mk.injEq,Target.collected.injEq] at h1
    omega
   ·cases hci:oj.isCal with
    | false=>rfl
    | true=>
     obtain ⟨o1,e1,_,e2,_⟩:=hyz.H j oj hj (.inr hci)
     rw [hH] at e1
     have:=Ko hno e1
     rw [Fl e2,hci] at this
     cases this
   ·have hxz:=(k4.trans u1).trans f1
    rcases List.mem_cons.1 hd with rfl | hd
    ·exact ⟨_,rfl,hle.le.size,hxz.S _ hxS,(hxz.blk _ (.inl hxS)).trans hDx⟩
    ·obtain ⟨D,h1,h2,h3,h4⟩:=hle.marks.2 d hd
     exact ⟨D,h1,h2,hyz.S D h3,(hyz.blk D (.inl h3)).trans h4⟩
  rw [k2] at hsim
  refine ⟨r2'.pending,_,hend,?_⟩
  split
  ·exact ⟨by simp,_,hQ i,hsim⟩
  ·rename_i c hp
   rw [n7] at hp
   cases hp
end
end Go.Proofs.YtmbjbecccheclaaDoor.Al

namespace Go.Proofs.YtmbjbecccheclaaDoor.Al
def m2 {σ:Type} (f:Int→Int→Option σ):List RV→Option σ
 | [.int .i64 a,.int .i64 b]=>f a b
 | _=>none
theorem Iz {σ:Type} {f:Int→Int→Option σ} {y:List RV} {r:σ} (h:m2 f y=some r) : ∃ a b,y=[.int .i64 a,.int .i64 b]∧f a b=some r:=by
 unfold m2 at h
 split at h
 ·exact ⟨_,_,rfl,h⟩
 ·cases h
def rng2 {σ:Type} (it:(List (List RV)→Option Bool)→Option (List (List RV))) (F:σ→Int→Int→Option σ) (st0:σ):Option σ:=
 (it (CF (fun s=>m2 (F s)) st0)).bind fun ys=>BT (fun s=>m2 (F s)) ys st0
section
variable {P:Program} {s:St}
theorem If {c:Code} {Q:Exit→St→Prop} (h:AW P c (fun e s=>∃ s',AG s s'∧Q e s') s):AW P c Q s:=
 fun z hz c0 a w hs=>wpIn_mono (h z hz c0 a w hs) fun _ _ _ ⟨ho,s1,⟨s2,h1,h2⟩,h3⟩=>⟨ho,s2,h2,h1 _ _ _ h3⟩
def Hs {σ:Type} (lid:Nat) (lp:AO) (Hf:σ→(Nat→Nat)→AL) (nf:(Nat→Nat)→Nat) (st':σ) (c:Bool) (h':AL) (n':Nat):Prop:=
 c=true ∧ ∃ i',(∀ id o,AH ((lid,some lp) :: Hf st' i') id=some o→AH h' id=some o)∧n'≤nf i'
theorem AW.rng2 {σ:Type} {g:Operand} {ps:Array Tmp} {asg bd:Code} {Q:Exit→St→Prop} {f:FuncId} {caps:List AV} {L:List Nat} {hB:AL} {it:(List (List RV)→Option Bool)→Option (List (List RV))} {F:σ→Int→Int→Option σ} {st0 st1:σ} (lid:Nat) (Hf:σ→(Nat→Nat)→AL) (nf:(Nat→Nat)→Nat) (i0:Nat→Nat)
  (hit:rng2 it F st0=some st1)
  (hgv:Cr s.e g = .fn f (BO (lid :: L) caps)) (hcc:Bt (L.length+1) caps=true) (hsh:By s.h (lid :: L) hB) (hB0:AH hB 1000=none) (hnd:(lid :: L).Nodup) (hno:Db s.h=true)
  (hsub:C2 (Hf st0 i0) s.h) (hdis:((lid :: L).all fun j=>(AH (Hf st0 i0) j).isNone)=true) (hdis2 : ∀ st i,AH (Hf st i) lid=none) (hn0:s.n+1≤nf i0) (hg : ∀ i,s.n<nf i) (hps:(ps.toList.length == 2 && ps.toList.all fun p=>Nat.blt p s.N)=true) (hndc:(An asg && An bd)=true)
  (hfn : ∃ fn, P.funcs[f]? = some fn ∧ fn.body.isNone = false ∧ (fn.name == "runtime.NumGoroutine") = false)
  (hcon : ∀ (W:B2) ys,W.P=P→it W.A=some ys → ∃ Post,BA P f (L.length+1) (.yld 1000 s.n :: caps) ((1000,some (.cal s.n W [])) :: hB) Post ∧ ∀ r h',Post r h'→AH h' 1000=some (.cal s.n W ys))
  (hround : ∀ (E:AP) (A B:Code),A=asg→B=bd → ∀ st a b st' i,F st a b=some st'→AW P asg (Cj P lid s.n bd (Hs lid (.lp s.n E s.N ps.toList A B .ready none) Hf nf st'))
   ⟨Ea ps.toList [.r (.int .i64 a),.r (.int .i64 b)] s.e,(lid,some (.lp s.n E s.N ps.toList A B .ready none)) :: Hf st i,nf i,s.N⟩)
  (hrest : ∀ i,Q .normal ⟨s.e,Hf st1 i,nf i,s.N⟩):AW P (.rangeFunc g ps asg bd) Q s:=by
 unfold Al.rng2 at hit
 rw [Option.bind_eq_some_iff] at hit
 obtain ⟨ys,hys,hruns⟩:=hit
 simp only [Bool.and_eq_true,beq_iff_eq] at hps
 refine Li (Post:=fun W r h'=>W.A=CF (fun s=>m2 (F s)) st0→AH h' 1000=some (.cal s.n W ys)) lid (fun s=>m2 (F s)) st0 Hf nf i0 hgv hcc hsh hB0 hnd hno hsub (fun j hj=>by
   have:=List.all_eq_true.1 hdis j hj
   simpa using this) hdis2 hn0 hg hps.2 hndc (fun W hP hA=>?_) (fun st y st' i hst=>?_) hfn (fun W r h' hA hp=>⟨ys,st1,hp hA,hruns,hrest⟩)
 ·obtain ⟨Post,h1,h2⟩:=hcon W ys hP (by rw [hA]; exact hys)
  refine ⟨h1.1,fun x vs hok hH ha=>(h1.2 x vs hok hH ha).mono fun e w' ⟨u,y,r,h',k1,k2,k3,k4,k5,k6,k7,k8,k9⟩=>⟨u,y,r,h',k1,k2,k3,k4,k5,k6,k7,k8,fun _=>h2 r h' k9⟩⟩
 ·obtain ⟨a,b,rfl,hF⟩:=Iz hst
  exact ⟨by simp [hps.1],hround s.e asg bd rfl rfl st a b st' i hF⟩
theorem Ik {σ:Type} {lid g N:Nat} {E:AP} {ps:List Nat} {A B:Code} {Hf:σ→(Nat→Nat)→AL} {nf:(Nat→Nat)→Nat} {t st':σ} (e:some t=some st') (i':Nat→Nat) (hh:s.h=(lid,some (.lp g E N ps A B .busy none)) :: Hf t i') (hn:s.n≤nf i') :
  DT lid g (Hs lid (.lp g E N ps A B .ready none) Hf nf st') .normal s:=by
 cases e
 refine ⟨E,N,ps,A,B,by rw [hh,Af,if_pos rfl],rfl,i',fun id o ho=>?_,hn⟩
 rw [Af] at ho ⊢
 split
 ·rename_i hi; rw [if_pos hi] at ho; exact ho
 ·rename_i hi
  rw [if_neg hi] at ho
  rw [hh,Af,if_neg hi]
  exact ho
theorem Ij {id g:Nat} {bd:Code} {C:Bool→AL→Nat→Prop} {e0:AP} {N:Nat} {ps:List Nat} {asg bd':Code} (hh:AH s.h id=some (.lp g e0 N ps asg bd' .ready none)) (hw:AW P bd (DT id g C) ⟨s.e,(id,some (.lp g e0 N ps asg bd' .busy none)) :: s.h,s.n,s.N⟩):Cj P id g bd C .normal s:=
 ⟨e0,N,ps,asg,bd',hh,hw⟩
end
section
variable {P:Program} {ops:Array Oper} {rest:List Oper} {s:St} {K:St→Prop} {o:Oper}
theorem Ar.step {d:Nat} {v:AV} {h':AL} {n':Nat} (hg:o.guard=none) (hd:o.dst=some d) (hN:Nat.blt d s.N=true) (hs:At P true o s.e s.h s.n v h' n')
  (hr:Ar P ops rest { e:=(d,v) :: s.e,h:=h',n:=n',N:=s.N } K):Ar P ops (o :: rest) s K:=
 Ar.cons (AA.step (K:=fun t=>t = { e:=(d,v) :: s.e,h:=h',n:=n',N:=s.N }) hg hd hN hs (AA.nil rfl)) fun s1 e=>e ▸ hr
end
section
variable {P:Program} {ops:Array Oper} {md:Region.Mode} {Q:Exit→Act→World→Prop} {S:World→Prop}
def CK (listed:Array Bool) (is:List Nat):Array Bool:=is.foldl (fun l i=>l.setIfInBounds i true) listed
end
section
variable {P:Program} {ops:Array Oper} {rest:List Oper} {s:St} {K:St→Prop} {o:Oper}
theorem Kv (is:List Nat) (l:Array Bool):(CK l is).size=l.size:=by
 induction is generalizing l with
 | nil=>rfl
 | cons i is ih=>show (CK (l.setIfInBounds i true) is).size=_; rw [ih]; simp
end
section
variable {P:Program} {o:Oper} {R:AP} {h:AL} {n:Nat}
end
end Go.Proofs.YtmbjbecccheclaaDoor.Al
namespace Go.Proofs.YtmbjbecccheclaaDoor.Al
def pick (l:List Oper):List Nat→List Oper
 | []=>[]
 | i :: is=>match l[i]? with
  | some o=>o :: pick l is
  | none=>pick l is
end Go.Proofs.YtmbjbecccheclaaDoor.Al
namespace Go.Proofs.YtmbjbecccheclaaDoor.Al
section
variable {P:Program} {o:Oper} {R:AP} {h:AL} {n:Nat}
end
structure PO where
 d:Option Nat
 v:(Nat→Nat)→AV
 hp:Option (Nat × ((Nat→Nat)→Option AO))
 dep:List Nat
def PO.wE (p:PO):Option (Nat × ((Nat→Nat)→AV)):=match p.d with | some d=>some (d,p.v) | none=>none
def PO.wH (p:PO):Option (Nat × ((Nat→Nat)→Option AO)):=p.hp
section
variable {α:Type} (wr:PO→Option (Nat × ((Nat→Nat)→α))) (D:Nat→Bool) (G:Nat→Nat)
def BH:List (Nat × α)→List PO→Nat→List (Nat × α)
 | e,[],_=>e
 | e,p :: L,k=>match D k with
  | true=>match wr p with
   | some (d,v)=>BH ((d,v G) :: e) L (k+1)
   | none=>BH e L (k+1)
  | false=>BH e L (k+1)
def Ct (t:Nat) (L:List PO) (k:Nat):Prop:=∀ (j:Nat) (p:PO) v,L[j]? = some p→D (k+j)=true→wr p≠some (t,v)
end
theorem Ct.tail {α:Type} {wr:PO→Option (Nat × ((Nat→Nat)→α))} {D:Nat→Bool} {t:Nat} {p:PO} {L:List PO} {k:Nat} (h:Ct wr D t (p :: L) k):Ct wr D t L (k+1):=
 fun j q v h1 h2=>h (j+1) q v (by simpa using h1) (by rwa [show k+(j+1)=k+1+j by omega])
section
variable {α:Type} {wr:PO→Option (Nat × ((Nat→Nat)→α))} {D:Nat→Bool} {G:Nat→Nat} {lk:List (Nat × α)→Nat→α} (hlk : ∀ d v R t,lk ((d,v) :: R) t=if d=t then v else lk R t)
include hlk
theorem DA {t:Nat} : ∀ (L:List PO) (e:List (Nat × α)) (k:Nat),Ct wr D t L k→lk (BH wr D G e L k) t=lk e t
 | [],_,_,_=>rfl
 | p :: L,e,k,h=>by
  unfold BH
  cases hD:D k with
  | false=>exact DA L e (k+1) h.tail
  | true=>
   cases hw:wr p with
   | none=>exact DA L e (k+1) h.tail
   | some q=>
    obtain ⟨d,v⟩:=q
    have hdt:d≠t:=fun e=>h 0 p v rfl hD (by rw [hw,e])
    exact (DA L _ (k+1) h.tail).trans (by rw [hlk,if_neg hdt])
theorem DU {t:Nat} {p:PO} {v:(Nat→Nat)→α} (hw:wr p=some (t,v)) : ∀ (L:List PO) (e:List (Nat × α)) (k j:Nat),L[j]? = some p→D (k+j)=true→Ct wr D t (L.drop (j+1)) (k+j+1)→lk (BH wr D G e L k) t=v G
 | [],_,_,_,h,_,_=>by simp at h
 | q :: L,e,k,0,h1,h2,h3=>by
  cases h1
  unfold BH
  rw [show D k=true from h2,hw]
  exact (DA hlk L _ (k+1) (by simpa using h3)).trans (by rw [hlk,if_pos rfl])
 | q :: L,e,k,j+1,h1,h2,h3=>by
  have h1':L[j]? = some p:=by simpa using h1
  have h2':D (k+1+j)=true:=by rwa [show k+1+j=k+(j+1) by omega]
  have h3':Ct wr D t (L.drop (j+1)) (k+1+j+1):=by rw [show k+1+j+1=k+(j+1)+1 by omega]; simpa using h3
  unfold BH
  cases D k with
  | false=>exact DU hw L e (k+1) j h1' h2' h3'
  | true=>
   cases wr q with
   | none=>exact DU hw L e (k+1) j h1' h2' h3'
   | some r=>exact DU hw L _ (k+1) j h1' h2' h3'
theorem CZ {t:Nat} {D':Nat→Bool} {G':Nat→Nat} : ∀ (L:List PO) (e e':List (Nat × α)) (k:Nat),lk e' t=lk e t →
  (∀ (j:Nat) (p:PO) v,L[j]? = some p→wr p=some (t,v)→D' (k+j)=D (k+j)∧(D (k+j)=true→v G'=v G))→lk (BH wr D' G' e' L k) t=lk (BH wr D G e L k) t
 | [],_,_,_,h,_=>h
 | p :: L,e,e',k,h,hw=>by
  have ht : ∀ (j:Nat) (q:PO) v,L[j]? = some q→wr q=some (t,v)→D' (k+1+j)=D (k+1+j)∧(D (k+1+j)=true→v G'=v G):=fun j q v h1 h2=>by
   have:=hw (j+1) q v (by simpa using h1) h2
   rwa [show k+(j+1)=k+1+j by omega] at this
  unfold BH
  cases hp:wr p with
  | none=>
   have ih:=CZ L e e' (k+1) h ht
   cases D' k <;> cases D k <;> exact ih
  | some q=>
   obtain ⟨d,v⟩:=q
   by_cases hdt:d=t
   ·subst hdt
    obtain ⟨h1,h2⟩:=hw 0 p v rfl hp
    rw [Nat.add_zero] at h1 h2
    rw [h1]
    cases hD:D k with
    | false=>exact CZ L e e' (k+1) h ht
    | true=>exact CZ L _ _ (k+1) (by rw [hlk,hlk,if_pos rfl,if_pos rfl,h2 hD]) ht
   ·have e1:lk ((d,v G') :: e') t=lk e' t:=by rw [hlk,if_neg hdt]
    have e2:lk ((d,v G) :: e) t=lk e t:=by rw [hlk,if_neg hdt]
    cases D' k <;> cases D k
    ·exact CZ L _ _ (k+1) h ht
    ·exact CZ L _ _ (k+1) (by rw [e2]; exact h) ht
    ·exact CZ L _ _ (k+1) (by rw [e1]; exact h) ht
    ·exact CZ L _ _ (k+1) (by rw [e1,e2]; exact h) ht
end
abbrev Bf (D:Nat→Bool) (G:Nat→Nat) (e:AP) (L:List PO):AP:=BH PO.wE D G e L 0
abbrev CH (D:Nat→Bool) (G:Nat→Nat) (h:AL) (L:List PO):AL:=BH PO.wH D G h L 0
def BP (G:Nat→Nat) (i n:Nat):Nat→Nat:=fun k=>if k=i then n else G k
section
variable {P:Program} {ops:Array Oper}
def wt (ops:Array Oper):Nat→Nat→Nat→Bool
 | 0,_,_=>false
 | f+1,j,i=>Region.waitsFor .any ops j i || (List.range j).any fun m=>Region.waitsFor .any ops j m && wt ops f m i
def Cl (ops:Array Oper) (D:Nat→Bool):Prop:=∀ j k,D j=true→Region.waitsFor .any ops j k=true→D k=true
theorem Cl.wt {D:Nat→Bool} (h:Cl ops D) : ∀ (f j i:Nat),Al.wt ops f j i=true→D j=true→D i=true
 | 0,_,_,h1,_=>by cases h1
 | f+1,j,i,h1,h2=>by
  unfold Al.wt at h1
  rw [Bool.or_eq_true] at h1
  rcases h1 with h1 | h1
  ·exact h j i h2 h1
  ·obtain ⟨m,_,h3⟩:=List.any_eq_true.1 h1
   rw [Bool.and_eq_true] at h3
   exact h.wt f m i h3.2 (h j m h2 h3.1)
structure Bg (ops:Array Oper) (D:Nat→Bool) (i:Nat):Prop where
 cl:Cl ops D
 hw : ∀ k,Region.waitsFor .any ops i k=true→D k=true
 un:D i=false
theorem Bg.yes {D:Nat→Bool} {i:Nat} (h:Bg ops D i) {k:Nat} (hk:Al.wt ops 40 i k=true):D k=true:=by
 unfold Al.wt at hk
 rw [Bool.or_eq_true] at hk
 rcases hk with hk | hk
 ·exact h.hw k hk
 ·obtain ⟨m,_,h3⟩:=List.any_eq_true.1 hk
  rw [Bool.and_eq_true] at h3
  exact h.cl.wt 39 m k h3.2 (h.hw m h3.1)
def B1 (c0:Cx) (s:St) (L:List PO) (listed:Array Bool) (a:Act) (w:World):Prop:=
 ∃ ds,a.defers=ds∧a.tmps.size=s.N ∧ ∃ (y:Cx) (G:Nat→Nat),y.w=w∧c0.leM ds y∧y.ok∧(∀ id,y.H id=AH (CH (fun k=>listed.getD k false) G s.h L) id) ∧
  (∀ t,AJ y (get (Bf (fun k=>listed.getD k false) G s.e L) t) (a.tmps.getD t undef))
def C9 (P:Program) (o:Oper) (R:AP) (h:AL) (n:Nat) (v:AV) (h':AL):Prop:=
 ∀ (x:Cx) (a:Act),x.ok→x.H=AH h→x.n=n→Aq x R a → ∀ (K:Act→World→Prop) (Q:Exit→Act→World→Prop),
  (∀ (u:Value) (y:Cx),x.le y→y.ok→y.H=AH h'→AJ y v u→K (a.put o.dst u) y.w)→o.wp P a x.w K Q
theorem At.toN {o:Oper} {R:AP} {h:AL} {n:Nat} {v:AV} {h':AL} {n':Nat} (hs:At P true o R h n v h' n'):C9 P o R h n v h':=
 fun x a h1 h2 h3 h4 K Q hK=>hs rfl x a h1 h2 h3 h4 K Q fun u y k1 k2 k3 _ k5=>hK u y k1 k2 k3 k5
theorem BZ.same {R R':AP} {o:Oper} {c:Bool} (h:BZ R ops o c) (hR : ∀ t,get R' t=get R t):BZ R' ops o c:=by
 cases h with
 | one hg hj hb=>exact .one hg hj ((hR _).trans hb)
 | two hg hj hb=>exact .two hg hj ((hR _).trans hb)
def Ob (P:Program) (ops:Array Oper) (s:St) (L:List PO) (i:Nat) (p:PO) (o:Oper):Prop:=
 o.dst=p.d∧(∀ d,p.d=some d→Nat.blt d s.N=true) ∧ ∀ (D:Nat→Bool) (G:Nat→Nat) (e:AP) (h:AL) (n:Nat),Bg ops D i →
  (∀ t,get e t=get (Bf D G s.e L) t)→(∀ id,AH h id=AH (CH D G s.h L) id) →
  (o.guard=none ∧ ∃ h',C9 P o e h n (p.v (BP G i n)) h'∧(∀ id,AH h' id=match p.hp with | some (j,ob)=>if j=id then ob (BP G i n) else AH h id | none=>AH h id)) ∨
  (p.hp=none ∧ ∃ c v0,p.v (BP G i n) = .whn c v0∧BZ e ops o c∧(c=true → ∃ h2,C9 P o e h n v0 h2 ∧ ∀ id,AH h2 id=AH h id))
def Dh (L:List PO) (t:Nat):Bool:=L.all fun p=>match p.d with | some d=>!Nat.beq d t | none=>true
def Ci:List PO→Bool
 | []=>true
 | p :: L=>(match p.d with | some d=>Dh L d | none=>true) && Ci L
def Ei (ops:Array Oper) (L:List PO):Bool:=(List.range L.length).all fun j=>(List.range j).all fun i=>match L[i]?.bind (·.hp),L[j]?.bind (·.hp) with
 | some (a,_),some (b,_)=>!Nat.beq a b || wt ops 40 j i
 | _,_=>true
theorem Iu {L:List PO} {t:Nat} (h:Dh L t=true) {j:Nat} {p:PO} (hj:L[j]? = some p):p.d≠some t:=fun hd=>by
 have:=List.all_eq_true.1 h p (List.mem_of_getElem? hj)
 rw [hd] at this
 simp at this
theorem Hy {p:PO} {t:Nat} {v} (h:p.wE=some (t,v)):p.d=some t∧v=p.v:=by
 unfold PO.wE at h
 split at h
 ·rename_i d hd; simp only [Option.some.injEq,Prod.mk.injEq] at h; rw [hd,h.1]; exact ⟨rfl,h.2.symm⟩
 ·cases h
theorem Hn {p:PO} {t:Nat} (h:p.d=some t):p.wE=some (t,p.v):=by unfold PO.wE; rw [h]
theorem IW {p:PO} {t:Nat} {v} (h:p.wH=some (t,v)) : ∃ ob,p.hp=some (t,ob)∧v=ob:=⟨v,h,rfl⟩
theorem J0 {p:PO} {t:Nat} {ob} (h:p.hp=some (t,ob)):p.wH=some (t,ob):=h
theorem G5 : ∀ {L:List PO},Ci L=true → ∀ {j:Nat} {p:PO} {t:Nat},L[j]? = some p→p.d=some t→Dh (L.drop (j+1)) t=true
 | [],_,_,_,_,h,_=>by simp at h
 | q :: L,h,0,p,t,h1,h2=>by
  cases h1
  simp only [Ci,Bool.and_eq_true,h2] at h
  simpa using h.1
 | q :: L,h,j+1,p,t,h1,h2=>by
  simp only [Ci,Bool.and_eq_true] at h
  simpa using G5 h.2 (j:=j) (by simpa using h1) h2
theorem Gg {L:List PO} {t:Nat} (h:Dh L t=true) {D:Nat→Bool} {k:Nat} : Ct PO.wE D t L k:=fun _ _ _ h1 _ h3=>Iu h h1 (Hy h3).1
theorem I6 {L:List PO} (hB:Ei ops L=true) {D:Nat→Bool} (hcl:Cl ops D) {i:Nat} {p:PO} {t:Nat} {ob} (hp:L[i]? = some p) (ht:p.hp=some (t,ob)) (hun:D i=false):Ct PO.wH D t (L.drop (i+1)) (i+1):=by
 intro j q v h1 h2 h3
 obtain ⟨Iw,h4,_⟩:=IW h3
 rw [List.getElem?_drop] at h1
 have hlt:i+1+j<L.length:=(List.getElem?_eq_some_iff.1 h1).1
 have:=List.all_eq_true.1 (List.all_eq_true.1 hB (i+1+j) (List.mem_range.2 hlt)) i (List.mem_range.2 (by omega))
 simp only [hp,h1,Option.bind_some,ht,h4,Bool.or_eq_true,Bool.not_eq_true'] at this
 rcases this with h5 | h5
 ·simp at h5
 ·have:=hcl.wt 40 _ _ h5 h2
  rw [hun] at this; cases this
def D4 (ops:Array Oper) (L:List PO):Bool:=(List.range L.length).all fun j=>match L[j]? with
 | some p=>p.dep.all fun k=>Nat.beq k j || wt ops 40 j k
 | none=>true
def Cs:List PO→Prop
 | []=>True
 | p :: L=>(∀ G G':Nat→Nat,(∀ k,p.dep.contains k=true→G k=G' k)→p.v G'=p.v G ∧ ∀ id ob,p.hp=some (id,ob)→ob G'=ob G)∧Cs L
theorem Cs.at : ∀ {L:List PO},Cs L → ∀ {j:Nat} {p:PO},L[j]? = some p → ∀ G G':Nat→Nat,(∀ k,p.dep.contains k=true→G k=G' k)→p.v G'=p.v G ∧ ∀ id ob,p.hp=some (id,ob)→ob G'=ob G
 | _ :: _,h,0,_,hj=>by cases hj; exact h.1
 | _ :: _,h,j+1,_,hj=>Cs.at h.2 (j:=j) (by simpa using hj)
theorem Jr {L:List PO} (hB:D4 ops L=true) {D:Nat→Bool} (hcl:Cl ops D) {j:Nat} {p:PO} (hp:L[j]? = some p) (hl:D j=true) {k:Nat} (hk:p.dep.contains k=true):D k=true:=by
 have hlt:j<L.length:=(List.getElem?_eq_some_iff.1 hp).1
 have h1:=List.all_eq_true.1 hB j (List.mem_range.2 hlt)
 simp only [hp] at h1
 have h2:=List.all_eq_true.1 h1 k (by simpa using hk)
 simp only [Bool.or_eq_true] at h2
 rcases h2 with h2 | h2
 ·rw [Nat.eq_of_beq_eq_true h2]; exact hl
 ·exact hcl.wt 40 _ _ h2 hl
theorem B1.put {c0:Cx} {s:St} {L:List PO} {listed:Array Bool} {a:Act} {i:Nat} {p:PO} {y z:Cx} {G:Nat→Nat} {u:Value} (hp:L[i]? = some p) (hN : ∀ d,p.d=some d→Nat.blt d s.N=true) (hE:Ci L=true) (hH:Ei ops L=true)
  (hD:D4 ops L=true) (hLoc:Cs L) (hi:i<listed.size) (hr:Bg ops (fun k=>listed.getD k false) i) {ds:List Deferred} (hdef:a.defers=ds) (hsz:a.tmps.size=s.N) (hle:c0.leM ds y)
  (he : ∀ t,AJ y (get (Bf (fun k=>listed.getD k false) G s.e L) t) (a.tmps.getD t undef)) (hyz:y.le z) (hzok:z.ok)
  (hzH : ∀ id,z.H id=match p.hp with | some (j,ob)=>if j=id then ob (BP G i y.n) else AH (CH (fun k=>listed.getD k false) G s.h L) id | none=>AH (CH (fun k=>listed.getD k false) G s.h L) id)
  (hv:AJ z (p.v (BP G i y.n)) u):B1 c0 s L (listed.setIfInBounds i true) (a.put p.d u) z.w:=by
 have hD' : ∀ k,(listed.setIfInBounds i true).getD k false=(listed.getD k false || decide (k=i)):=fun k=>by
  by_cases hk:i=k
  ·subst hk; simp [hi]
  ·rw [getD_set_ne false hk]; simp [Ne.symm hk]
 have hsame : ∀ k,k≠i→(listed.setIfInBounds i true).getD k false=listed.getD k false:=fun k hk=>by rw [hD']; simp [hk]
 have hval : ∀ (j:Nat) (q:PO),L[j]? = some q→listed.getD j false=true→q.v (BP G i y.n)=q.v G ∧ ∀ id ob,q.hp=some (id,ob)→ob (BP G i y.n)=ob G:=fun j q hj hl=>by
  refine hLoc.at hj G _ fun k hk=>?_
  have hlk:=Jr hD hr.cl hj hl hk
  have:k≠i:=fun e=>by subst e; rw [hr.un] at hlk; cases hlk
  simp [BP,this]
 have hdi:(fun k=>(listed.setIfInBounds i true).getD k false) (0+i)=true:=by show (listed.setIfInBounds i true).getD (0+i) false=true; rw [Nat.zero_add,hD']; simp
 refine ⟨ds,by cases hdd:p.d <;> simpa [Act.put,hdd] using hdef,?_,z,BP G i y.n,rfl,hle.trans hyz,hzok,fun id=>?_,fun t=>?_⟩
 ·cases hdd:p.d <;> simpa [Act.put,hdd] using hsz
 ·rw [hzH]
  have rest:(∀ ob,p.hp≠some (id,ob))→AH (CH (fun k=>listed.getD k false) G s.h L) id=AH (CH (fun k=>(listed.setIfInBounds i true).getD k false) (BP G i y.n) s.h L) id:=fun hne=>by
   refine (CZ Af L _ _ 0 rfl fun j q v h1 h2=>?_).symm
   obtain ⟨ob,h4,h5⟩:=IW h2
   have hji:j≠i:=fun e=>by subst e; rw [hp] at h1; cases h1; exact hne ob h4
   rw [Nat.zero_add]
   exact ⟨hsame j hji,fun hl=>by rw [h5]; exact (hval j q h1 hl).2 id ob h4⟩
  cases hhp:p.hp with
  | none=>exact rest fun ob=>by rw [hhp]; simp
  | some r=>
   obtain ⟨j,ob⟩:=r
   by_cases hj:j=id
   ·subst hj
    simp only [if_true]
    have hlater:=I6 hH hr.cl hp hhp hr.un
    refine (DU Af (J0 hhp) L _ 0 i hp hdi ?_).symm
    rw [Nat.zero_add]
    intro m q v h1 h2 h3
    exact hlater m q v h1 ((hsame _ (by omega)).symm.trans h2) h3
   ·simp only [if_neg hj]
    exact rest fun ob'=>by rw [hhp]; intro e; cases e; exact hj rfl
 ·by_cases hpt:p.d=some t
  ·have e1:get (Bf (fun k=>(listed.setIfInBounds i true).getD k false) (BP G i y.n) s.e L) t=p.v (BP G i y.n):=
    DU Bc (Hn hpt) L _ 0 i hp hdi (Gg (G5 hE hp hpt))
   have hN':t<a.tmps.size:=by rw [hsz]; exact Bo (hN t hpt)
   rw [e1,hpt]
   simp only [Act.put,Ez hN',if_true]
   exact hv
  ·have e1:get (Bf (fun k=>(listed.setIfInBounds i true).getD k false) (BP G i y.n) s.e L) t=get (Bf (fun k=>listed.getD k false) G s.e L) t:=by
    refine CZ Bc L _ _ 0 rfl fun j q v h1 h2=>?_
    obtain ⟨h4,h5⟩:=Hy h2
    have hji:j≠i:=fun e=>by subst e; rw [hp] at h1; cases h1; exact hpt h4
    rw [Nat.zero_add]
    exact ⟨hsame j hji,fun hl=>by rw [h5]; exact (hval j q h1 hl).1⟩
   rw [e1]
   have h0:=(he t).mono hyz
   cases hdd:p.d with
   | none=>exact h0
   | some d=>
    have hdt:d≠t:=fun e=>hpt (by rw [hdd,e])
    have hN':d<a.tmps.size:=by rw [hsz]; exact Bo (hN d hdd)
    simp only [Act.put,Ez hN',if_neg hdt]
    exact h0
theorem B1.step {c0:Cx} {s:St} {L:List PO} {listed:Array Bool} {a:Act} {w:World} {i:Nat} {p:PO} {o:Oper} {Q:Exit→Act→World→Prop} (hp:L[i]? = some p) (ho:ops[i]? = some o) (hOb:Ob P ops s L i p o) (hE:Ci L=true) (hH:Ei ops L=true)
  (hD:D4 ops L=true) (hLoc:Cs L) (hi:i<listed.size) (hr:Bg ops (fun k=>listed.getD k false) i) (hinv:B1 c0 s L listed a w) :
  wpOp P ops Q i (B1 c0 s L (listed.setIfInBounds i true)) a w:=by
 obtain ⟨_,hdef,hsz,y,G,hyw,hle,hok,hyH,he⟩:=hinv
 subst hyw
 obtain ⟨hd,hN,hob⟩:=hOb
 unfold wpOp
 simp only [ho]
 rcases hob (fun k=>listed.getD k false) G _ _ y.n hr (fun t=>rfl) (fun id=>rfl) with ⟨hg,h',hspec,hh'⟩ | ⟨hhp,c,v0,hv0,hG,hspec⟩
 ·rw [if_pos (by simp [Region.wanted,hg])]
  refine .inl (hspec y a hok (funext fun id=>hyH id) rfl (fun t=>he t) _ Q fun u z hyz hzok hzH hv=>?_)
  rw [hd]
  exact B1.put hp hN hE hH hD hLoc hi hr hdef hsz hle he hyz hzok (fun id=>by rw [hzH]; exact hh' id) hv
 ·have hw:Region.wanted o (yielded ops a.tmps)=c:=BZ.wanted (s:=⟨_,[],0,0⟩) hG (fun t=>he t)
  rw [hw]
  cases c with
  | true=>
   obtain ⟨h2,hs2,hh2⟩:=hspec rfl
   rw [if_pos rfl]
   refine .inl (hs2 y a hok (funext fun id=>hyH id) rfl (fun t=>he t) _ Q fun u z hyz hzok hzH hv=>?_)
   rw [hd]
   refine B1.put hp hN hE hH hD hLoc hi hr hdef hsz hle he hyz hzok (fun id=>by rw [hzH,hhp]; exact hh2 id) ?_
   rw [hv0]; exact .whn (fun _=>hv) (fun h=>by cases h)
  | false=>
   rw [if_neg (by decide),hd]
   refine B1.put hp hN hE hH hD hLoc hi hr hdef hsz hle he (.refl y) hok (fun id=>by rw [hhp]; exact hyH id) ?_
   rw [hv0]; exact .whn (fun h=>by cases h) (fun _=>rfl)
def Eh (e:AP):AP→Prop
 | []=>True
 | (t,a) :: r=>get e t=a∧Eh e r
def EM (e:AL):AL→Prop
 | []=>True
 | (t,a) :: r=>AH e t=a∧EM e r
theorem Er {e0 e:AP} (he : ∀ t,get e t=get e0 t) : ∀ (r:AP),Eh e0 r → ∀ t,get (r++e) t=get e0 t
 | [],_,t=>he t
 | (t0,a) :: r,⟨h1,h2⟩,t=>by
  rw [List.cons_append,Bc]
  split
  ·rename_i ht; subst ht; exact h1.symm
  ·exact Er he r h2 t
theorem GY {e0 e:AL} (he : ∀ t,AH e t=AH e0 t) : ∀ (r:AL),EM e0 r → ∀ t,AH (r++e) t=AH e0 t
 | [],_,t=>he t
 | (t0,a) :: r,⟨h1,h2⟩,t=>by
  rw [List.cons_append,Af]
  split
  ·rename_i ht; subst ht; exact h1.symm
  ·exact GY he r h2 t
theorem C9.same {o:Oper} {R R':AP} {h h':AL} {n:Nat} {v:AV} {h2:AL} (hs:C9 P o R h n v h2) (hR : ∀ t,get R' t=get R t) (hh : ∀ id,AH h' id=AH h id):C9 P o R' h' n v h2:=by
 intro x a hok hH hn he K Q hK
 exact hs x a hok (by rw [hH]; exact funext hh) hn (fun t=>by rw [← hR]; exact he t) K Q hK
theorem Lj {s:St} {L:List PO} {i:Nat} {p:PO} {o:Oper} (hg:o.guard=none) (hd:o.dst=p.d) (hN : ∀ d,p.d=some d→Nat.blt d s.N=true) (hp:p.hp=none) (ie:(Nat→Nat)→AP) (ih:(Nat→Nat)→AL)
  (hE : ∀ D G,Bg ops D i→Eh (Bf D G s.e L) (ie G)) (hH : ∀ D G,Bg ops D i→EM (CH D G s.h L) (ih G))
  (hv : ∀ G n,p.v (BP G i n)=p.v G) (h : ∀ G e h' n,∃ h2,C9 P o (ie G++e) (ih G++h') n (p.v G) h2 ∧ ∀ id,AH h2 id=AH (ih G++h') id):Ob P ops s L i p o:=by
 refine ⟨hd,hN,fun D G e h' n hr he hh=>.inl ⟨hg,?_⟩⟩
 have g1:=Er he _ (hE D G hr)
 have g2:=GY hh _ (hH D G hr)
 obtain ⟨h2,k1,k2⟩:=h G e h' n
 refine ⟨h2,?_,fun id=>by rw [hp,k2,g2,hh]⟩
 rw [hv]
 exact k1.same (fun t=>by rw [g1,he]) (fun id=>by rw [g2,hh])
theorem DO {s:St} {L:List PO} {i:Nat} {p:PO} {o:Oper} {n1:Nat→Nat} (hg:o.guard=none) (hd:o.dst=p.d) (hN : ∀ d,p.d=some d→Nat.blt d s.N=true) (hp:p.hp=none) (ie:(Nat→Nat)→AP) (ih:(Nat→Nat)→AL)
  (hE : ∀ D G,Bg ops D i→Eh (Bf D G s.e L) (ie G)) (hH : ∀ D G,Bg ops D i→EM (CH D G s.h L) (ih G))
  (hv : ∀ G n,p.v (BP G i n)=p.v G) (h : ∀ G e h' n,At P true o (ie G++e) (ih G++h') n (p.v G) (ih G++h') (n1 n)):Ob P ops s L i p o:=
 Lj hg hd hN hp ie ih hE hH hv fun G e h' n=>⟨_,(h G e h' n).toN,fun _=>rfl⟩
theorem Bj {s:St} {L:List PO} {i:Nat} {p:PO} {o:Oper} {c:Bool} {v0:(Nat→Nat)→AV} {n1:Nat→Nat} (hd:o.dst=p.d) (hN : ∀ d,p.d=some d→Nat.blt d s.N=true) (hp:p.hp=none) (ie:(Nat→Nat)→AP) (ih:(Nat→Nat)→AL)
  (hE : ∀ D G,Bg ops D i→Eh (Bf D G s.e L) (ie G)) (hH : ∀ D G,Bg ops D i→EM (CH D G s.h L) (ih G))
  (hv : ∀ G n,p.v (BP G i n) = .whn c (v0 G)) (hg : ∀ G e,BZ (ie G++e) ops o c) (h : ∀ G e h' n,At P c o (ie G++e) (ih G++h') n (v0 G) (ih G++h') (n1 n)):Ob P ops s L i p o:=by
 refine ⟨hd,hN,fun D G e h' n hr he hh=>.inr ⟨hp,c,v0 G,hv G n,?_,fun hc=>?_⟩⟩
 ·exact (hg G e).same fun t=>by rw [Er he _ (hE D G hr),he]
 ·have g1:=Er he _ (hE D G hr)
  have g2:=GY hh _ (hH D G hr)
  subst hc
  exact ⟨_,(h G e h' n).toN.same (fun t=>by rw [g1,he]) (fun id=>by rw [g2,hh]),fun id=>by rw [g2,hh]⟩
end
section
variable {ops:Array Oper} {D:Nat→Bool} {G:Nat→Nat} {e:AP} {h:AL} {L:List PO} {t:Nat}
theorem FM (hB:Dh L t=true) {a:AV} (ha:get e t=a):get (Bf D G e L) t=a:=(DA Bc L e 0 (Gg hB)).trans ha
theorem Ai {i:Nat} (hr:Bg ops D i) (j:Nat) {p:PO} {a:AV} (hj:L[j]? = some p) (hd:p.d=some t) (hw:wt ops 40 i j=true) (hB:Dh (L.drop (j+1)) t=true) (ha:p.v G=a):get (Bf D G e L) t=a:=
 (DU Bc (Hn hd) L e 0 j hj (by rw [Nat.zero_add]; exact hr.yes hw) (Gg hB)).trans ha
end
section
variable {P:Program} {ops:Array Oper}
def Hj (ops:Array Oper) (n:Nat):Bool:=(List.range n).all fun i=>match ops[i]? with | some o=>o.after.all fun e=>!Region.binds .any e || decide (e.on<i) | none=>false
def Dp (P:Program) (ops:Array Oper) (s:St) (L0:List PO):Nat→List PO→List Oper→Prop
 | _,[],_=>True
 | _,_ :: _,[]=>False
 | i,p :: L,o :: l=>Ob P ops s L0 i p o∧Dp P ops s L0 (i+1) L l
theorem Dp.at {s:St} {L0:List PO} : ∀ {L:List PO} {l:List Oper} {i0:Nat},Dp P ops s L0 i0 L l → ∀ {j:Nat} {p:PO} {o:Oper},L[j]? = some p→l[j]? = some o→Ob P ops s L0 (i0+j) p o
 | _ :: _,_ :: _,i0,h,0,_,_,h1,h2=>by cases h1; cases h2; exact h.1
 | _ :: L,_ :: l,i0,h,j+1,p,o,h1,h2=>by
  have:=Dp.at (j:=j) h.2 (p:=p) (o:=o) (by simpa using h1) (by simpa using h2)
  rwa [show i0+(j+1)=i0+1+j by omega]
 | _ :: _,[],_,h,_,_,_,_,_=>h.elim
 | [],_,_,_,_,_,_,h1,_=>by simp at h1
def BI (listed:Array Bool):Nat→Nat
 | 0=>0
 | n+1=>BI listed n+(if listed.getD n false then 0 else 1)
theorem HF {listed:Array Bool} {i:Nat} (hi:i<listed.size) (hun:listed.getD i false=false) : ∀ n,BI (listed.setIfInBounds i true) n+(if i<n then 1 else 0)=BI listed n
 | 0=>by simp [BI]
 | n+1=>by
  have ih:=HF hi hun n
  unfold BI
  by_cases hin:i=n
  ·subst hin
   rw [hun]
   have:(listed.setIfInBounds i true).getD i false=true:=by simp [hi]
   rw [this]
   simp at ih ⊢
   exact ih
  ·rw [getD_set_ne false hin]
   have:(i<n+1)↔(i<n):=by omega
   simp only [this]
   omega
theorem H6 {listed : Array Bool} : ∀ {n : Nat}, 0 < BI listed n → ∃ i, i < n ∧ listed.getD i false = false ∧ ∀ j, j < i → listed.getD j false = true
  | 0, h => by simp [BI] at h
  | n + 1, h => by
    by_cases h0 : 0 < BI listed n
    · obtain ⟨i, h1, h2, h3⟩ := H6 h0
      exact ⟨i, by omega, h2, h3⟩
    · have hall : ∀ m, m ≤ n → BI listed m = 0 := by
        intro m hm
        have : BI listed m ≤ BI listed n := by
          clear h h0
          induction n with
          | zero => have : m = 0 := by omega
                    subst this; exact Nat.le_refl _
          | succ n ih =>
            by_cases hmn : m = n + 1
            · subst hmn; exact Nat.le_refl _
            · exact Nat.le_trans (ih (by omega)) (Nat.le_add_right ..)
        omega
      unfold BI at h
      refine ⟨n, by omega, ?_, fun j hj => ?_⟩
      · cases hl : listed.getD n false with
        | false => rfl
        | true => rw [hl] at h; simp at h; omega
      · have := hall (j + 1) (by omega)
        unfold BI at this
        cases hl : listed.getD j false with
        | true => rfl
        | false => rw [hl] at this; simp at this
theorem HE {listed:Array Bool} : ∀ {n:Nat},BI listed n=0 → ∀ j,j<n→listed.getD j false=true
 | 0,_,j,hj=>by omega
 | n+1,h,j,hj=>by
  unfold BI at h
  by_cases hjn:j=n
  ·subst hjn
   cases hl:listed.getD j false with
   | true=>rfl
   | false=>rw [hl] at h; simp at h
  ·exact HE (n:=n) (by omega) j (by omega)
theorem IP {listed:Array Bool} (h : ∀ j,listed.getD j false=false) : ∀ n,BI listed n=n
 | 0=>rfl
 | n+1=>by unfold BI; rw [IP h n,h n]; simp
theorem JO {c0:Cx} {s:St} {L:List PO} {n g:Nat} {l:List Oper} {Q:Exit→Act→World→Prop} (hl:l.toArray=ops) (hn0:n=ops.size∨(n<ops.size∧Region.sinkB .any ops n=true∧Region.chainB .any ops n=true)) (hLn:L.length=n) (hback:Hj ops n=true)
  (hD:D4 ops L=true) (hE:Ci L=true) (hH:Ei ops L=true) (hLoc:Cs L) (hOb:Dp P ops s L 0 L l)
  (hend : ∀ listed a w,HeadInv .any ops n listed→(∀ j,j<n→listed.getD j false=true)→B1 c0 s L listed a w→wpAny P .any ops Q g listed a w) :
  ∀ (f:Nat) (listed:Array Bool) (a:Act) (w:World),BI listed n=f→HeadInv .any ops n listed→B1 c0 s L listed a w→wpAny P .any ops Q (f+g) listed a w:=by
 have hn:n≤ops.size:=by rcases hn0 with h | h <;> omega
 intro f
 induction f with
 | zero=>
  intro listed a w hcnt inv hinv
  rw [Nat.zero_add]
  exact hend listed a w inv (HE hcnt) hinv
 | succ f ih=>
  intro listed a w hcnt inv hinv
  rw [show f+1+g=(f+g)+1 by omega]
  obtain ⟨i0,hi0,hun0,hbefore⟩:=H6 (listed:=listed) (n:=n) (by omega)
  have hs0:i0<listed.size:=by rw [inv.size]; omega
  have hready0:i0∈Region.ready .any ops listed:=by
   refine mem_ready.2 ⟨getD_in hs0 hun0,?_⟩
   have hio : ∃ o,ops[i0]? = some o:=⟨ops[i0]'(by omega),by simp [Array.getElem?_eq_getElem (show i0<ops.size by omega)]⟩
   obtain ⟨o,ho⟩:=hio
   refine ⟨o,ho,fun e he hb=>?_⟩
   have h1:=List.all_eq_true.1 hback i0 (List.mem_range.2 hi0)
   simp only [ho] at h1
   have h2:=(Array.all_eq_true_iff_forall_mem.1 h1) e he
   simp only [hb,Bool.not_true,Bool.false_or,decide_eq_true_eq] at h2
   exact hbefore _ h2
  refine ⟨fun h=>(by rw [h] at hready0; cases hready0),fun i hi=>?_⟩
  have hin:i<n:=by
   rcases Nat.lt_or_ge i n with h | h
   ·exact h
   ·rcases hn0 with e | ⟨hn1,hs,hc⟩
    ·obtain ⟨_,o,ho,_⟩:=mem_ready.1 hi
     have:=(Array.getElem?_eq_some_iff.1 ho).1
     omega
    ·exact absurd hi (tail_waits hs hc hn1 inv _ i0 rfl hi0 (getD_in hs0 hun0) i h)
  obtain ⟨hun,o,ho,hall⟩:=mem_ready.1 hi
  have hunf:=getD_both hun
  have his:i<listed.size:=by rw [inv.size]; omega
  obtain ⟨p,hp⟩ : ∃ p,L[i]? = some p:=⟨L[i]'(by omega),by simp [List.getElem?_eq_getElem (show i<L.length by omega)]⟩
  have hol:l[i]? = some o:=by rw [← ho,← hl]; simp
  have hob:=hOb.at hp hol
  rw [Nat.zero_add] at hob
  have hrd:Bg ops (fun k=>listed.getD k false) i:=by
   refine ⟨fun j k hj hk=>?_,fun k hk=>?_,hunf⟩
   ·obtain ⟨oj,hoj,e,he,hb,hon⟩:=Region.waitsFor_spec hk
    rw [← hon]; exact inv.closed j oj hoj hj e he hb
   ·obtain ⟨oi,hoi,e,he,hb,hon⟩:=Region.waitsFor_spec hk
    have:oi=o:=Option.some.inj (hoi.symm.trans ho)
    subst this
    rw [← hon]; exact hall e he hb
  have step:=B1.step (Q:=Q) hp ho hob hE hH hD hLoc his hrd hinv
  refine wpOp_mono (fun a' w' h'=>ih _ a' w' ?_ (inv.set hi hin) h') step
  have:=HF his hunf n
  rw [if_pos hin] at this
  omega
def HR (ops:Array Oper) (n:Nat) (L:List PO):Bool:=
 (Nat.beq n ops.size || (decide (n<ops.size) && Region.sinkB .any ops n && Region.chainB .any ops n)) && decide (L.length=n) && Hj ops n && D4 ops L && Ci L && Ei ops L
  && Region.seqB .any ops (ops.size-n) n (CK (Array.replicate ops.size false) (List.range n))
theorem IK : ∀ (is:List Nat) (l:Array Bool) (j:Nat),(∀ i∈is,i<l.size)→(CK l is).getD j false=(l.getD j false || is.contains j)
 | [],l,j,_=>by simp [CK]
 | i :: is,l,j,h=>by
  show (CK (l.setIfInBounds i true) is).getD j false=_
  rw [IK is _ j (fun k hk=>by simp; exact h k (List.mem_cons_of_mem _ hk))]
  by_cases hij:i=j
  ·subst hij
   have:=h i (List.mem_cons_self ..)
   simp [this]
  ·rw [getD_set_ne false hij]
   simp [Ne.symm hij]
theorem GX {α:Type} {wr:PO→Option (Nat × ((Nat→Nat)→α))} {D D':Nat→Bool} {G:Nat→Nat} : ∀ (L:List PO) (e:List (Nat × α)) (k:Nat),(∀ j,k≤j→j<k+L.length→D j=D' j)→BH wr D G e L k=BH wr D' G e L k
 | [],_,_,_=>rfl
 | p :: L,e,k,h=>by
  have h0:=h k (Nat.le_refl _) (by simp)
  have ih:=fun e=>GX (wr:=wr) (G:=G) L e (k+1) (fun j h1 h2=>h j (by omega) (by simp; omega))
  unfold BH
  rw [h0]
  simp only [ih]
theorem Lm {id:Nat} {l:List Oper} {s:St} {Q:Exit→St→Prop} (n:Nat) (L:List PO) {lt:List Oper} (hm:P.follows .mixedOrders=true) (hB:HR l.toArray n L=true) (hLoc:Cs L) (e4:l.drop n=lt)
  (hOb:Dp P l.toArray s L 0 L l)
  (h : ∀ (G:Nat→Nat) (n':Nat),AA P l.toArray lt ⟨Bf (fun _=>true) G s.e L,CH (fun _=>true) G s.h L,n',s.N⟩ (Q .normal)):AW P (.region id l.toArray true) Q s:=by
 intro z0 hz0 c0 a w ⟨_,hdef,hsz,y,hyw,hle,hok,hH,hn,he⟩
 subst hyw
 obtain ⟨r1,r2⟩:=Lc hok
 simp only [HR,Bool.and_eq_true,decide_eq_true_eq] at hB
 obtain ⟨⟨⟨⟨⟨⟨b0,b2⟩,b3⟩,b6⟩,b7⟩,b8⟩,b9⟩:=hB
 have b1:n=l.toArray.size∨(n<l.toArray.size∧Region.sinkB .any l.toArray n=true∧Region.chainB .any l.toArray n=true):=by
  rw [Bool.or_eq_true] at b0
  rcases b0 with h | h
  ·exact .inl (Nat.eq_of_beq_eq_true h)
  ·simp only [Bool.and_eq_true,decide_eq_true_eq] at h
   exact .inr ⟨h.1.1,h.1.2,h.2⟩
 have hnle:n≤l.toArray.size:=by rcases b1 with h | h <;> omega
 refine Hc Fp hm hz0 ?_
 generalize hz:({ y with w:={ y.w with drawn:=y.w.drawn+1 } } : Cx)=z at r1 r2
 have hzw:z.w = { y.w with drawn:=y.w.drawn+1 }:=by rw [← hz]
 have hzH:z.H=AH s.h:=by rw [← hz]; exact hH
 rw [← hzw]
 have hrep : ∀ j,(Array.replicate l.toArray.size false).getD j false=false:=getD_replicate_false _
 have key:=JO (P:=P) (c0:=c0) (s:=s) (L:=L) (n:=n) (g:=l.toArray.size-n) (l:=l) (Q:=Bq c0 Q) rfl b1 b2 b3 b6 b7 b8 hLoc hOb
  (fun listed a' w' inv hall hinv=>by
   have hlisted:listed=CK (Array.replicate l.toArray.size false) (List.range n):=by
    have hsz1:listed.size=(CK (Array.replicate l.toArray.size false) (List.range n)).size:=by rw [inv.size,Kv]; simp
    refine Array.ext hsz1 fun j h1 h2=>?_
    have h3:=IK (List.range n) (Array.replicate l.toArray.size false) j (fun i hi=>by have:=List.mem_range.1 hi; rw [Array.size_replicate]; omega)
    rw [hrep] at h3
    have e1:listed[j]=listed.getD j false:=by unfold Array.getD; rw [dif_pos h1]; rfl
    have e2:(CK (Array.replicate l.toArray.size false) (List.range n))[j]=(CK (Array.replicate l.toArray.size false) (List.range n)).getD j false:=by unfold Array.getD; rw [dif_pos h2]; rfl
    rw [e1,e2,h3]
    by_cases hj:j<n
    ·rw [hall j hj]; simp [hj]
    ·have hjl:j<l.toArray.size:=by rw [inv.size] at h1; exact h1
     rw [getD_both (inv.tail j (by omega) hjl)]; simp [hj]
   obtain ⟨_,i1,i2,z',G,i3,i4,i5,i6,i7⟩:=hinv
   subst i3
   have hdl:(l.drop n).length=l.toArray.size-n:=by simp
   have hD : ∀ j,0≤j→j<0+L.length→(fun _=>true) j=(fun k=>listed.getD k false) j:=fun j _ hj=>(hall j (by omega)).symm
   have:=wpAny_of_seq (P:=P) (md:=.any) (ops:=l.toArray) (Q':=Bq c0 Q) (l.drop n) n listed a' z'.w (fun j=>by simp [List.getElem?_drop]) (by rw [hdl,hlisted]; exact b9) ?_
   ·rwa [hdl] at this
   ·rw [e4]
    refine h G z'.n c0 a' z'.w ⟨_,i1,i2,z',rfl,i4,i5,funext fun id=>?_,rfl,fun t=>?_⟩ _ fun s'' a'' w'' j1 j2=>⟨by simp,s'',j1,j2⟩
    ·rw [i6]; show _=AH (BH _ _ _ _ _ _) _; rw [GX L _ 0 hD]
    ·show AJ z' (get (BH _ _ _ _ _ _) t) _
     rw [GX L _ 0 hD]; exact i7 t)
  n (Array.replicate l.toArray.size false) a z.w (IP hrep n)
  ⟨by simp,fun j oj _ hl=>(by rw [hrep] at hl; cases hl),fun t _ ht=>getD_in (by simpa using ht) (hrep _)⟩
  ⟨_,hdef,hsz,z,fun _=>0,rfl,hle.trans r1,r2,fun id=>by rw [hzH]; exact (DA Af L _ 0 fun j p _ _ h1=>by rw [hrep] at h1; cases h1).symm,fun t=>by
   have e1:get (Bf (fun k=>(Array.replicate l.toArray.size false).getD k false) (fun _=>0) s.e L) t=get s.e t:=DA Bc L _ 0 fun j p _ _ h1=>by rw [hrep] at h1; cases h1
   rw [e1]
   exact (he t).mono r1⟩
 have e:n+(l.toArray.size-n)=l.toArray.size:=by omega
 rw [e] at key
 exact key
end
section
variable {P:Program} {c:Bool} {o:Oper} {R:AP} {h:AL}
end
section
variable {P:Program} {c:Bool} {o:Oper} {R:AP} {h:AL} {n:Nat}
end
def FI (c:Bool):AP→AP→Prop
 | [],_=>True
 | (t,v) :: r,e=>(get e t=v∨get e t = .whn c v∨(∃ b v0,get e t = .whn (c && b) v0∧v = .whn b v0) ∨ ∃ b1 b2 v0,get e t = .whn ((c && b1) && b2) v0∧v = .whn (b1 && b2) v0)∧FI c r e
theorem FI.get {c:Bool} {e' e:AP} (h:FI c e' e) (t:Nat):Al.get e' t = .any∨Al.get e t=Al.get e' t∨Al.get e t = .whn c (Al.get e' t) ∨
  (∃ b v0,Al.get e t = .whn (c && b) v0∧Al.get e' t = .whn b v0) ∨ ∃ b1 b2 v0,Al.get e t = .whn ((c && b1) && b2) v0∧Al.get e' t = .whn (b1 && b2) v0:=by
 induction e' with
 | nil=>exact .inl rfl
 | cons p r ih=>
  obtain ⟨d,v⟩:=p
  rw [Bc]
  split
  ·rename_i hd; subst hd; exact .inr h.1
  ·exact ih h.2
theorem Ld {c:Bool} {e' e:AP} {h:AL} {n N:Nat} (hc:c=true) (he:FI c e' e):AG ⟨e,h,n,N⟩ ⟨e',h,n,N⟩:=by
 intro c0 a w ⟨_,hdef,hsz,y,hyw,hle,hok,hH,hyn,henv⟩
 refine ⟨_,hdef,hsz,y,hyw,hle,hok,hH,hyn,fun t=>?_⟩
 subst hc
 have h2:=henv t
 rcases he.get t with h1 | h1 | h1 | ⟨b,v0,h1,h3⟩ | ⟨b1,b2,v0,h1,h3⟩
 ·rw [h1]; exact .any _
 ·rwa [show Al.get (St.mk e h n N).e t=Al.get e' t from h1] at h2
 ·rw [show Al.get (St.mk e h n N).e t = .whn true (Al.get e' t) from h1] at h2
  cases h2 with
  | whn hw _=>exact hw rfl
 ·rw [show Al.get (St.mk e h n N).e t = .whn (true && b) v0 from h1] at h2
  rw [Bool.true_and] at h2
  rw [h3]; exact h2
 ·rw [show Al.get (St.mk e h n N).e t = .whn ((true && b1) && b2) v0 from h1] at h2
  rw [Bool.true_and] at h2
  rw [h3]; exact h2
section
variable {P:Program} {c:Bool} {o:Oper} {R:AP} {h:AL} {n:Nat}
variable {α:Type} {f:α→List RV}
end
section
variable {P:Program} {c:Bool} {o:Oper} {R:AP} {h:AL} {n:Nat}
theorem B4 {t t':TypeId} {x y:Operand} {k:IntKind} {m n:Int} (ho:o.op = .binOp .and t x y t') (hx:Ev c R x (.r (.int k m))) (hy:Ev c R y (.r (.int k n))):AB P c o R h (.r (.int k (A9 k m n))):=
 B6 ho hx hy (fun w=>by simp [binOp,Op.intBits,A9]) (fun _ _=>.int _ _)
theorem Cv {t t':TypeId} {x y:Operand} {k:IntKind} {m n:Int} (ho:o.op = .binOp .or t x y t') (hx:Ev c R x (.r (.int k m))) (hy:Ev c R y (.r (.int k n))):AB P c o R h (.r (.int k (Ca k m n))):=
 B6 ho hx hy (fun w=>by simp [binOp,Op.intBits,Ca]) (fun _ _=>.int _ _)
theorem LV {t t':TypeId} {x y:Operand} {k:IntKind} {m n:Int} (ho:o.op = .binOp .andNot t x y t') (hx:Ev c R x (.r (.int k m))) (hy:Ev c R y (.r (.int k n))):AB P c o R h (.r (.int k (Gc k m n))):=
 B6 ho hx hy (fun w=>by simp [binOp,Op.intBits,Gc]) (fun _ _=>.int _ _)
theorem DF {t t':TypeId} {x y:Operand} {k k2:IntKind} {m:Int} {b:Nat} (ho:o.op = .binOp .shl t x y t') (hx:Ev c R x (.r (.int k m))) (hy:Ev c R y (.r (.int k2 b))):AB P c o R h (.r (.int k (Bv k m b))):=by
 intro hc z a _ _ he
 refine ⟨.int k (Bv k m b),fun w2 hag=>?_,.r (.int _ _)⟩
 unfold execOp
 rw [ho]
 simp [BW (hx.rep he hc),BW (hy.rep he hc),eqGuard,binOp,Op.shift,Bv]
 intro hb; omega
theorem IN {t t':TypeId} {x y:Operand} {k k2:IntKind} {m:Int} {b:Nat} (ho:o.op = .binOp .shr t x y t') (hx:Ev c R x (.r (.int k m))) (hy:Ev c R y (.r (.int k2 b))):AB P c o R h (.r (.int k (C4 k m b))):=by
 intro hc z a _ _ he
 refine ⟨.int k (C4 k m b),fun w2 hag=>?_,.r (.int _ _)⟩
 unfold execOp
 rw [ho]
 simp [BW (hx.rep he hc),BW (hy.rep he hc),eqGuard,binOp,Op.shift,C4]
 intro hb; omega
def GB (P:Program) (t:TypeId) (n:Nat) (e:TypeId) (sz:Nat):Prop:=P.underlying t=some (.array n e) ∧ ∃ i,P.info? e=some i∧i.size=sz
theorem FC {α:Type} {f:α→List RV} {sz:Nat} (hf : ∀ a,(f a).length=sz) : ∀ (l:List α) (i j:Nat) (a:α) (d:RV),l[i]? = some a→(f a)[j]? = some d→(l.flatMap f)[i * sz+j]? = some d
 | [],i,_,_,_,h,_=>by simp at h
 | x :: l,0,j,a,d,h,hd=>by
  have hx:x=a:=by simpa using h
  subst hx
  have hj:j<(f x).length:=(List.getElem?_eq_some_iff.1 hd).1
  rw [List.flatMap_cons,Nat.zero_mul,Nat.zero_add,List.getElem?_append_left hj]
  exact hd
 | x :: l,i+1,j,a,d,h,hd=>by
  have ih:=FC hf l i j a d (by simpa using h) hd
  rw [List.flatMap_cons,List.getElem?_append_right (by rw [hf,Nat.add_mul]; omega),hf]
  rw [show (i+1) * sz+j-sz=i * sz+j by rw [Nat.add_mul]; omega]
  exact ih
theorem Hm {α:Type} {f:α→List RV} {t e:TypeId} {sz nn g:Nat} {y:Operand} {l:List α} {k:IntKind} {z:Int} {a:α} (ho:o.op = .indexAddr t (.global g) y) (ht:GB P t nn e sz) (hT:Ef g=some (l.flatMap f)) (hn:l.length=nn)
  (hy:Ev c R y (.r (.int k z))) (hlen : ∀ a,(f a).length=sz) (h0:0<sz) (hi:c=true→Ab l z=some a):AB P c o R h (.rop (f a) 0):=by
 intro hc x w hok hH he
 obtain ⟨ht1,ii,hi1,hi2⟩:=ht
 obtain ⟨z0,hz,hlt⟩:=EX (hi hc)
 have hrep:=hok.tabs.tab g _ hT
 generalize hv:(Value.pointer (some ⟨g,0,none⟩))=v at hrep
 cases hrep with
 | @rop _ _ b off u hS hcell hrr=>
  simp only [Value.pointer.injEq,Option.some.injEq,Addr.mk.injEq,and_true,Nat.add_zero] at hv
  obtain ⟨rfl,hoff⟩:=hv
  subst hoff
  have hne:(l.flatMap f)≠[]:=by
   intro e0
   have hj:0<(f a).length:=by rw [hlen]; exact h0
   have:=FC hlen l z.toNat 0 a _ hz (List.getElem?_eq_getElem hj)
   rw [e0] at this; simp at this
  refine ⟨.pointer (some ⟨g,z.toNat * sz+0,none⟩),fun w2 hag=>?_,.rop (fun j=>u (z.toNat * sz+j)) (fun _=>hS hne) (fun j d hj=>?_) (fun j d hj=>?_)⟩
  ·unfold execOp
   rw [ho]
   have hlt':z<(nn:Int):=by rw [← hn]; exact hlt
   have hg:w.eval (.global g) = .pointer (some ⟨g,0,none⟩):=rfl
   simp [hg,BW (hy.rep he hc),Instr.indexAt,Instr.sureAddr,asIntOf,run_underlying ht1,z0,hlt',Cm hi1,hi2,Addr.add_lit]
  ·have h1:=FC hlen l z.toNat j a d hz hj
   have:=hcell _ _ h1
   simpa using this
  ·have h1:=FC hlen l z.toNat j a d hz hj
   exact hrr _ _ h1
end
section
variable {P:Program} {c:Bool} {o:Oper} {R:AP} {h:AL} {n:Nat}
theorem Jw (s:List UInt8) (l m:Nat):(⟨s.toArray⟩:ByteArray).extract l m=⟨((s.drop l).take (m-l)).toArray⟩:=by
 apply ByteArray.ext
 rw [ByteArray.data_extract]
 simp [List.extract_toArray]
theorem Kf {t:TypeId} {x:Operand} {lo hi:Option Operand} {s r:List UInt8} {zl zh:Int} (ho:o.op = .slice t x lo hi none) (ht:P.underlying t=some .string) (hx:Ev c R x (.r (.str s)))
  (hlo:Eb c R 0 lo zl) (hhi:Eb c R s.length hi zh) (hs:c=true→FG s zl zh=some r):AB P c o R h (.r (.str r)):=by
 intro hc z w _ _ he
 obtain ⟨h1,h2,h3,rfl⟩:=JZ (hs hc)
 have hsz:(⟨s.toArray⟩:ByteArray).size=s.length:=rfl
 refine ⟨.string ⟨((s.drop zl.toNat).take (zh.toNat-zl.toNat)).toArray⟩,fun w2 hag=>?_,by have:=AY.str (w:=z.w) (S:=z.S) ⟨((s.drop zl.toNat).take (zh.toNat-zl.toNat)).toArray⟩; exact .r this⟩
 have hbnd : ∀ W,(Instr.sliceBounds false s.length s.length (lo.map w.eval) (hi.map w.eval) none).run P W = .ok (zl.toNat,zh.toNat,s.length) W:=by
  intro W
  cases hi with
  | none=>
   simp only [Eb] at hhi
   subst hhi
   cases lo with
   | none=>simp only [Eb] at hlo; subst hlo; simp [Instr.sliceBounds]
   | some v=>
    obtain ⟨k,hk⟩:=hlo
    have hr : ∀ W,(Instr.sliceBound (w.eval v) s.length .sliceB).run P W = .ok zl.toNat W:=fun W=>by rw [BW (hk.rep he hc),Fx h1 (by omega)]
    simp [Instr.sliceBounds,hr]
  | some v2=>
   obtain ⟨k2,hk2⟩:=hhi
   have hr2 : ∀ W,(Instr.sliceBound (w.eval v2) s.length .sliceAlen).run P W = .ok zh.toNat W:=fun W=>by rw [BW (hk2.rep he hc),Fx (by omega) (by omega)]
   cases lo with
   | none=>simp only [Eb] at hlo; subst hlo; simp [Instr.sliceBounds,hr2]
   | some v=>
    obtain ⟨k,hk⟩:=hlo
    have hr : ∀ W,(Instr.sliceBound (w.eval v) zh.toNat .sliceB).run P W = .ok zl.toNat W:=fun W=>by rw [BW (hk.rep he hc),Fx h1 (by omega)]
    simp [Instr.sliceBounds,hr,hr2]
 unfold execOp
 rw [ho]
 simp [DL (hx.rep he hc),Instr.sliceAt,Instr.slice,run_underlying ht,hsz,hbnd,Jw]
end
section
variable {P:Program} {c:Bool} {o:Oper} {R:AP} {h:AL}
end
section
variable {P:Program} {c:Bool} {o:Oper} {R:AP} {h:AL} {n:Nat}
end
section
variable {P:Program} {c:Bool} {o:Oper} {R:AP} {h:AL}
end
open Go.Shelf Go.RowKit Go.Lib
theorem Ii {P:Program} {f:FuncId} {args:List AV} {r:AV} (hc:Dn P f) (hcl:r.closed=true)
  (h : ∀ (x:Cx) (vs:Array Value),x.ok→Ch x args vs.toList→Calls P f vs x.w fun e w'=>∃ u,e = .returned u∧Below x.w.heap.size x.w w' ∧ ∀ y:Cx,AJ y r u):AX P f args r:=by
 refine ⟨hc,hcl,fun x vs hok hH ha=>(h x vs hok ha).mono fun e w' ⟨u,he,hb,hr⟩=>?_⟩
 have hle:x.le { x with w:=w' }:=by
  refine ⟨hb.size,hb.os,hb.tape,hb.output,fun b hbb=>hb.block b (hbb.elim (hok.S_lt b) (hok.F_lt b)),fun _ h=>h,rfl,Nat.le_refl _,fun id o ho _=>⟨o,ho,rfl,rfl,rfl⟩,fun id o ho hf _ _=>⟨o,ho,hf,rfl,rfl,rfl,rfl⟩⟩
 refine ⟨u,{ x with w:=w' },he,rfl,hle,⟨fun b hb2=>Nat.lt_of_lt_of_le (hok.S_lt b hb2) hb.size,fun b hb2=>Nat.lt_of_lt_of_le (hok.F_lt b hb2) hb.size,hok.SF,fun id o ho=>?_,fun id o b k ho=>?_,fun id id' o o' b k k' ho=>?_,fun id o j b c ho=>?_,hok.tabs.le hle⟩,hr _⟩
 ·exact absurd (show x.H id=some o from ho) (by rw [hH]; simp)
 ·exact absurd (show x.H id=some o from ho) (by rw [hH]; simp)
 ·exact absurd (show x.H id=some o from ho) (by rw [hH]; simp)
 ·exact absurd (show x.H id=some o from ho) (by rw [hH]; simp)
end Go.Proofs.YtmbjbecccheclaaDoor.Al

namespace Go.Proofs.YtmbjbecccheclaaDoor.Al
def FL (r:Int):Option Bool:=if -2147483648≤r∧r≤2147483647 then some (Lib.isLetterU r) else none
def Eo (r:Int):Option Bool:=if -2147483648≤r∧r≤2147483647 then some (Lib.isDigitU r) else none
open Go.Shelf Go.RowKit Go.Lib
theorem HC {x:Cx} {vs:Array Value} {k:IntKind} {r:Int} (ha:Ch x [.r (.int k r)] vs.toList):vs = #[.int k r]:=by
 obtain ⟨v,hv⟩ : ∃ v,vs = #[v]:=by
  have:=ha.1
  match vs,this with
  | ⟨[v]⟩,_=>exact ⟨v,rfl⟩
 subst hv
 have h2:=ha.2 0 (.r (.int k r)) v rfl rfl
 cases h2 with
 | r h2=>cases h2 with
  | int=>rfl
theorem Lf {P:Program} {ρ:Ren} {f:FuncId} (L:Go.Proofs.Lays.n198 P ρ) (hf:ρ.f 198=f) (h5:ρ.g 5=Hk) (hc:Dn P f) {n:Int} {r:Bool} (h:Eo n=some r):AX P f [.r (.int .i32 n)] (.r (.bool r)):=by
 subst hf
 refine Ii hc rfl fun x vs hok ha=>?_
 obtain rfl:=HC ha
 unfold Eo at h
 split at h
 ·rename_i hl
  cases h
  obtain ⟨W0,⟨_,t2,_⟩,hb,_⟩:=hok.tabs.fact
  refine (Any.unicode_IsDigit_all L n x.w hl.1 hl.2 (by rw [h5]; exact RVar_below t2 hb)).mono fun e w' ⟨he,hw⟩=>?_
  exact ⟨_,he,hw,fun y=>.r (.bool _)⟩
 ·cases h
theorem Lg {P : Program} {ρ : Ren} {f : FuncId} (L : Go.Proofs.Lays.n200 P ρ) (hf : ρ.f 200 = f) (h8 : ρ.g 8 = H5) (h7 : ρ.g 7 = D1) (hg : P.globalNamed "unicode.properties" = some D1) (hc : Dn P f) {n : Int} {r : Bool} (h : FL n = some r) :
  AX P f [.r (.int .i32 n)] (.r (.bool r)):=by
 subst hf
 refine Ii hc rfl fun x vs hok ha=>?_
 obtain rfl:=HC ha
 unfold FL at h
 split at h
 ·rename_i hl
  cases h
  obtain ⟨W0,⟨t1,_,t,p,t3⟩,hb,hS⟩:=hok.tabs.fact
  have hlt:D1<W0.heap.size:=(Array.getElem?_eq_some_iff.1 t3).1
  have htab : Lib.TabIs P x.w "unicode.properties" .u8 Lib.propertiesTab := by
   unfold Lib.TabIs World.var?
   rw [hg]
   simp only [Option.bind_some]
   rw [hb.block D1 hlt,t3]
  refine (Any.unicode_IsLetter_all L (by rw [h7]; exact hg) n x.w hl.1 hl.2 htab (by rw [h8]; exact RVar_below t1 hb)).mono fun e w' ⟨he,hw⟩=>?_
  exact ⟨_,he,hw,fun y=>.r (.bool _)⟩
 ·cases h
end Go.Proofs.YtmbjbecccheclaaDoor.Al

namespace Go.Proofs.YtmbjbecccheclaaDoor.Al
open Go.Shelf Go.Proofs
def HT:Go.Shelf.Ren:=⟨fun | 200=>16 | 261=>23 | 311=>27 | 312=>28 | n=>n,fun | 21=>21 | 4=>4 | 51=>50 | 5=>5 | 119=>51 | 0=>0 | 141=>53 | 196=>59 | 193=>56 | 3=>3 | 198=>62 | 49=>60 | 194=>57 | 201=>65 | 226=>72 | 46=>68 | 227=>73 | n=>n,fun | 7=>0 | 8=>1 | n=>n⟩
theorem HG:Go.Proofs.Lays.n200 Tryd.prog HT:={
 mixed:=by kernel_rfl
 f200:=Tryd.func16.trans (congrArg some (by kernel_rfl))
 f261:=Tryd.func23.trans (congrArg some (by kernel_rfl))
 f311:=Tryd.func27.trans (congrArg some (by kernel_rfl))
 f312:=Tryd.func28.trans (congrArg some (by kernel_rfl))
 t0:=Tryd.underlying0
 a0:=Tryd.isAgg0
 z0:=Tryd.sizeOf0
 v0:=Tryd.zeroValue0
 t3:=Tryd.underlying3
 a3:=Tryd.isAgg3
 z3:=Tryd.sizeOf3
 v3:=Tryd.zeroValue3
 t4:=Tryd.underlying4
 a4:=Tryd.isAgg4
 z4:=Tryd.sizeOf4
 v4:=Tryd.zeroValue4
 t5:=Tryd.underlying5
 a5:=Tryd.isAgg5
 z5:=Tryd.sizeOf5
 v5:=Tryd.zeroValue5
 t21:=Tryd.underlying21
 a21:=Tryd.isAgg21
 z21:=Tryd.sizeOf21
 v21:=Tryd.zeroValue21
 t46:=Tryd.underlying68
 a46:=Tryd.isAgg68
 z46:=Tryd.sizeOf68
 v46:=Tryd.zeroValue68
 t49:=Tryd.underlying60
 a49:=Tryd.isAgg60
 z49:=Tryd.sizeOf60
 v49:=Tryd.zeroValue60
 t51:=Tryd.underlying50
 a51:=Tryd.isAgg50
 z51:=Tryd.sizeOf50
 v51:=Tryd.zeroValue50
 t119:=Tryd.underlying51
 a119:=Tryd.isAgg51
 z119:=Tryd.sizeOf51
 t141:=Tryd.underlying53
 a141:=Tryd.isAgg53
 z141:=Tryd.sizeOf53
 v141:=Tryd.zeroValue53
 t193:=Tryd.underlying56
 a193:=Tryd.isAgg56
 z193:=Tryd.sizeOf56
 v193:=Tryd.zeroValue56
 t194:=Tryd.underlying57
 a194:=Tryd.isAgg57
 z194:=Tryd.sizeOf57
 v194:=Tryd.zeroValue57
 t196:=Tryd.underlying59
 a196:=Tryd.isAgg59
 z196:=Tryd.sizeOf59
 v196:=Tryd.zeroValue59
 t198:=Tryd.underlying62
 a198:=Tryd.isAgg62
 z198:=Tryd.sizeOf62
 v198:=Tryd.zeroValue62
 t201:=Tryd.underlying65
 a201:=Tryd.isAgg65
 z201:=Tryd.sizeOf65
 v201:=Tryd.zeroValue65
 t226:=Tryd.underlying72
 a226:=Tryd.isAgg72
 z226:=Tryd.sizeOf72
 v226:=Tryd.zeroValue72
 t227:=Tryd.underlying73
 a227:=Tryd.isAgg73
 z227:=Tryd.sizeOf73
 v227:=Tryd.zeroValue73
 g7:=by kernel_rfl
 g8:=by kernel_rfl }
def IR:Go.Shelf.Ren:=⟨fun | 198=>17 | 261=>23 | 311=>27 | 312=>28 | n=>n,fun | 21=>21 | 4=>4 | 141=>53 | 0=>0 | 196=>59 | 193=>56 | 3=>3 | 51=>50 | 198=>62 | 49=>60 | 194=>57 | 201=>65 | 226=>72 | 46=>68 | 227=>73 | n=>n,fun | 5=>2 | n=>n⟩
theorem H9:Go.Proofs.Lays.n198 Tryd.prog IR:={
 mixed:=by kernel_rfl
 f198:=Tryd.func17.trans (congrArg some (by kernel_rfl))
 f261:=Tryd.func23.trans (congrArg some (by kernel_rfl))
 f311:=Tryd.func27.trans (congrArg some (by kernel_rfl))
 f312:=Tryd.func28.trans (congrArg some (by kernel_rfl))
 t0:=Tryd.underlying0
 a0:=Tryd.isAgg0
 z0:=Tryd.sizeOf0
 v0:=Tryd.zeroValue0
 t3:=Tryd.underlying3
 a3:=Tryd.isAgg3
 z3:=Tryd.sizeOf3
 v3:=Tryd.zeroValue3
 t4:=Tryd.underlying4
 a4:=Tryd.isAgg4
 z4:=Tryd.sizeOf4
 v4:=Tryd.zeroValue4
 t21:=Tryd.underlying21
 a21:=Tryd.isAgg21
 z21:=Tryd.sizeOf21
 v21:=Tryd.zeroValue21
 t46:=Tryd.underlying68
 a46:=Tryd.isAgg68
 z46:=Tryd.sizeOf68
 v46:=Tryd.zeroValue68
 t49:=Tryd.underlying60
 a49:=Tryd.isAgg60
 z49:=Tryd.sizeOf60
 v49:=Tryd.zeroValue60
 t51:=Tryd.underlying50
 a51:=Tryd.isAgg50
 z51:=Tryd.sizeOf50
 v51:=Tryd.zeroValue50
 t141:=Tryd.underlying53
 a141:=Tryd.isAgg53
 z141:=Tryd.sizeOf53
 v141:=Tryd.zeroValue53
 t193:=Tryd.underlying56
 a193:=Tryd.isAgg56
 z193:=Tryd.sizeOf56
 v193:=Tryd.zeroValue56
 t194:=Tryd.underlying57
 a194:=Tryd.isAgg57
 z194:=Tryd.sizeOf57
 v194:=Tryd.zeroValue57
 t196:=Tryd.underlying59
 a196:=Tryd.isAgg59
 z196:=Tryd.sizeOf59
 v196:=Tryd.zeroValue59
 t198:=Tryd.underlying62
 a198:=Tryd.isAgg62
 z198:=Tryd.sizeOf62
 v198:=Tryd.zeroValue62
 t201:=Tryd.underlying65
 a201:=Tryd.isAgg65
 z201:=Tryd.sizeOf65
 v201:=Tryd.zeroValue65
 t226:=Tryd.underlying72
 a226:=Tryd.isAgg72
 z226:=Tryd.sizeOf72
 v226:=Tryd.zeroValue72
 t227:=Tryd.underlying73
 a227:=Tryd.isAgg73
 z227:=Tryd.sizeOf73
 v227:=Tryd.zeroValue73
 g5:=by kernel_rfl }
end Go.Proofs.YtmbjbecccheclaaDoor.Al

namespace Go.Proofs.YtmbjbecccheclaaDoor.Al
open Go.Lib
theorem Hu {W:World} {g:Nat} {row:List RV} (h : ∀ j d,row[j]? = some d → ∃ v,W.cell? ⟨g,j,none⟩=some v∧AY W (· < W.heap.size) d v):AJ (B9 W) (.rop row 0) (.pointer (some ⟨g,0,none⟩)):=by
 have hlt:row≠[]→g<W.heap.size:=by
  intro hne
  obtain ⟨d,hd⟩ : ∃ d,row[0]? = some d:=by
   cases row with
   | nil=>exact absurd rfl hne
   | cons d r=>exact ⟨d,rfl⟩
  obtain ⟨v,h1,_⟩:=h 0 d hd
  unfold World.cell? at h1
  rcases Nat.lt_or_ge g W.heap.size with h2 | h2
  ·exact h2
  ·rw [Array.getElem?_eq_none h2] at h1; cases h1
 exact AJ.rop (x:=B9 W) (row:=row) (k:=0) (b:=g) (off:=0) (fun j=>(W.cell? ⟨g,j,none⟩).getD undef) hlt
  (fun j d hj=>by obtain ⟨v,h1,_⟩:=h j d hj; rw [Nat.zero_add]; show W.cell? _=_; rw [h1]; rfl)
  (fun j d hj=>by obtain ⟨v,h1,h2⟩:=h j d hj; rw [h1]; exact h2)
theorem IO {α β:Type} (f:α→β) : ∀ (l:List α) (j:Nat),(l.flatMap fun z=>[f z])[j]? = (l[j]?).map f
 | [],j=>by simp
 | x :: l,0=>by simp
 | x :: l,j+1=>by
  have:=IO f l j
  rw [List.flatMap_cons,List.singleton_append,List.getElem?_cons_succ,this,List.getElem?_cons_succ]
theorem HO {α β:Type} (f g:α→β) : ∀ (l:List α) (j:Nat) (d:β),(l.flatMap fun z=>[f z,g z])[j]? = some d → ∃ i a,l[i]? = some a∧((j=2 * i∧d=f a)∨(j=2 * i+1∧d=g a))
 | [],j,d,h=>by simp at h
 | x :: l,0,d,h=>by
  have:f x=d:=by simpa using h
  exact ⟨0,x,rfl,.inl ⟨rfl,this.symm⟩⟩
 | x :: l,1,d,h=>by
  have:g x=d:=by simpa using h
  exact ⟨0,x,rfl,.inr ⟨rfl,this.symm⟩⟩
 | x :: l,j+2,d,h=>by
  rw [List.flatMap_cons] at h
  have h':(l.flatMap fun z=>[f z,g z])[j]? = some d:=by simpa using h
  obtain ⟨i,a,h1,h2⟩:=HO f g l j d h'
  refine ⟨i+1,a,by simpa using h1,?_⟩
  rcases h2 with ⟨h2,h3⟩ | ⟨h2,h3⟩
  ·exact .inl ⟨by omega,h3⟩
  ·exact .inr ⟨by omega,h3⟩
theorem LS {P:Program} {W:World} {nm:String} {k:IntKind} {zs:List Int} {g n:Nat} {t e:TypeId} {d:DataW Unit} (h1:VarReads P W nm d) (hd1:d=tabData k zs) (n1:P.globalNamed nm=some g)
  (y1:(P.globals[g]?).map (·.type)=some t) (u1:P.underlying t=some (.array n e)) (ue:P.underlying e=some (.int k)) (ce:P.cellsOf e=1) (ct:P.cellsOf t=n) : ∃ t p,W.heap[g]? = some (.cells ((zs.map fun z=>Value.int k z).toArray) t p):=by
 obtain ⟨g',t',cs,fuel,p,hg,hty,hvar,hd⟩:=h1
 obtain rfl:=Option.some.inj (n1.symm.trans hg)
 obtain rfl:=Option.some.inj (y1.symm.trans hty)
 subst hd1
 have hcs:=cells_of_tab u1 ue ce ct hd
 unfold World.var? at hvar
 rw [n1] at hvar
 simp only [Option.bind_some] at hvar
 split at hvar
 ·rename_i c t2 p2 hh
  cases hvar
  refine ⟨t2,p2,?_⟩
  rw [hh,← hcs]
 ·cases hvar
theorem Js {P : Program} {W : World} {d1 d2 : DataW Unit} {t1 t2 e1 e2 : TypeId} {fs : Array Field} (h1 : VarReads P W "unicode/utf8.first" d1) (hd1 : d1 = tabData .u8 D8) (n1 : P.globalNamed "unicode/utf8.first" = some Fb)
  (y1:(P.globals[Fb]?).map (·.type)=some t1) (u1:P.underlying t1=some (.array 256 e1)) (ue:P.underlying e1=some (.int .u8)) (ce:P.cellsOf e1=1) (ct:P.cellsOf t1=256)
  (h2 : VarReads P W "unicode/utf8.acceptRanges" d2) (hd2 : d2 = .agg (GW.map fun p => .agg ([p.1, p.2].map fun z => .lit (.int .u8 z)))) (n2 : P.globalNamed "unicode/utf8.acceptRanges" = some Et)
  (y2:(P.globals[Et]?).map (·.type)=some t2) (u2:P.underlying t2=some (.array 16 e2)) (us:P.underlying e2=some (.struct fs)) (hfs : ∀ (i:Nat) (f:Field),fs[i]? = some f→P.underlying f.type=some (.int .u8)∧f.offset=i∧P.cellsOf f.type=1)
  (hsz:fs.size=2) (c2:P.cellsOf e2=2)
  (hw : ∀ g cs,HK g=some cs→0<cs.size ∧ ∃ t p,W.heap[g]? = some (.cells cs t p):=by intro _ _ h; cases h) (hF:Gm W:=by trivial):Ba (B9 W):=by
 refine ⟨fun g row hg=>?_,fun g cs hg=>⟨?_,hw g cs hg⟩,W,hF,Go.RowKit.Below.refl _ _,fun _ h=>h⟩
 rotate_left
 ·obtain ⟨_,t,p,h⟩:=hw g cs hg
  show g<W.heap.size
  exact (Array.getElem?_eq_some_iff.1 h).1
 unfold Ef at hg
 by_cases hF:g=Fb
 ·rw [if_pos hF] at hg
  cases hg
  subst hF
  obtain ⟨g,t,cs,fuel,p,hg,hty,hvar,hd⟩:=h1
  obtain rfl:=Option.some.inj (n1.symm.trans hg)
  obtain rfl:=Option.some.inj (y1.symm.trans hty)
  subst hd1
  have hcs:=cells_of_tab u1 ue ce ct hd
  refine Hu fun j d hj=>?_
  rw [IO,Option.map_eq_some_iff] at hj
  obtain ⟨z,hz,rfl⟩:=hj
  refine ⟨.int .u8 z,?_,.int _ _⟩
  rw [World.var?_cell hg hvar j,← Array.getElem?_toList,hcs,List.getElem?_map,hz]; rfl
 ·rw [if_neg hF] at hg
  by_cases hA:g=Et
  ·rw [if_pos hA] at hg
   cases hg
   subst hA
   obtain ⟨g,t,cs,fuel,p,hg,hty,hvar,hd⟩:=h2
   obtain rfl:=Option.some.inj (n2.symm.trans hg)
   obtain rfl:=Option.some.inj (y2.symm.trans hty)
   subst hd2
   refine Hu fun j d hj=>?_
   obtain ⟨i,a,hi,hja⟩:=HO _ _ _ _ _ hj
   have hil:i<16:=(List.getElem?_eq_some_iff.1 hi).1
   obtain ⟨fuel',d',q,hdi,he⟩:=array_elem u2 hd i hil
   rw [List.getElem?_map,hi] at hdi
   cases hdi
   rw [c2] at he
   have hcs:=ints_of_struct us hfs (by rw [c2,hsz]) he
   have e0:=congrArg (·[0]?) hcs
   have e1:=congrArg (·[1]?) hcs
   simp only [List.getElem?_take,List.getElem?_drop] at e0 e1
   rcases hja with ⟨rfl,rfl⟩ | ⟨rfl,rfl⟩
   ·refine ⟨.int .u8 a.1,?_,.int _ _⟩
    rw [World.var?_cell hg hvar (2 * i),← Array.getElem?_toList]
    simpa [Nat.mul_comm] using e0
   ·refine ⟨.int .u8 a.2,?_,.int _ _⟩
    rw [World.var?_cell hg hvar (2 * i+1),← Array.getElem?_toList]
    simpa [Nat.mul_comm] using e1
  ·rw [if_neg hA] at hg; cases hg
end Go.Proofs.YtmbjbecccheclaaDoor.Al
