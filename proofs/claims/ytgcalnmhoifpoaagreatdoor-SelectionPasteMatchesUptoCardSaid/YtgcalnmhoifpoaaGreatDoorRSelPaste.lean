/-
  PROVED: 'SelectionPasteMatches' returns true whatever its arguments of bulk at most 1048576 are, and leaves them as they were (statement 'SelectionPasteMatchesUptoCardSaid'). Conditions: none but the bulk.
-/
import Derived.Test.YtgcalnmhoifpoaaGreatDoorWlk351x2
import Derived.Deep.DeepHandedRow
import Derived.JoinedCond
import Derived.Lib.LaidTab
import Derived.OpenShut
import Derived.ProofKit
import Derived.Test.YtgcalnmhoifpoaaGreatDoorCards
import Derived.Test.YtgcalnmhoifpoaaGreatDoorChecked
import Derived.Test.YtgcalnmhoifpoaaGreatDoorRows
import Derived.Test.YtgcalnmhoifpoaaGreatDoorTie
import Derived.WalkKit
set_option linter.all false
namespace Go.Proofs.YtgcalnmhoifpoaaGreatDoor.Al.RSelPaste
open Go.Proofs Go.Proofs.Tryz Go.Proofs.YtgcalnmhoifpoaaGreatDoor.Al Go.Proofs.YtgcalnmhoifpoaaGreatDoor
open Go.ChangeShapes Go.WideShapes Go.ChangeAt Go.RowKit
set_option linter.unusedVariables false
theorem own:ownKnob prog.godebug=none:=by kernel_rfl
theorem blk_all{H:Type}(l:List (DataW H)):(l.map Rows.uptoBulk).sum=Rows.uptoBulkAll l:=by
 induction l with
 | nil=>simp[Rows.uptoBulkAll]
 | cons d l ih=>rw[wB,wv,ih,Rows.uptoBulkAll]
def blk(H:Type):Gi H where
 B:=Rows.uptoBulk
 one:=λd=>by
  cases d with
  | lit l=>cases l<;>simp[Rows.uptoBulk]
  | nil=>simp[Rows.uptoBulk]
  | ptr d=>simp[Rows.uptoBulk]
  | slice elems spare=>simp[Rows.uptoBulk]
  | agg parts=>simp[Rows.uptoBulk]
  | iface t d=>simp[Rows.uptoBulk]
  | map entries=>simp[Rows.uptoBulk]
  | held h=>simp[Rows.uptoBulk]
 str:=λs=>by simp[Rows.uptoBulk]
 sl:=λl r=>by rw[blk_all,Rows.uptoBulk];omega
 agg:=λl=>by rw[blk_all,Rows.uptoBulk];omega
def ok_39(x:AC):Prop:=x.Name.length≤maxLen∧x.Value.length≤maxLen
def mu_39(x:AC):Nat:=(x.Name.length+1)+(x.Value.length+1)+1
theorem rd_39{H:Type}{enc:TypeId × Value→H}{W:World}(K:Gi H):BY K enc prog W 39 AC.row ok_39 mu_39:=by
 intro fuel cs x h
 obtain⟨hlen,xs,hx,hxl,hf⟩:=Ib (n:=2) underlying39 (by kernel_rfl) h
 obtain⟨y0,n0,g0,t0⟩:=hf 0 _ rfl
 obtain⟨y1,n1,g1,t1⟩:=hf 1 _ rfl
 obtain rfl:xs=[y0,y1]:=Ih hxl (λj y hj=>by
  rcases j with _ | _ | j
  ·cases hj;exact g0
  ·cases hj;exact g1
  ·cases hj)
 obtain⟨a0,k0,r0,m0⟩:=((BY.str K underlying9)) _ _ _ t0
 obtain⟨a1,k1,r1,m1⟩:=((BY.str K underlying9)) _ _ _ t1
 have m0:a0.length+1≤K.B y0.1:=m0
 have m1:a1.length+1≤K.B y1.1:=m1
 have hm:=K.agg (List.map (λz:DataW H × List MemPlace=>z.1) [y0,y1])
 simp only[wB,xm,wv,yR] at hm
 refine⟨⟨a0,a1⟩,⟨k0,k1⟩,⟨hlen,λj d u h1 h2=>?_⟩,?_⟩
 ·rcases j with _ | _ | j
  ·exact r0.part (jj:=0) (by kernel_rfl) h1 h2
  ·exact r1.part (jj:=0) (by kernel_rfl) h1 h2
  ·cases h1
 ·rw[hx]
  refine wq ?_ hm
  show(a0.length+1)+(a1.length+1)+1≤_
  omega
def ok_37(x:AD):Prop:=(Lit.int .i64 x.Char).wf=true∧(Lit.int .i64 x.Ref).wf=true∧(x.Attrs.length≤maxLen∧∀a∈x.Attrs,ok_39 a)
def mu_37(x:AD):Nat:=(1)+(1)+((x.Attrs.map mu_39).sum+1)+1
theorem rd_37{H:Type}{enc:TypeId × Value→H}{W:World}(K:Gi H):BY K enc prog W 37 AD.row ok_37 mu_37:=by
 intro fuel cs x h
 obtain⟨hlen,xs,hx,hxl,hf⟩:=Ib (n:=3) underlying37 (by kernel_rfl) h
 obtain⟨y0,n0,g0,t0⟩:=hf 0 _ rfl
 obtain⟨y1,n1,g1,t1⟩:=hf 1 _ rfl
 obtain⟨y2,n2,g2,t2⟩:=hf 2 _ rfl
 obtain rfl:xs=[y0,y1,y2]:=Ih hxl (λj y hj=>by
  rcases j with _ | _ | _ | j
  ·cases hj;exact g0
  ·cases hj;exact g1
  ·cases hj;exact g2
  ·cases hj)
 obtain⟨a0,k0,r0,m0⟩:=((BY.int K underlying3)) _ _ _ t0
 obtain⟨a1,k1,r1,m1⟩:=((BY.int K underlying3)) _ _ _ t1
 obtain⟨a2,k2,r2,m2⟩:=((BY.slice K (sz:=2) underlying35 (by kernel_rfl) (by decide) (rd_39 K) (λ_=>rfl))) _ _ _ t2
 have m0:1≤K.B y0.1:=m0
 have m1:1≤K.B y1.1:=m1
 have m2:(a2.map mu_39).sum+1≤K.B y2.1:=m2
 have hm:=K.agg (List.map (λz:DataW H × List MemPlace=>z.1) [y0,y1,y2])
 simp only[wB,xm,wv,yR] at hm
 refine⟨⟨a0,a1,a2⟩,⟨k0,k1,k2⟩,⟨hlen,λj d u h1 h2=>?_⟩,?_⟩
 ·rcases j with _ | _ | _ | j
  ·exact r0.part (jj:=0) (by kernel_rfl) h1 h2
  ·exact r1.part (jj:=0) (by kernel_rfl) h1 h2
  ·exact r2.part (jj:=0) (by kernel_rfl) h1 h2
  ·cases h1
 ·rw[hx]
  refine wq ?_ hm
  show(1)+(1)+((a2.map mu_39).sum+1)+1≤_
  omega
def ok_183(x:Av):Prop:=(Lit.int .i64 x.Row).wf=true∧(Lit.int .i64 x.Col).wf=true∧x.Text.length≤maxLen∧(Lit.int .i64 x.Ref).wf=true∧(x.Attrs.length≤maxLen∧∀a∈x.Attrs,ok_39 a)
def mu_183(x:Av):Nat:=(1)+(1)+(x.Text.length+1)+(1)+((x.Attrs.map mu_39).sum+1)+1
theorem rd_183{H:Type}{enc:TypeId × Value→H}{W:World}(K:Gi H):BY K enc prog W 183 Av.row ok_183 mu_183:=by
 intro fuel cs x h
 obtain⟨hlen,xs,hx,hxl,hf⟩:=Ib (n:=5) underlying183 (by kernel_rfl) h
 obtain⟨y0,n0,g0,t0⟩:=hf 0 _ rfl
 obtain⟨y1,n1,g1,t1⟩:=hf 1 _ rfl
 obtain⟨y2,n2,g2,t2⟩:=hf 2 _ rfl
 obtain⟨y3,n3,g3,t3⟩:=hf 3 _ rfl
 obtain⟨y4,n4,g4,t4⟩:=hf 4 _ rfl
 obtain rfl:xs=[y0,y1,y2,y3,y4]:=Ih hxl (λj y hj=>by
  rcases j with _ | _ | _ | _ | _ | j
  ·cases hj;exact g0
  ·cases hj;exact g1
  ·cases hj;exact g2
  ·cases hj;exact g3
  ·cases hj;exact g4
  ·cases hj)
 obtain⟨a0,k0,r0,m0⟩:=((BY.int K underlying3)) _ _ _ t0
 obtain⟨a1,k1,r1,m1⟩:=((BY.int K underlying3)) _ _ _ t1
 obtain⟨a2,k2,r2,m2⟩:=((BY.str K underlying9)) _ _ _ t2
 obtain⟨a3,k3,r3,m3⟩:=((BY.int K underlying3)) _ _ _ t3
 obtain⟨a4,k4,r4,m4⟩:=((BY.slice K (sz:=2) underlying35 (by kernel_rfl) (by decide) (rd_39 K) (λ_=>rfl))) _ _ _ t4
 have m0:1≤K.B y0.1:=m0
 have m1:1≤K.B y1.1:=m1
 have m2:a2.length+1≤K.B y2.1:=m2
 have m3:1≤K.B y3.1:=m3
 have m4:(a4.map mu_39).sum+1≤K.B y4.1:=m4
 have hm:=K.agg (List.map (λz:DataW H × List MemPlace=>z.1) [y0,y1,y2,y3,y4])
 simp only[wB,xm,wv,yR] at hm
 refine⟨⟨a0,a1,a2,a3,a4⟩,⟨k0,k1,k2,k3,k4⟩,⟨hlen,λj d u h1 h2=>?_⟩,?_⟩
 ·rcases j with _ | _ | _ | _ | _ | j
  ·exact r0.part (jj:=0) (by kernel_rfl) h1 h2
  ·exact r1.part (jj:=0) (by kernel_rfl) h1 h2
  ·exact r2.part (jj:=0) (by kernel_rfl) h1 h2
  ·exact r3.part (jj:=0) (by kernel_rfl) h1 h2
  ·exact r4.part (jj:=0) (by kernel_rfl) h1 h2
  ·cases h1
 ·rw[hx]
  refine wq ?_ hm
  show(1)+(1)+(a2.length+1)+(1)+((a4.map mu_39).sum+1)+1≤_
  omega
def ok_163(x:As):Prop:=(Lit.int .i64 x.Row).wf=true∧(Lit.int .i64 x.Col).wf=true∧(Lit.int .i64 x.H).wf=true∧(Lit.int .i64 x.W).wf=true
def mu_163(x:As):Nat:=(1)+(1)+(1)+(1)+1
theorem rd_163{H:Type}{enc:TypeId × Value→H}{W:World}(K:Gi H):BY K enc prog W 163 As.row ok_163 mu_163:=by
 intro fuel cs x h
 obtain⟨hlen,xs,hx,hxl,hf⟩:=Ib (n:=4) underlying163 (by kernel_rfl) h
 obtain⟨y0,n0,g0,t0⟩:=hf 0 _ rfl
 obtain⟨y1,n1,g1,t1⟩:=hf 1 _ rfl
 obtain⟨y2,n2,g2,t2⟩:=hf 2 _ rfl
 obtain⟨y3,n3,g3,t3⟩:=hf 3 _ rfl
 obtain rfl:xs=[y0,y1,y2,y3]:=Ih hxl (λj y hj=>by
  rcases j with _ | _ | _ | _ | j
  ·cases hj;exact g0
  ·cases hj;exact g1
  ·cases hj;exact g2
  ·cases hj;exact g3
  ·cases hj)
 obtain⟨a0,k0,r0,m0⟩:=((BY.int K underlying3)) _ _ _ t0
 obtain⟨a1,k1,r1,m1⟩:=((BY.int K underlying3)) _ _ _ t1
 obtain⟨a2,k2,r2,m2⟩:=((BY.int K underlying3)) _ _ _ t2
 obtain⟨a3,k3,r3,m3⟩:=((BY.int K underlying3)) _ _ _ t3
 have m0:1≤K.B y0.1:=m0
 have m1:1≤K.B y1.1:=m1
 have m2:1≤K.B y2.1:=m2
 have m3:1≤K.B y3.1:=m3
 have hm:=K.agg (List.map (λz:DataW H × List MemPlace=>z.1) [y0,y1,y2,y3])
 simp only[wB,xm,wv,yR] at hm
 refine⟨⟨a0,a1,a2,a3⟩,⟨k0,k1,k2,k3⟩,⟨hlen,λj d u h1 h2=>?_⟩,?_⟩
 ·rcases j with _ | _ | _ | _ | j
  ·exact r0.part (jj:=0) (by kernel_rfl) h1 h2
  ·exact r1.part (jj:=0) (by kernel_rfl) h1 h2
  ·exact r2.part (jj:=0) (by kernel_rfl) h1 h2
  ·exact r3.part (jj:=0) (by kernel_rfl) h1 h2
  ·cases h1
 ·rw[hx]
  refine wq ?_ hm
  show(1)+(1)+(1)+(1)+1≤_
  omega
def ok_43(x:BX):Prop:=(Lit.int .i64 x.Rows).wf=true∧(Lit.int .i64 x.Cols).wf=true∧(x.Cells.length≤maxLen∧∀a∈x.Cells,ok_183 a)∧(x.Merges.length≤maxLen∧∀a∈x.Merges,ok_163 a)
def mu_43(x:BX):Nat:=(1)+(1)+((x.Cells.map mu_183).sum+1)+((x.Merges.map mu_163).sum+1)+1
theorem rd_43{H:Type}{enc:TypeId × Value→H}{W:World}(K:Gi H):BY K enc prog W 43 BX.row ok_43 mu_43:=by
 intro fuel cs x h
 obtain⟨hlen,xs,hx,hxl,hf⟩:=Ib (n:=4) underlying43 (by kernel_rfl) h
 obtain⟨y0,n0,g0,t0⟩:=hf 0 _ rfl
 obtain⟨y1,n1,g1,t1⟩:=hf 1 _ rfl
 obtain⟨y2,n2,g2,t2⟩:=hf 2 _ rfl
 obtain⟨y3,n3,g3,t3⟩:=hf 3 _ rfl
 obtain rfl:xs=[y0,y1,y2,y3]:=Ih hxl (λj y hj=>by
  rcases j with _ | _ | _ | _ | j
  ·cases hj;exact g0
  ·cases hj;exact g1
  ·cases hj;exact g2
  ·cases hj;exact g3
  ·cases hj)
 obtain⟨a0,k0,r0,m0⟩:=((BY.int K underlying3)) _ _ _ t0
 obtain⟨a1,k1,r1,m1⟩:=((BY.int K underlying3)) _ _ _ t1
 obtain⟨a2,k2,r2,m2⟩:=((BY.slice K (sz:=5) underlying40 (by kernel_rfl) (by decide) (rd_183 K) (λ_=>rfl))) _ _ _ t2
 obtain⟨a3,k3,r3,m3⟩:=((BY.slice K (sz:=4) underlying41 (by kernel_rfl) (by decide) (rd_163 K) (λ_=>rfl))) _ _ _ t3
 have m0:1≤K.B y0.1:=m0
 have m1:1≤K.B y1.1:=m1
 have m2:(a2.map mu_183).sum+1≤K.B y2.1:=m2
 have m3:(a3.map mu_163).sum+1≤K.B y3.1:=m3
 have hm:=K.agg (List.map (λz:DataW H × List MemPlace=>z.1) [y0,y1,y2,y3])
 simp only[wB,xm,wv,yR] at hm
 refine⟨⟨a0,a1,a2,a3⟩,⟨k0,k1,k2,k3⟩,⟨hlen,λj d u h1 h2=>?_⟩,?_⟩
 ·rcases j with _ | _ | _ | _ | j
  ·exact r0.part (jj:=0) (by kernel_rfl) h1 h2
  ·exact r1.part (jj:=0) (by kernel_rfl) h1 h2
  ·exact r2.part (jj:=0) (by kernel_rfl) h1 h2
  ·exact r3.part (jj:=0) (by kernel_rfl) h1 h2
  ·cases h1
 ·rw[hx]
  refine wq ?_ hm
  show(1)+(1)+((a2.map mu_183).sum+1)+((a3.map mu_163).sum+1)+1≤_
  omega
def ok_165(x:BQ):Prop:=(Lit.int .i64 x.Clock).wf=true∧(Lit.int .i64 x.Site).wf=true∧(Lit.int .i64 x.Kind).wf=true∧(Lit.int .i64 x.Item).wf=true∧(Lit.int .i64 x.Parent).wf=true∧x.Place.length≤maxLen∧x.Name.length≤maxLen∧x.Value.length≤maxLen
def mu_165(x:BQ):Nat:=(1)+(1)+(1)+(1)+(1)+(x.Place.length+1)+(x.Name.length+1)+(x.Value.length+1)+1
theorem rd_165{H:Type}{enc:TypeId × Value→H}{W:World}(K:Gi H):BY K enc prog W 165 BQ.row ok_165 mu_165:=by
 intro fuel cs x h
 obtain⟨hlen,xs,hx,hxl,hf⟩:=Ib (n:=8) underlying165 (by kernel_rfl) h
 obtain⟨y0,n0,g0,t0⟩:=hf 0 _ rfl
 obtain⟨y1,n1,g1,t1⟩:=hf 1 _ rfl
 obtain⟨y2,n2,g2,t2⟩:=hf 2 _ rfl
 obtain⟨y3,n3,g3,t3⟩:=hf 3 _ rfl
 obtain⟨y4,n4,g4,t4⟩:=hf 4 _ rfl
 obtain⟨y5,n5,g5,t5⟩:=hf 5 _ rfl
 obtain⟨y6,n6,g6,t6⟩:=hf 6 _ rfl
 obtain⟨y7,n7,g7,t7⟩:=hf 7 _ rfl
 obtain rfl:xs=[y0,y1,y2,y3,y4,y5,y6,y7]:=Ih hxl (λj y hj=>by
  rcases j with _ | _ | _ | _ | _ | _ | _ | _ | j
  ·cases hj;exact g0
  ·cases hj;exact g1
  ·cases hj;exact g2
  ·cases hj;exact g3
  ·cases hj;exact g4
  ·cases hj;exact g5
  ·cases hj;exact g6
  ·cases hj;exact g7
  ·cases hj)
 obtain⟨a0,k0,r0,m0⟩:=((BY.int K underlying3)) _ _ _ t0
 obtain⟨a1,k1,r1,m1⟩:=((BY.int K underlying3)) _ _ _ t1
 obtain⟨a2,k2,r2,m2⟩:=((BY.int K underlying3)) _ _ _ t2
 obtain⟨a3,k3,r3,m3⟩:=((BY.int K underlying3)) _ _ _ t3
 obtain⟨a4,k4,r4,m4⟩:=((BY.int K underlying3)) _ _ _ t4
 obtain⟨a5,k5,r5,m5⟩:=((BY.str K underlying9)) _ _ _ t5
 obtain⟨a6,k6,r6,m6⟩:=((BY.str K underlying9)) _ _ _ t6
 obtain⟨a7,k7,r7,m7⟩:=((BY.str K underlying9)) _ _ _ t7
 have m0:1≤K.B y0.1:=m0
 have m1:1≤K.B y1.1:=m1
 have m2:1≤K.B y2.1:=m2
 have m3:1≤K.B y3.1:=m3
 have m4:1≤K.B y4.1:=m4
 have m5:a5.length+1≤K.B y5.1:=m5
 have m6:a6.length+1≤K.B y6.1:=m6
 have m7:a7.length+1≤K.B y7.1:=m7
 have hm:=K.agg (List.map (λz:DataW H × List MemPlace=>z.1) [y0,y1,y2,y3,y4,y5,y6,y7])
 simp only[wB,xm,wv,yR] at hm
 refine⟨⟨a0,a1,a2,a3,a4,a5,a6,a7⟩,⟨k0,k1,k2,k3,k4,k5,k6,k7⟩,⟨hlen,λj d u h1 h2=>?_⟩,?_⟩
 ·rcases j with _ | _ | _ | _ | _ | _ | _ | _ | j
  ·exact r0.part (jj:=0) (by kernel_rfl) h1 h2
  ·exact r1.part (jj:=0) (by kernel_rfl) h1 h2
  ·exact r2.part (jj:=0) (by kernel_rfl) h1 h2
  ·exact r3.part (jj:=0) (by kernel_rfl) h1 h2
  ·exact r4.part (jj:=0) (by kernel_rfl) h1 h2
  ·exact r5.part (jj:=0) (by kernel_rfl) h1 h2
  ·exact r6.part (jj:=0) (by kernel_rfl) h1 h2
  ·exact r7.part (jj:=0) (by kernel_rfl) h1 h2
  ·cases h1
 ·rw[hx]
  refine wq ?_ hm
  show(1)+(1)+(1)+(1)+(1)+(a5.length+1)+(a6.length+1)+(a7.length+1)+1≤_
  omega
def ok_46(x:Ak):Prop:=(Lit.int .i64 x.ID).wf=true∧(Lit.int .i64 x.Kind).wf=true∧(x.Attrs.length≤maxLen∧∀a∈x.Attrs,ok_39 a)∧(x.Flow.length≤maxLen∧∀a∈x.Flow,ok_37 a)∧ok_43 x.Grid∧(x.Draw.length≤maxLen∧∀a∈x.Draw,ok_165 a)
def mu_46(x:Ak):Nat:=(1)+(1)+((x.Attrs.map mu_39).sum+1)+((x.Flow.map mu_37).sum+1)+(mu_43 x.Grid)+((x.Draw.map mu_165).sum+1)+1
theorem rd_46{H:Type}{enc:TypeId × Value→H}{W:World}(K:Gi H):BY K enc prog W 46 Ak.row ok_46 mu_46:=by
 intro fuel cs x h
 obtain⟨hlen,xs,hx,hxl,hf⟩:=Ib (n:=9) underlying46 (by kernel_rfl) h
 obtain⟨y0,n0,g0,t0⟩:=hf 0 _ rfl
 obtain⟨y1,n1,g1,t1⟩:=hf 1 _ rfl
 obtain⟨y2,n2,g2,t2⟩:=hf 2 _ rfl
 obtain⟨y3,n3,g3,t3⟩:=hf 3 _ rfl
 obtain⟨y4,n4,g4,t4⟩:=hf 4 _ rfl
 obtain⟨y5,n5,g5,t5⟩:=hf 5 _ rfl
 obtain rfl:xs=[y0,y1,y2,y3,y4,y5]:=Ih hxl (λj y hj=>by
  rcases j with _ | _ | _ | _ | _ | _ | j
  ·cases hj;exact g0
  ·cases hj;exact g1
  ·cases hj;exact g2
  ·cases hj;exact g3
  ·cases hj;exact g4
  ·cases hj;exact g5
  ·cases hj)
 obtain⟨a0,k0,r0,m0⟩:=((BY.int K underlying3)) _ _ _ t0
 obtain⟨a1,k1,r1,m1⟩:=((BY.int K underlying3)) _ _ _ t1
 obtain⟨a2,k2,r2,m2⟩:=((BY.slice K (sz:=2) underlying35 (by kernel_rfl) (by decide) (rd_39 K) (λ_=>rfl))) _ _ _ t2
 obtain⟨a3,k3,r3,m3⟩:=((BY.slice K (sz:=3) underlying27 (by kernel_rfl) (by decide) (rd_37 K) (λ_=>rfl))) _ _ _ t3
 obtain⟨a4,k4,r4,m4⟩:=((rd_43 K)) _ _ _ t4
 obtain⟨a5,k5,r5,m5⟩:=((BY.slice K (sz:=8) underlying44 (by kernel_rfl) (by decide) (rd_165 K) (λ_=>rfl))) _ _ _ t5
 have m0:1≤K.B y0.1:=m0
 have m1:1≤K.B y1.1:=m1
 have m2:(a2.map mu_39).sum+1≤K.B y2.1:=m2
 have m3:(a3.map mu_37).sum+1≤K.B y3.1:=m3
 have m4:mu_43 a4≤K.B y4.1:=m4
 have m5:(a5.map mu_165).sum+1≤K.B y5.1:=m5
 have hm:=K.agg (List.map (λz:DataW H × List MemPlace=>z.1) [y0,y1,y2,y3,y4,y5])
 simp only[wB,xm,wv,yR] at hm
 refine⟨⟨a0,a1,a2,a3,a4,a5⟩,⟨k0,k1,k2,k3,k4,k5⟩,⟨hlen,λj d u h1 h2=>?_⟩,?_⟩
 ·rcases j with _ | _ | _ | _ | _ | _ | _ | _ | _ | j
  ·exact r0.part (jj:=0) (by kernel_rfl) h1 h2
  ·exact r1.part (jj:=0) (by kernel_rfl) h1 h2
  ·exact r2.part (jj:=0) (by kernel_rfl) h1 h2
  ·exact r3.part (jj:=0) (by kernel_rfl) h1 h2
  ·exact r4.part (jj:=0) (by kernel_rfl) h1 h2
  ·exact r4.part (jj:=1) (by kernel_rfl) h1 h2
  ·exact r4.part (jj:=2) (by kernel_rfl) h1 h2
  ·exact r4.part (jj:=3) (by kernel_rfl) h1 h2
  ·exact r5.part (jj:=0) (by kernel_rfl) h1 h2
  ·cases h1
 ·rw[hx]
  refine wq ?_ hm
  show(1)+(1)+((a2.map mu_39).sum+1)+((a3.map mu_37).sum+1)+(mu_43 a4)+((a5.map mu_165).sum+1)+1≤_
  omega
def ok_24(x:B2):Prop:=(x.Nodes.length≤maxLen∧∀a∈x.Nodes,ok_46 a)
def mu_24(x:B2):Nat:=((x.Nodes.map mu_46).sum+1)+1
theorem rd_24{H:Type}{enc:TypeId × Value→H}{W:World}(K:Gi H):BY K enc prog W 24 B2.row ok_24 mu_24:=by
 intro fuel cs x h
 obtain⟨hlen,xs,hx,hxl,hf⟩:=Ib (n:=1) underlying24 (by kernel_rfl) h
 obtain⟨y0,n0,g0,t0⟩:=hf 0 _ rfl
 obtain rfl:xs=[y0]:=Ih hxl (λj y hj=>by
  rcases j with _ | j
  ·cases hj;exact g0
  ·cases hj)
 obtain⟨a0,k0,r0,m0⟩:=((BY.slice K (sz:=9) underlying22 (by kernel_rfl) (by decide) (rd_46 K) (λ_=>rfl))) _ _ _ t0
 have m0:(a0.map mu_46).sum+1≤K.B y0.1:=m0
 have hm:=K.agg (List.map (λz:DataW H × List MemPlace=>z.1) [y0])
 simp only[wB,xm,wv,yR] at hm
 refine⟨⟨a0⟩,k0,⟨hlen,λj d u h1 h2=>?_⟩,?_⟩
 ·rcases j with _ | j
  ·exact r0.part (jj:=0) (by kernel_rfl) h1 h2
  ·cases h1
 ·rw[hx]
  refine wq ?_ hm
  show((a0.map mu_46).sum+1)+1≤_
  omega
def ok_26(x:BW):Prop:=(Lit.int .i64 x.Node).wf=true∧(Lit.int .i64 x.From).wf=true∧(Lit.int .i64 x.To).wf=true
def mu_26(x:BW):Nat:=(1)+(1)+(1)+1
theorem rd_26{H:Type}{enc:TypeId × Value→H}{W:World}(K:Gi H):BY K enc prog W 26 BW.row ok_26 mu_26:=by
 intro fuel cs x h
 obtain⟨hlen,xs,hx,hxl,hf⟩:=Ib (n:=3) underlying26 (by kernel_rfl) h
 obtain⟨y0,n0,g0,t0⟩:=hf 0 _ rfl
 obtain⟨y1,n1,g1,t1⟩:=hf 1 _ rfl
 obtain⟨y2,n2,g2,t2⟩:=hf 2 _ rfl
 obtain rfl:xs=[y0,y1,y2]:=Ih hxl (λj y hj=>by
  rcases j with _ | _ | _ | j
  ·cases hj;exact g0
  ·cases hj;exact g1
  ·cases hj;exact g2
  ·cases hj)
 obtain⟨a0,k0,r0,m0⟩:=((BY.int K underlying3)) _ _ _ t0
 obtain⟨a1,k1,r1,m1⟩:=((BY.int K underlying3)) _ _ _ t1
 obtain⟨a2,k2,r2,m2⟩:=((BY.int K underlying3)) _ _ _ t2
 have m0:1≤K.B y0.1:=m0
 have m1:1≤K.B y1.1:=m1
 have m2:1≤K.B y2.1:=m2
 have hm:=K.agg (List.map (λz:DataW H × List MemPlace=>z.1) [y0,y1,y2])
 simp only[wB,xm,wv,yR] at hm
 refine⟨⟨a0,a1,a2⟩,⟨k0,k1,k2⟩,⟨hlen,λj d u h1 h2=>?_⟩,?_⟩
 ·rcases j with _ | _ | _ | j
  ·exact r0.part (jj:=0) (by kernel_rfl) h1 h2
  ·exact r1.part (jj:=0) (by kernel_rfl) h1 h2
  ·exact r2.part (jj:=0) (by kernel_rfl) h1 h2
  ·cases h1
 ·rw[hx]
  refine wq ?_ hm
  show(1)+(1)+(1)+1≤_
  omega
theorem tabs{W:World}(h:laidMetH prog Rows.selectionPasteMatchesUptoRow.laid W):F6 (Cx.start W):=by
 have h':laidMet prog Rows.selectionPasteMatchesUptoRow.laid W:=h
 refine my (d1:=Go.Pinned.utf8First) (d2:=Rows.laid_unicode_utf8_acceptRanges) (t1:=192) (t2:=196) (e1:=5) (e2:=195) (Go.Lib.laidMet.reads h' ?_) (by kernel_rfl) (by kernel_rfl) (by kernel_rfl) underlying192 underlying5 (by kernel_rfl) (by kernel_rfl)
  (Go.Lib.laidMet.reads h' ?_) (by kernel_rfl) (by kernel_rfl) (by kernel_rfl) underlying196 underlying195 (λi f hf=>?_) rfl (by kernel_rfl)
 ·exact .tail _ (.tail _ (.tail _ (.tail _ (.tail _ (.tail _ (.head _))))))
 ·exact .tail _ (.tail _ (.tail _ (.head _)))
 ·rcases i with _ | _ | i
  ·cases hf;exact⟨underlying5,rfl,by kernel_rfl⟩
  ·cases hf;exact⟨underlying5,rfl,by kernel_rfl⟩
  ·cases hf
set_option maxRecDepth 100000 in
theorem contract(H:Type)(enc:TypeId × Value→H)(W:World)(base:Nat)(args:Array Value)(ds gs:List (DataW H))(before:List MemPlace)
  (hval:∀(j:Nat) t v,Tryz.f3.params[j]?=some t→args[j]?=some v→Value.okWide prog W .any base t v)
  (hW:DataW.Whole enc prog Tryz.f3.params.toList Rows.selectionPasteMatchesSpec.vars false W args.toList ds gs before) (hk0:Rows.uptoSmall H (ds++gs)=true) (hL:laidMetH prog Rows.selectionPasteMatchesUptoRow.laid W) :
  Calls prog 3 args W λe W'=>∃v,e=.returned v∧Rows.selectionPasteMatchesSpec.post enc prog Tryz.f3 false true false false W args v W':=by
 have hW':=hW
 obtain⟨p,q,hA0,hV,rfl,hfz,hnd⟩:=hW
 have hA:DataW.TrodAll enc prog W 0 (λ_=>true) true Tryz.f3.params.toList args.toList ds p:=hA0
 rw[Tryz.params3] at hA hval
 obtain⟨v0,vs0,d0,ds0,p0,q0,hargs,rfl,rfl,h0,e0⟩:=trodAll_cons hA
 obtain⟨v1,vs1,d1,ds1,p1,q1,rfl,rfl,rfl,h1,e1⟩:=trodAll_cons e0
 obtain⟨v2,vs2,d2,ds2,p2,q2,rfl,rfl,rfl,h2,e2⟩:=trodAll_cons e1
 obtain⟨v3,vs3,d3,ds3,p3,q3,rfl,rfl,rfl,h3,e3⟩:=trodAll_cons e2
 obtain⟨rfl,rfl,rfl⟩:=trodAll_nil e3
 obtain rfl:args = #[v0,v1,v2,v3]:=by cases args;simp_all
 obtain⟨rfl,rfl⟩:=trodVars_none hV
 have hk:(blk H).B d0+(blk H).B d1+(blk H).B d2+(blk H).B d3≤1048576:=by
  have:=yE hk0
  simp only[wG,Rows.uptoBulkAll] at this
  show Rows.uptoBulk d0+Rows.uptoBulk d1+Rows.uptoBulk d2+Rows.uptoBulk d3≤1048576
  omega
 obtain⟨x0,k0,r0,m0⟩:=Y2 (blk H) underlying24 (rd_24 (blk H)) (hval 0 24 v0 rfl rfl) h0
 obtain⟨x1,k1,r1,m1⟩:=Y2 (blk H) underlying26 (rd_26 (blk H)) (hval 1 26 v1 rfl rfl) h1
 obtain⟨x2,k2,r2,m2⟩:=kv (blk H) underlying27 (BY.slice (blk H) (sz:=3) underlying27 (by kernel_rfl) (by decide) (rd_37 (blk H)) (λ_=>rfl)) (hval 2 27 v2 rfl rfl) h2
 obtain⟨x3,k3,r3,m3⟩:=ol (blk H) underlying9 (hval 3 9 v3 rfl rfl) h3
 clear hA0
 have h0:=nq (μ:=mu_46) (γ:=mu_43) (ψ:=mu_183) (ρ:=mu_163) (δ:=mu_165) (ν:=mu_37) (κ:=mu_39) (λn=>by unfold mu_46;omega) (λg=>by unfold mu_43;omega) (λc=>by unfold mu_183;omega) (λr=>by unfold mu_163;omega) (λo=>by unfold mu_165;omega) (λe=>by unfold mu_37;omega) (λa=>by unfold mu_39;omega) (d:=x0) (by have m0':=m0;unfold mu_24 at m0';omega)
 have h5:=ns (μ:=mu_46) (ν:=mu_37) (κ:=mu_39) (λn=>by unfold mu_46;omega) (λe=>by unfold mu_37;omega) (λa=>by unfold mu_39;omega) (d:=x0) (by have m0':=m0;unfold mu_24 at m0';omega)
 have h6:=ZB (ν:=mu_37) (κ:=mu_39) (λe=>by unfold mu_37;omega) (λa=>by unfold mu_39;omega) (f:=x2) (by omega)
 have h7:=qj (ν:=mu_37) (κ:=mu_39) (λe=>by unfold mu_37;omega) (λa=>by unfold mu_39;omega) (l:=x2) (by omega)
 have hp:=kE x0 x1 x2 x3 h0 h5 h6.1 (λe he=>⟨h6.2 e he,h7 e he⟩) (by omega)
 obtain⟨_,_,hc⟩:=iw hp
 refine(hc (Cx.start W) #[v0,v1,v2,v3] (u5 W (tabs hL)) rfl ⟨rfl,λi a u k1 k2=>?_⟩).mono λe W' ⟨u,y,he,hy,hle,hok,hr⟩=>?_
 ·rcases i with _ | _ | _ | _ | i
  ·cases k1;cases k2;exact r0
  ·cases k1;cases k2;exact r1
  ·cases k1;cases k2;exact .r r2
  ·cases k1;cases k2;exact .r r3
  ·cases k1
 ·subst he;subst hy
  obtain rfl:=Gp hr
  exact⟨_,rfl,lY (by kernel_rfl) (by rw[Tryz.params3];intro t ht;simp at ht;rcases ht with rfl | rfl | rfl | rfl<;>exact⟨by kernel_rfl,yE (by kernel_rfl)⟩) rfl hW' hle rfl rfl
   (λ_ _ _=>trodAll_cons_mk (shut_bool underlying4 _) trodAll_mk0)⟩
def lay(cs:List Value):Obj→Obj
 | .cells _ t frozen=>.cells cs.toArray t frozen
 | o=>o
def litsOf:DataW Unit→List Value
 | .agg l=>l.map λd=>match d with | .lit (.int k z)=>Value.int k z | _=>undef
 | _=>[]
def textOf:DataW Unit→Value
 | .iface _ (.ptr (.agg [.lit (.string s)]))=>Value.string ⟨s.toArray⟩
 | _=>undef
noncomputable def holdW(os:Os):World:=World.holding prog os ⟨#[],#[],[]⟩
noncomputable def laidWorld(os:Os):World:=
 { holdW os with heap:=((((((((((holdW os).heap.modify 6 (lay (litsOf Rows.laid_math_bits_deBruijn32tab))).modify 7 (lay (litsOf Rows.laid_math_bits_deBruijn64tab))).modify 4 (lay (litsOf Rows.laid_internal_strconv_uint64pow10))).modify IP (lay (JJ.flatMap λp=>[Value.int .u8 p.1,Value.int .u8 p.2]))).modify 3 (lay [Value.iface 384 (.pointer (some ⟨(holdW os).heap.size+0,0,none⟩))])).modify 2 (lay [Value.iface 384 (.pointer (some ⟨(holdW os).heap.size+1,0,none⟩))])).modify Ii (lay (GK.map λz=>Value.int .u8 z))).push (Obj.cells #[textOf Rows.laid_strconv_ErrRange] 386 (0,0))).push (Obj.cells #[textOf Rows.laid_strconv_ErrSyntax] 386 (0,0))) }
theorem laid_met(os:Os):laidMet prog Rows.selectionPasteMatchesUptoRow.laid ((laidWorld os).forCall (λ_ _=>0) ⟨#[],#[.agg #[.slice none 0 0],.agg #[.int .i64 0,.int .i64 0,.int .i64 0],.slice none 0 0,.string ⟨#[]⟩],[]⟩).memory:=
 laidMet_of_run' 8 (by kernel_rfl) (by kernel_rfl)
theorem reads(os:Os){H:Type}(enc:TypeId × Value→H):∃places,DataW.whole enc prog ((laidWorld os).forCall (λ_ _=>0) ⟨#[],#[.agg #[.slice none 0 0],.agg #[.int .i64 0,.int .i64 0,.int .i64 0],.slice none 0 0,.string ⟨#[]⟩],[]⟩).memory Tryz.f3.params.toList Rows.selectionPasteMatchesSpec.vars false (#[.agg #[.slice none 0 0],.agg #[.int .i64 0,.int .i64 0,.int .i64 0],.slice none 0 0,.string ⟨#[]⟩]:Array Value).toList 8=some ([.agg [.nil],.agg [.lit (.int .i64 0),.lit (.int .i64 0),.lit (.int .i64 0)],.nil,.lit (.string [])],[],places):=
 ⟨[],by kernel_rfl⟩
set_option maxRecDepth 100000 in
theorem lifted(os:Os)(started:os.Started)(H:Type)(enc:TypeId × Value→H)(F:Stop.Interp) :
  ReturnsInHanded {} Tryz.checked os 3 .any ((Rows.OpenSpec.upto Rows.selectionPasteMatchesSpec).preRow enc prog Tryz.f3 Rows.selectionPasteMatchesUptoRow.domain false Rows.selectionPasteMatchesUptoRow.laid) (((Rows.OpenSpec.upto Rows.selectionPasteMatchesSpec).at F).post enc prog Tryz.f3 false true false false):=by
 obtain⟨places,hx⟩:=reads os enc
 refine returnsInHanded_of_row (C:=Tryz.checked) (s:=Rows.OpenSpec.upto Rows.selectionPasteMatchesSpec) own started (by kernel_rfl) func3
  (witness_row_at (enc:=enc) (C:=Tryz.checked) false (laidWorld os) #[.agg #[.slice none 0 0],.agg #[.int .i64 0,.int .i64 0,.int .i64 0],.slice none 0 0,.string ⟨#[]⟩] rfl (by kernel_rfl) (by kernel_rfl) (by kernel_rfl)
   (OpenSpec.preRow_of_cond 8 hx (by kernel_rfl) (λk hk=>by cases hk;kernel_rfl) (by kernel_rfl) (laid_met os))) ?_
 intro W base args ds gs before hval hW _ hk _ hL _ _
 exact contract H enc W base args ds gs before hval hW (hk _ rfl) hL
theorem and_tt{a b:Bool}(ha:a=true)(hb:b=true):(a&&b)=true:=by rw[ha,hb];rfl
set_option maxHeartbeats 4000000 in
theorem closed:joinedFacts prog 3 Tryz.f3 (Rows.OpenSpec.upto Rows.selectionPasteMatchesSpec).bare Rows.selectionPasteMatchesUptoRow=true:=by
 unfold joinedFacts
 refine and_tt ?_ (by as_aux_lemma=>kernel_rfl)
 refine and_tt ?_ (by as_aux_lemma=>kernel_rfl)
 refine and_tt ?_ (by as_aux_lemma=>kernel_rfl)
 refine and_tt ?_ (by as_aux_lemma=>kernel_rfl)
 refine and_tt ?_ (by as_aux_lemma=>kernel_rfl)
 refine and_tt ?_ (by as_aux_lemma=>kernel_rfl)
 refine and_tt ?_ (by as_aux_lemma=>kernel_rfl)
 refine and_tt ?_ (by as_aux_lemma=>kernel_rfl)
 refine and_tt ?_ (by as_aux_lemma=>kernel_rfl)
 refine and_tt ?_ (by as_aux_lemma=>kernel_rfl)
 refine and_tt ?_ (by as_aux_lemma=>kernel_rfl)
 refine and_tt ?_ (by as_aux_lemma=>kernel_rfl)
 refine and_tt ?_ (by as_aux_lemma=>kernel_rfl)
 refine and_tt ?_ (by as_aux_lemma=>kernel_rfl)
 refine and_tt ?_ (by as_aux_lemma=>kernel_rfl)
 refine and_tt ?_ (by as_aux_lemma=>kernel_rfl)
 refine and_tt ?_ (by as_aux_lemma=>kernel_rfl)
 refine and_tt ?_ (by as_aux_lemma=>kernel_rfl)
 refine and_tt ?_ (by as_aux_lemma=>kernel_rfl)
 refine and_tt ?_ (by as_aux_lemma=>kernel_rfl)
 refine and_tt ?_ (by as_aux_lemma=>kernel_rfl)
 refine and_tt ?_ (by as_aux_lemma=>kernel_rfl)
 refine and_tt ?_ (by as_aux_lemma=>kernel_rfl)
 refine and_tt ?_ (by as_aux_lemma=>kernel_rfl)
 refine and_tt ?_ (by as_aux_lemma=>kernel_rfl)
 refine and_tt ?_ (by as_aux_lemma=>kernel_rfl)
 refine and_tt ?_ (by as_aux_lemma=>kernel_rfl)
 refine and_tt ?_ (by as_aux_lemma=>kernel_rfl)
 refine and_tt ?_ (by as_aux_lemma=>kernel_rfl)
 refine and_tt ?_ (by as_aux_lemma=>kernel_rfl)
 refine and_tt ?_ (by as_aux_lemma=>kernel_rfl)
 kernel_rfl
theorem goes_apart{P:Program}{c:OpenClaim}(hs:c.start=.entering)(h:P.funcs.any Func.goes=false):false=c.goesBy P:=by
 have h':∀g:FuncId,(P.funcs[g]?).any Func.goes=false:=λg=>by
  cases e:P.funcs[g]? with
  | none=>rfl
  | some x=>
   obtain⟨hg,rfl⟩:=wm.1 e
   exact yD.2 λhx=>(yD.1 h) (Array.any_eq_true.2 ⟨g,hg,hx⟩)
 unfold OpenClaim.goesBy Program.goesAt Program.goesFrom Program.goes
 rw[hs,h]
 cases P.funcNamed c.func with
 | none=>rfl
 | some f=>simp[h']
theorem goes_not:prog.funcs.any Func.goes=false:=by kernel_rfl
theorem over:Rows.SelectionPasteMatchesUptoSaid:=
 OpenClaim.holds_of_cond 3 Tryz.f3 rfl rfl rfl rfl rfl rfl rfl ⟨rfl,rfl,rfl,rfl,rfl⟩ rfl rfl rfl rfl rfl (by kernel_rfl) func3 closed
  (yE (by kernel_rfl)) (by unfold Func.isWrapper;first | (rw[vh (by decide +kernel)];kernel_rfl) | (rw[vg (by decide +kernel)];exact⟨rfl,rfl⟩))
  (λos started H enc _ F=>by rw[OpenClaim.pre_eq_preRow];exact lifted os started H enc F)
theorem plain (f : FuncId) (fn : Func) (hf : Tryz.pinned.checked.prog.funcNamed "chancery/chancerylaw1.SelectionPasteMatches" = some f) (hfn : Tryz.pinned.checked.prog.funcs[f]? = some fn) :
  true=Tryz.pinned.checked.prog.looks []∧∀(j:Nat) t,fn.params[j]?=some t→Tryz.pinned.checked.prog.wantsStandIn t=false:=by
 obtain rfl : f = 3 := wY ((show prog.funcNamed "chancery/chancerylaw1.SelectionPasteMatches" = some 3 by kernel_rfl).symm.trans hf) |>.symm
 obtain rfl:fn=Tryz.f3:=(wY (func3.symm.trans hfn)).symm
 refine⟨by kernel_rfl,λj t ht=>?_⟩
 rw[Tryz.params3] at ht
 rcases j with _ | _ | _ | _ | j
 ·cases ht;exact(show prog.wantsStandIn 24=false by kernel_rfl)
 ·cases ht;exact(show prog.wantsStandIn 26=false by kernel_rfl)
 ·cases ht;exact(show prog.wantsStandIn 27=false by kernel_rfl)
 ·cases ht;exact(show prog.wantsStandIn 9=false by kernel_rfl)
 ·cases ht
theorem proved:Rows.SelectionPasteMatchesUptoCardSaid:=
 Claim7.holds_tied_plain_at .later [] _ _ _ _ over (λ_ h=>by cases h) (by kernel_rfl) (λ_ h=>by cases h) selectionPasteMatchesUpto_row_tie rfl ⟨rfl,rfl⟩ (by kernel_rfl) rfl plain (goes_apart rfl goes_not)
#print axioms proved
end Go.Proofs.YtgcalnmhoifpoaaGreatDoor.Al.RSelPaste
