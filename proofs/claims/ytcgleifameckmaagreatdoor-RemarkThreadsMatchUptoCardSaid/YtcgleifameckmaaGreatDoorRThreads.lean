/-
  PROVED: 'RemarkThreadsMatch' returns true whatever its arguments of bulk at most 1048576 are, and leaves them as they were (statement 'RemarkThreadsMatchUptoCardSaid'). Conditions: none but the bulk.
-/
import Derived.Test.YtcgleifameckmaaGreatDoorWlk363x2
import Derived.Deep.DeepHandedRow
import Derived.JoinedCond
import Derived.Lib.LaidTab
import Derived.OpenShut
import Derived.ProofKit
import Derived.Test.YtcgleifameckmaaGreatDoorCards
import Derived.Test.YtcgleifameckmaaGreatDoorChecked
import Derived.Test.YtcgleifameckmaaGreatDoorRows
import Derived.Test.YtcgleifameckmaaGreatDoorTie
import Derived.WalkKit
set_option linter.all false
namespace Go.Proofs.YtcgleifameckmaaGreatDoor.Al.RThreads
open Go.Proofs Go.Proofs.Tryz Go.Proofs.YtcgleifameckmaaGreatDoor.Al Go.Proofs.YtcgleifameckmaaGreatDoor
open Go.ChangeShapes Go.WideShapes Go.ChangeAt Go.RowKit
set_option linter.unusedVariables false
theorem own:ownKnob prog.godebug=none:=by kernel_rfl
theorem blk_all{H:Type}(l:List (DataW H)):(l.map Rows.uptoBulk).sum=Rows.uptoBulkAll l:=by
 induction l with
 | nil=>simp[Rows.uptoBulkAll]
 | cons d l ih=>rw[xj,yl,ih,Rows.uptoBulkAll]
def blk(H:Type):G8 H where
 B:=Rows.uptoBulk
 one:=λd=>by
  cases d with
  | lit l=>cases l<;>simp[Rows.uptoBulk]
  | nil=>simp[Rows.uptoBulk]
  | ptr d=>simp[Rows.uptoBulk]
  | slice elems spare=>simp[Rows.uptoBulk]
  | agg parts=>simp[Rows.uptoBulk]
  | iface t d=>simp[Rows.uptoBulk]
  | map entries=>simp[Rows.uptoBulk]
  | held h=>simp[Rows.uptoBulk]
 str:=λs=>by simp[Rows.uptoBulk]
 sl:=λl r=>by rw[blk_all,Rows.uptoBulk];omega
 agg:=λl=>by rw[blk_all,Rows.uptoBulk];omega
def ok_91(x:AH):Prop:=x.Name.length<=maxLen/\x.Value.length<=maxLen
def mu_91(x:AH):Nat:=(x.Name.length+1)+(x.Value.length+1)+1
theorem rd_91{H:Type}{enc:TypeId × Value->H}{W:World}(K:G8 H):Bg K enc prog W 91 AH.row ok_91 mu_91:=by
 intro fuel cs x h
 obtain⟨hlen,xs,hx,hxl,hf⟩:=Ji (n:=2) underlying91 (by kernel_rfl) h
 obtain⟨y0,n0,g0,t0⟩:=hf 0 _ rfl
 obtain⟨y1,n1,g1,t1⟩:=hf 1 _ rfl
 obtain rfl:xs=[y0,y1]:=JZ hxl (λj y hj=>by
  rcases j with _ | _ | j
  .cases hj;exact g0
  .cases hj;exact g1
  .cases hj)
 obtain⟨a0,k0,r0,m0⟩:=((Bg.str K underlying9)) _ _ _ t0
 obtain⟨a1,k1,r1,m1⟩:=((Bg.str K underlying9)) _ _ _ t1
 have m0:a0.length+1<=K.B y0.1:=m0
 have m1:a1.length+1<=K.B y1.1:=m1
 have hm:=K.agg (List.map (λz:DataW H × List MemPlace=>z.1) [y0,y1])
 simp only[xj,yd,yl,zX] at hm
 refine⟨⟨a0,a1⟩,⟨k0,k1⟩,⟨hlen,λj d u h1 h2=>?_⟩,?_⟩
 .rcases j with _ | _ | j
  .exact r0.part (jj:=0) (by kernel_rfl) h1 h2
  .exact r1.part (jj:=0) (by kernel_rfl) h1 h2
  .cases h1
 .rw[hx]
  refine xW ?_ hm
  show(a0.length+1)+(a1.length+1)+1<=_
  omega
def ok_51(x:Aq):Prop:=(Lit.int .i64 x.Char).wf=true/\(Lit.int .i64 x.Ref).wf=true/\(x.Attrs.length<=maxLen/\∀a∈x.Attrs,ok_91 a)
def mu_51(x:Aq):Nat:=(1)+(1)+((x.Attrs.map mu_91).sum+1)+1
theorem rd_51{H:Type}{enc:TypeId × Value->H}{W:World}(K:G8 H):Bg K enc prog W 51 Aq.row ok_51 mu_51:=by
 intro fuel cs x h
 obtain⟨hlen,xs,hx,hxl,hf⟩:=Ji (n:=3) underlying51 (by kernel_rfl) h
 obtain⟨y0,n0,g0,t0⟩:=hf 0 _ rfl
 obtain⟨y1,n1,g1,t1⟩:=hf 1 _ rfl
 obtain⟨y2,n2,g2,t2⟩:=hf 2 _ rfl
 obtain rfl:xs=[y0,y1,y2]:=JZ hxl (λj y hj=>by
  rcases j with _ | _ | _ | j
  .cases hj;exact g0
  .cases hj;exact g1
  .cases hj;exact g2
  .cases hj)
 obtain⟨a0,k0,r0,m0⟩:=((Bg.int K underlying3)) _ _ _ t0
 obtain⟨a1,k1,r1,m1⟩:=((Bg.int K underlying3)) _ _ _ t1
 obtain⟨a2,k2,r2,m2⟩:=((Bg.slice K (sz:=2) underlying36 (by kernel_rfl) (by decide) (rd_91 K) (λ_=>rfl))) _ _ _ t2
 have m0:1<=K.B y0.1:=m0
 have m1:1<=K.B y1.1:=m1
 have m2:(a2.map mu_91).sum+1<=K.B y2.1:=m2
 have hm:=K.agg (List.map (λz:DataW H × List MemPlace=>z.1) [y0,y1,y2])
 simp only[xj,yd,yl,zX] at hm
 refine⟨⟨a0,a1,a2⟩,⟨k0,k1,k2⟩,⟨hlen,λj d u h1 h2=>?_⟩,?_⟩
 .rcases j with _ | _ | _ | j
  .exact r0.part (jj:=0) (by kernel_rfl) h1 h2
  .exact r1.part (jj:=0) (by kernel_rfl) h1 h2
  .exact r2.part (jj:=0) (by kernel_rfl) h1 h2
  .cases h1
 .rw[hx]
  refine xW ?_ hm
  show(1)+(1)+((a2.map mu_91).sum+1)+1<=_
  omega
def ok_124(x:Aw):Prop:=(Lit.int .i64 x.Row).wf=true/\(Lit.int .i64 x.Col).wf=true/\x.Text.length<=maxLen/\(Lit.int .i64 x.Ref).wf=true/\(x.Attrs.length<=maxLen/\∀a∈x.Attrs,ok_91 a)
def mu_124(x:Aw):Nat:=(1)+(1)+(x.Text.length+1)+(1)+((x.Attrs.map mu_91).sum+1)+1
theorem rd_124{H:Type}{enc:TypeId × Value->H}{W:World}(K:G8 H):Bg K enc prog W 124 Aw.row ok_124 mu_124:=by
 intro fuel cs x h
 obtain⟨hlen,xs,hx,hxl,hf⟩:=Ji (n:=5) underlying124 (by kernel_rfl) h
 obtain⟨y0,n0,g0,t0⟩:=hf 0 _ rfl
 obtain⟨y1,n1,g1,t1⟩:=hf 1 _ rfl
 obtain⟨y2,n2,g2,t2⟩:=hf 2 _ rfl
 obtain⟨y3,n3,g3,t3⟩:=hf 3 _ rfl
 obtain⟨y4,n4,g4,t4⟩:=hf 4 _ rfl
 obtain rfl:xs=[y0,y1,y2,y3,y4]:=JZ hxl (λj y hj=>by
  rcases j with _ | _ | _ | _ | _ | j
  .cases hj;exact g0
  .cases hj;exact g1
  .cases hj;exact g2
  .cases hj;exact g3
  .cases hj;exact g4
  .cases hj)
 obtain⟨a0,k0,r0,m0⟩:=((Bg.int K underlying3)) _ _ _ t0
 obtain⟨a1,k1,r1,m1⟩:=((Bg.int K underlying3)) _ _ _ t1
 obtain⟨a2,k2,r2,m2⟩:=((Bg.str K underlying9)) _ _ _ t2
 obtain⟨a3,k3,r3,m3⟩:=((Bg.int K underlying3)) _ _ _ t3
 obtain⟨a4,k4,r4,m4⟩:=((Bg.slice K (sz:=2) underlying36 (by kernel_rfl) (by decide) (rd_91 K) (λ_=>rfl))) _ _ _ t4
 have m0:1<=K.B y0.1:=m0
 have m1:1<=K.B y1.1:=m1
 have m2:a2.length+1<=K.B y2.1:=m2
 have m3:1<=K.B y3.1:=m3
 have m4:(a4.map mu_91).sum+1<=K.B y4.1:=m4
 have hm:=K.agg (List.map (λz:DataW H × List MemPlace=>z.1) [y0,y1,y2,y3,y4])
 simp only[xj,yd,yl,zX] at hm
 refine⟨⟨a0,a1,a2,a3,a4⟩,⟨k0,k1,k2,k3,k4⟩,⟨hlen,λj d u h1 h2=>?_⟩,?_⟩
 .rcases j with _ | _ | _ | _ | _ | j
  .exact r0.part (jj:=0) (by kernel_rfl) h1 h2
  .exact r1.part (jj:=0) (by kernel_rfl) h1 h2
  .exact r2.part (jj:=0) (by kernel_rfl) h1 h2
  .exact r3.part (jj:=0) (by kernel_rfl) h1 h2
  .exact r4.part (jj:=0) (by kernel_rfl) h1 h2
  .cases h1
 .rw[hx]
  refine xW ?_ hm
  show(1)+(1)+(a2.length+1)+(1)+((a4.map mu_91).sum+1)+1<=_
  omega
def ok_127(x:At):Prop:=(Lit.int .i64 x.Row).wf=true/\(Lit.int .i64 x.Col).wf=true/\(Lit.int .i64 x.H).wf=true/\(Lit.int .i64 x.W).wf=true
def mu_127(x:At):Nat:=(1)+(1)+(1)+(1)+1
theorem rd_127{H:Type}{enc:TypeId × Value->H}{W:World}(K:G8 H):Bg K enc prog W 127 At.row ok_127 mu_127:=by
 intro fuel cs x h
 obtain⟨hlen,xs,hx,hxl,hf⟩:=Ji (n:=4) underlying127 (by kernel_rfl) h
 obtain⟨y0,n0,g0,t0⟩:=hf 0 _ rfl
 obtain⟨y1,n1,g1,t1⟩:=hf 1 _ rfl
 obtain⟨y2,n2,g2,t2⟩:=hf 2 _ rfl
 obtain⟨y3,n3,g3,t3⟩:=hf 3 _ rfl
 obtain rfl:xs=[y0,y1,y2,y3]:=JZ hxl (λj y hj=>by
  rcases j with _ | _ | _ | _ | j
  .cases hj;exact g0
  .cases hj;exact g1
  .cases hj;exact g2
  .cases hj;exact g3
  .cases hj)
 obtain⟨a0,k0,r0,m0⟩:=((Bg.int K underlying3)) _ _ _ t0
 obtain⟨a1,k1,r1,m1⟩:=((Bg.int K underlying3)) _ _ _ t1
 obtain⟨a2,k2,r2,m2⟩:=((Bg.int K underlying3)) _ _ _ t2
 obtain⟨a3,k3,r3,m3⟩:=((Bg.int K underlying3)) _ _ _ t3
 have m0:1<=K.B y0.1:=m0
 have m1:1<=K.B y1.1:=m1
 have m2:1<=K.B y2.1:=m2
 have m3:1<=K.B y3.1:=m3
 have hm:=K.agg (List.map (λz:DataW H × List MemPlace=>z.1) [y0,y1,y2,y3])
 simp only[xj,yd,yl,zX] at hm
 refine⟨⟨a0,a1,a2,a3⟩,⟨k0,k1,k2,k3⟩,⟨hlen,λj d u h1 h2=>?_⟩,?_⟩
 .rcases j with _ | _ | _ | _ | j
  .exact r0.part (jj:=0) (by kernel_rfl) h1 h2
  .exact r1.part (jj:=0) (by kernel_rfl) h1 h2
  .exact r2.part (jj:=0) (by kernel_rfl) h1 h2
  .exact r3.part (jj:=0) (by kernel_rfl) h1 h2
  .cases h1
 .rw[hx]
  refine xW ?_ hm
  show(1)+(1)+(1)+(1)+1<=_
  omega
def ok_41(x:BJ):Prop:=(Lit.int .i64 x.Rows).wf=true/\(Lit.int .i64 x.Cols).wf=true/\(x.Cells.length<=maxLen/\∀a∈x.Cells,ok_124 a)/\(x.Merges.length<=maxLen/\∀a∈x.Merges,ok_127 a)
def mu_41(x:BJ):Nat:=(1)+(1)+((x.Cells.map mu_124).sum+1)+((x.Merges.map mu_127).sum+1)+1
theorem rd_41{H:Type}{enc:TypeId × Value->H}{W:World}(K:G8 H):Bg K enc prog W 41 BJ.row ok_41 mu_41:=by
 intro fuel cs x h
 obtain⟨hlen,xs,hx,hxl,hf⟩:=Ji (n:=4) underlying41 (by kernel_rfl) h
 obtain⟨y0,n0,g0,t0⟩:=hf 0 _ rfl
 obtain⟨y1,n1,g1,t1⟩:=hf 1 _ rfl
 obtain⟨y2,n2,g2,t2⟩:=hf 2 _ rfl
 obtain⟨y3,n3,g3,t3⟩:=hf 3 _ rfl
 obtain rfl:xs=[y0,y1,y2,y3]:=JZ hxl (λj y hj=>by
  rcases j with _ | _ | _ | _ | j
  .cases hj;exact g0
  .cases hj;exact g1
  .cases hj;exact g2
  .cases hj;exact g3
  .cases hj)
 obtain⟨a0,k0,r0,m0⟩:=((Bg.int K underlying3)) _ _ _ t0
 obtain⟨a1,k1,r1,m1⟩:=((Bg.int K underlying3)) _ _ _ t1
 obtain⟨a2,k2,r2,m2⟩:=((Bg.slice K (sz:=5) underlying38 (by kernel_rfl) (by decide) (rd_124 K) (λ_=>rfl))) _ _ _ t2
 obtain⟨a3,k3,r3,m3⟩:=((Bg.slice K (sz:=4) underlying39 (by kernel_rfl) (by decide) (rd_127 K) (λ_=>rfl))) _ _ _ t3
 have m0:1<=K.B y0.1:=m0
 have m1:1<=K.B y1.1:=m1
 have m2:(a2.map mu_124).sum+1<=K.B y2.1:=m2
 have m3:(a3.map mu_127).sum+1<=K.B y3.1:=m3
 have hm:=K.agg (List.map (λz:DataW H × List MemPlace=>z.1) [y0,y1,y2,y3])
 simp only[xj,yd,yl,zX] at hm
 refine⟨⟨a0,a1,a2,a3⟩,⟨k0,k1,k2,k3⟩,⟨hlen,λj d u h1 h2=>?_⟩,?_⟩
 .rcases j with _ | _ | _ | _ | j
  .exact r0.part (jj:=0) (by kernel_rfl) h1 h2
  .exact r1.part (jj:=0) (by kernel_rfl) h1 h2
  .exact r2.part (jj:=0) (by kernel_rfl) h1 h2
  .exact r3.part (jj:=0) (by kernel_rfl) h1 h2
  .cases h1
 .rw[hx]
  refine xW ?_ hm
  show(1)+(1)+((a2.map mu_124).sum+1)+((a3.map mu_127).sum+1)+1<=_
  omega
def ok_175(x:BA):Prop:=(Lit.int .i64 x.Clock).wf=true/\(Lit.int .i64 x.Site).wf=true/\(Lit.int .i64 x.Kind).wf=true/\(Lit.int .i64 x.Item).wf=true/\(Lit.int .i64 x.Parent).wf=true/\x.Place.length<=maxLen/\x.Name.length<=maxLen/\x.Value.length<=maxLen
def mu_175(x:BA):Nat:=(1)+(1)+(1)+(1)+(1)+(x.Place.length+1)+(x.Name.length+1)+(x.Value.length+1)+1
theorem rd_175{H:Type}{enc:TypeId × Value->H}{W:World}(K:G8 H):Bg K enc prog W 175 BA.row ok_175 mu_175:=by
 intro fuel cs x h
 obtain⟨hlen,xs,hx,hxl,hf⟩:=Ji (n:=8) underlying175 (by kernel_rfl) h
 obtain⟨y0,n0,g0,t0⟩:=hf 0 _ rfl
 obtain⟨y1,n1,g1,t1⟩:=hf 1 _ rfl
 obtain⟨y2,n2,g2,t2⟩:=hf 2 _ rfl
 obtain⟨y3,n3,g3,t3⟩:=hf 3 _ rfl
 obtain⟨y4,n4,g4,t4⟩:=hf 4 _ rfl
 obtain⟨y5,n5,g5,t5⟩:=hf 5 _ rfl
 obtain⟨y6,n6,g6,t6⟩:=hf 6 _ rfl
 obtain⟨y7,n7,g7,t7⟩:=hf 7 _ rfl
 obtain rfl:xs=[y0,y1,y2,y3,y4,y5,y6,y7]:=JZ hxl (λj y hj=>by
  rcases j with _ | _ | _ | _ | _ | _ | _ | _ | j
  .cases hj;exact g0
  .cases hj;exact g1
  .cases hj;exact g2
  .cases hj;exact g3
  .cases hj;exact g4
  .cases hj;exact g5
  .cases hj;exact g6
  .cases hj;exact g7
  .cases hj)
 obtain⟨a0,k0,r0,m0⟩:=((Bg.int K underlying3)) _ _ _ t0
 obtain⟨a1,k1,r1,m1⟩:=((Bg.int K underlying3)) _ _ _ t1
 obtain⟨a2,k2,r2,m2⟩:=((Bg.int K underlying3)) _ _ _ t2
 obtain⟨a3,k3,r3,m3⟩:=((Bg.int K underlying3)) _ _ _ t3
 obtain⟨a4,k4,r4,m4⟩:=((Bg.int K underlying3)) _ _ _ t4
 obtain⟨a5,k5,r5,m5⟩:=((Bg.str K underlying9)) _ _ _ t5
 obtain⟨a6,k6,r6,m6⟩:=((Bg.str K underlying9)) _ _ _ t6
 obtain⟨a7,k7,r7,m7⟩:=((Bg.str K underlying9)) _ _ _ t7
 have m0:1<=K.B y0.1:=m0
 have m1:1<=K.B y1.1:=m1
 have m2:1<=K.B y2.1:=m2
 have m3:1<=K.B y3.1:=m3
 have m4:1<=K.B y4.1:=m4
 have m5:a5.length+1<=K.B y5.1:=m5
 have m6:a6.length+1<=K.B y6.1:=m6
 have m7:a7.length+1<=K.B y7.1:=m7
 have hm:=K.agg (List.map (λz:DataW H × List MemPlace=>z.1) [y0,y1,y2,y3,y4,y5,y6,y7])
 simp only[xj,yd,yl,zX] at hm
 refine⟨⟨a0,a1,a2,a3,a4,a5,a6,a7⟩,⟨k0,k1,k2,k3,k4,k5,k6,k7⟩,⟨hlen,λj d u h1 h2=>?_⟩,?_⟩
 .rcases j with _ | _ | _ | _ | _ | _ | _ | _ | j
  .exact r0.part (jj:=0) (by kernel_rfl) h1 h2
  .exact r1.part (jj:=0) (by kernel_rfl) h1 h2
  .exact r2.part (jj:=0) (by kernel_rfl) h1 h2
  .exact r3.part (jj:=0) (by kernel_rfl) h1 h2
  .exact r4.part (jj:=0) (by kernel_rfl) h1 h2
  .exact r5.part (jj:=0) (by kernel_rfl) h1 h2
  .exact r6.part (jj:=0) (by kernel_rfl) h1 h2
  .exact r7.part (jj:=0) (by kernel_rfl) h1 h2
  .cases h1
 .rw[hx]
  refine xW ?_ hm
  show(1)+(1)+(1)+(1)+(1)+(a5.length+1)+(a6.length+1)+(a7.length+1)+1<=_
  omega
def ok_44(x:Ad):Prop:=(Lit.int .i64 x.ID).wf=true/\(Lit.int .i64 x.Kind).wf=true/\(x.Attrs.length<=maxLen/\∀a∈x.Attrs,ok_91 a)/\(x.Flow.length<=maxLen/\∀a∈x.Flow,ok_51 a)/\ok_41 x.Grid/\(x.Draw.length<=maxLen/\∀a∈x.Draw,ok_175 a)
def mu_44(x:Ad):Nat:=(1)+(1)+((x.Attrs.map mu_91).sum+1)+((x.Flow.map mu_51).sum+1)+(mu_41 x.Grid)+((x.Draw.map mu_175).sum+1)+1
theorem rd_44{H:Type}{enc:TypeId × Value->H}{W:World}(K:G8 H):Bg K enc prog W 44 Ad.row ok_44 mu_44:=by
 intro fuel cs x h
 obtain⟨hlen,xs,hx,hxl,hf⟩:=Ji (n:=9) underlying44 (by kernel_rfl) h
 obtain⟨y0,n0,g0,t0⟩:=hf 0 _ rfl
 obtain⟨y1,n1,g1,t1⟩:=hf 1 _ rfl
 obtain⟨y2,n2,g2,t2⟩:=hf 2 _ rfl
 obtain⟨y3,n3,g3,t3⟩:=hf 3 _ rfl
 obtain⟨y4,n4,g4,t4⟩:=hf 4 _ rfl
 obtain⟨y5,n5,g5,t5⟩:=hf 5 _ rfl
 obtain rfl:xs=[y0,y1,y2,y3,y4,y5]:=JZ hxl (λj y hj=>by
  rcases j with _ | _ | _ | _ | _ | _ | j
  .cases hj;exact g0
  .cases hj;exact g1
  .cases hj;exact g2
  .cases hj;exact g3
  .cases hj;exact g4
  .cases hj;exact g5
  .cases hj)
 obtain⟨a0,k0,r0,m0⟩:=((Bg.int K underlying3)) _ _ _ t0
 obtain⟨a1,k1,r1,m1⟩:=((Bg.int K underlying3)) _ _ _ t1
 obtain⟨a2,k2,r2,m2⟩:=((Bg.slice K (sz:=2) underlying36 (by kernel_rfl) (by decide) (rd_91 K) (λ_=>rfl))) _ _ _ t2
 obtain⟨a3,k3,r3,m3⟩:=((Bg.slice K (sz:=3) underlying37 (by kernel_rfl) (by decide) (rd_51 K) (λ_=>rfl))) _ _ _ t3
 obtain⟨a4,k4,r4,m4⟩:=((rd_41 K)) _ _ _ t4
 obtain⟨a5,k5,r5,m5⟩:=((Bg.slice K (sz:=8) underlying42 (by kernel_rfl) (by decide) (rd_175 K) (λ_=>rfl))) _ _ _ t5
 have m0:1<=K.B y0.1:=m0
 have m1:1<=K.B y1.1:=m1
 have m2:(a2.map mu_91).sum+1<=K.B y2.1:=m2
 have m3:(a3.map mu_51).sum+1<=K.B y3.1:=m3
 have m4:mu_41 a4<=K.B y4.1:=m4
 have m5:(a5.map mu_175).sum+1<=K.B y5.1:=m5
 have hm:=K.agg (List.map (λz:DataW H × List MemPlace=>z.1) [y0,y1,y2,y3,y4,y5])
 simp only[xj,yd,yl,zX] at hm
 refine⟨⟨a0,a1,a2,a3,a4,a5⟩,⟨k0,k1,k2,k3,k4,k5⟩,⟨hlen,λj d u h1 h2=>?_⟩,?_⟩
 .rcases j with _ | _ | _ | _ | _ | _ | _ | _ | _ | j
  .exact r0.part (jj:=0) (by kernel_rfl) h1 h2
  .exact r1.part (jj:=0) (by kernel_rfl) h1 h2
  .exact r2.part (jj:=0) (by kernel_rfl) h1 h2
  .exact r3.part (jj:=0) (by kernel_rfl) h1 h2
  .exact r4.part (jj:=0) (by kernel_rfl) h1 h2
  .exact r4.part (jj:=1) (by kernel_rfl) h1 h2
  .exact r4.part (jj:=2) (by kernel_rfl) h1 h2
  .exact r4.part (jj:=3) (by kernel_rfl) h1 h2
  .exact r5.part (jj:=0) (by kernel_rfl) h1 h2
  .cases h1
 .rw[hx]
  refine xW ?_ hm
  show(1)+(1)+((a2.map mu_91).sum+1)+((a3.map mu_51).sum+1)+(mu_41 a4)+((a5.map mu_175).sum+1)+1<=_
  omega
def ok_24(x:Ac):Prop:=(x.Nodes.length<=maxLen/\∀a∈x.Nodes,ok_44 a)
def mu_24(x:Ac):Nat:=((x.Nodes.map mu_44).sum+1)+1
theorem rd_24{H:Type}{enc:TypeId × Value->H}{W:World}(K:G8 H):Bg K enc prog W 24 Ac.row ok_24 mu_24:=by
 intro fuel cs x h
 obtain⟨hlen,xs,hx,hxl,hf⟩:=Ji (n:=1) underlying24 (by kernel_rfl) h
 obtain⟨y0,n0,g0,t0⟩:=hf 0 _ rfl
 obtain rfl:xs=[y0]:=JZ hxl (λj y hj=>by
  rcases j with _ | j
  .cases hj;exact g0
  .cases hj)
 obtain⟨a0,k0,r0,m0⟩:=((Bg.slice K (sz:=9) underlying22 (by kernel_rfl) (by decide) (rd_44 K) (λ_=>rfl))) _ _ _ t0
 have m0:(a0.map mu_44).sum+1<=K.B y0.1:=m0
 have hm:=K.agg (List.map (λz:DataW H × List MemPlace=>z.1) [y0])
 simp only[xj,yd,yl,zX] at hm
 refine⟨⟨a0⟩,k0,⟨hlen,λj d u h1 h2=>?_⟩,?_⟩
 .rcases j with _ | j
  .exact r0.part (jj:=0) (by kernel_rfl) h1 h2
  .cases h1
 .rw[hx]
  refine xW ?_ hm
  show((a0.map mu_44).sum+1)+1<=_
  omega
theorem tabs{W:World}(h:laidMetH prog Rows.remarkThreadsMatchUptoRow.laid W):EH (Cx.start W):=by
 have h':laidMet prog Rows.remarkThreadsMatchUptoRow.laid W:=h
 refine qH (d1:=Go.Pinned.utf8First) (d2:=Rows.laid_unicode_utf8_acceptRanges) (t1:=267) (t2:=270) (e1:=5) (e2:=269) (Go.Lib.laidMet.reads h' ?_) (by kernel_rfl) (by kernel_rfl) (by kernel_rfl) underlying267 underlying5 (by kernel_rfl) (by kernel_rfl)
  (Go.Lib.laidMet.reads h' ?_) (by kernel_rfl) (by kernel_rfl) (by kernel_rfl) underlying270 underlying269 (λi f hf=>?_) rfl (by kernel_rfl) (hw:=λg cs hg=>?_) (hF:=?_)
 .exact .tail _ (.tail _ (.tail _ (.tail _ (.tail _ (.tail _ (.head _))))))
 .exact .tail _ (.tail _ (.tail _ (.head _)))
 .rcases i with _ | _ | i
  .cases hf;exact⟨underlying5,rfl,by kernel_rfl⟩
  .cases hf;exact⟨underlying5,rfl,by kernel_rfl⟩
  .cases hf
 .unfold TD at hg
  split at hg
  .rename_i hgp
   cases hg
   subst hgp
   exact⟨by decide,tx (Go.Lib.laidMet.reads h' (.tail _ (.tail _ (.head _)))) (by kernel_rfl) (by kernel_rfl) (by kernel_rfl) underlying262 underlying208 (by kernel_rfl) (by kernel_rfl)⟩
  .cases hg
 .exact⟨ap (Go.Lib.laidMet.reads h' (.tail _ (.tail _ (.tail _ (.tail _ (.tail _ (.head _))))))) rfl (by kernel_rfl) (by kernel_rfl) underlying82,ap (Go.Lib.laidMet.reads h' (.tail _ (.tail _ (.tail _ (.tail _ (.head _)))))) rfl (by kernel_rfl) (by kernel_rfl) underlying82⟩
set_option maxRecDepth 100000 in
theorem contract(H:Type)(enc:TypeId × Value->H)(W:World)(base:Nat)(args:Array Value)(ds gs:List (DataW H))(before:List MemPlace)
  (hval:∀(j:Nat) t v,Tryz.f3.params[j]?=some t->args[j]?=some v->Value.okWide prog W .any base t v)
  (hW:DataW.Whole enc prog Tryz.f3.params.toList Rows.remarkThreadsMatchSpec.vars false W args.toList ds gs before) (hk0:Rows.uptoSmall H (ds++gs)=true) (hL:laidMetH prog Rows.remarkThreadsMatchUptoRow.laid W) :
  Calls prog 3 args W λe W'=>∃v,e=.returned v/\Rows.remarkThreadsMatchSpec.post enc prog Tryz.f3 false true false false W args v W':=by
 have hW':=hW
 obtain⟨p,q,hA0,hV,rfl,hfz,hnd⟩:=hW
 have hA:DataW.TrodAll enc prog W 0 (λ_=>true) true Tryz.f3.params.toList args.toList ds p:=hA0
 rw[Tryz.params3] at hA hval
 obtain⟨v0,vs0,d0,ds0,p0,q0,hargs,rfl,rfl,h0,e0⟩:=trodAll_cons hA
 obtain⟨v1,vs1,d1,ds1,p1,q1,rfl,rfl,rfl,h1,e1⟩:=trodAll_cons e0
 obtain⟨rfl,rfl,rfl⟩:=trodAll_nil e1
 obtain rfl:args = #[v0,v1]:=by cases args;simp_all
 obtain⟨rfl,rfl⟩:=trodVars_none hV
 have hk:(blk H).B d0+(blk H).B d1<=1048576:=by
  have:=z6 hk0
  simp only[yv,Rows.uptoBulkAll] at this
  show Rows.uptoBulk d0+Rows.uptoBulk d1<=1048576
  omega
 obtain⟨x0,k0,r0,m0⟩:=pi (blk H) underlying24 (rd_24 (blk H)) (hval 0 24 v0 rfl rfl) h0
 obtain⟨x1,k1,r1,m1⟩:=s9 (blk H) underlying3 (hval 1 3 v1 rfl rfl) h1
 clear hA0
 have h0:=uu (μ:=mu_44) (γ:=mu_41) (ψ:=mu_124) (ρ:=mu_127) (δ:=mu_175) (ν:=mu_51) (κ:=mu_91) (λn=>by unfold mu_44;omega) (λg=>by unfold mu_41;omega) (λc=>by unfold mu_124;omega) (λr=>by unfold mu_127;omega) (λo=>by unfold mu_175;omega) (λe=>by unfold mu_51;omega) (λa=>by unfold mu_91;omega) (d:=x0) (by have m0':=m0;unfold mu_24 at m0';omega)
 have hD:=lq (μ:=mu_44) (δ:=mu_175) (λn=>by unfold mu_44;omega) (λo=>by unfold mu_175;omega) (d:=x0) (by have m0':=m0;unfold mu_24 at m0';omega)
 have BR : -9223372036854775808<=x1/\x1<=9223372036854775807:=by simp only[Lit.wf,xE,xG] at k1;exact k1
 have hp:=tm x0 x1 h0 hD BR
 obtain⟨_,_,hc⟩:=sv hp
 refine(hc (Cx.start W) #[v0,v1] (wP W (tabs hL)) rfl ⟨rfl,λi a u k1 k2=>?_⟩).mono λe W' ⟨u,y,he,hy,hle,hok,hr⟩=>?_
 .rcases i with _ | _ | i
  .cases k1;cases k2;exact r0
  .cases k1;cases k2;exact .r r1
  .cases k1
 .subst he;subst hy
  obtain rfl:=G2 hr
  exact⟨_,rfl,nz (by kernel_rfl) (by rw[Tryz.params3];intro t ht;simp at ht;rcases ht with rfl | rfl<;>exact⟨by kernel_rfl,z6 (by kernel_rfl)⟩) rfl hW' hle rfl rfl
   (λ_ _ _=>trodAll_cons_mk (shut_bool underlying4 _) trodAll_mk0)⟩
def lay(cs:List Value):Obj->Obj
 | .cells _ t frozen=>.cells cs.toArray t frozen
 | o=>o
def litsOf:DataW Unit->List Value
 | .agg l=>l.map λd=>match d with | .lit (.int k z)=>Value.int k z | _=>undef
 | _=>[]
def textOf:DataW Unit->Value
 | .iface _ (.ptr (.agg [.lit (.string s)]))=>Value.string ⟨s.toArray⟩
 | _=>undef
noncomputable def holdW(os:Os):World:=World.holding prog os ⟨#[],#[],[]⟩
noncomputable def laidWorld(os:Os):World:=
 { holdW os with heap:=((((((((((holdW os).heap.modify 5 (lay (litsOf Rows.laid_math_bits_deBruijn32tab))).modify 6 (lay (litsOf Rows.laid_math_bits_deBruijn64tab))).modify 2 (lay (litsOf Rows.laid_internal_strconv_uint64pow10))).modify Ik (lay (Je.flatMap λp=>[Value.int .u8 p.1,Value.int .u8 p.2]))).modify 1 (lay [Value.iface 258 (.pointer (some ⟨(holdW os).heap.size+0,0,none⟩))])).modify 0 (lay [Value.iface 258 (.pointer (some ⟨(holdW os).heap.size+1,0,none⟩))])).modify IU (lay (GH.map λz=>Value.int .u8 z))).push (Obj.cells #[textOf Rows.laid_strconv_ErrRange] 260 (0,0))).push (Obj.cells #[textOf Rows.laid_strconv_ErrSyntax] 260 (0,0))) }
theorem laid_met(os:Os):laidMet prog Rows.remarkThreadsMatchUptoRow.laid ((laidWorld os).forCall (λ_ _=>0) ⟨#[],#[.agg #[.slice none 0 0],.int .i64 0],[]⟩).memory:=
 laidMet_of_run' 8 (by kernel_rfl) (by kernel_rfl)
theorem reads(os:Os){H:Type}(enc:TypeId × Value->H):∃places,DataW.whole enc prog ((laidWorld os).forCall (λ_ _=>0) ⟨#[],#[.agg #[.slice none 0 0],.int .i64 0],[]⟩).memory Tryz.f3.params.toList Rows.remarkThreadsMatchSpec.vars false (#[.agg #[.slice none 0 0],.int .i64 0]:Array Value).toList 8=some ([.agg [.nil],.lit (.int .i64 0)],[],places):=
 ⟨[],by kernel_rfl⟩
set_option maxRecDepth 100000 in
theorem lifted(os:Os)(started:os.Started)(H:Type)(enc:TypeId × Value->H)(F:Stop.Interp) :
  ReturnsInHanded {} Tryz.checked os 3 .any ((Rows.OpenSpec.upto Rows.remarkThreadsMatchSpec).preRow enc prog Tryz.f3 Rows.remarkThreadsMatchUptoRow.domain false Rows.remarkThreadsMatchUptoRow.laid) (((Rows.OpenSpec.upto Rows.remarkThreadsMatchSpec).at F).post enc prog Tryz.f3 false true false false):=by
 obtain⟨places,hx⟩:=reads os enc
 refine returnsInHanded_of_row (C:=Tryz.checked) (s:=Rows.OpenSpec.upto Rows.remarkThreadsMatchSpec) own started (by kernel_rfl) func3
  (witness_row_at (enc:=enc) (C:=Tryz.checked) false (laidWorld os) #[.agg #[.slice none 0 0],.int .i64 0] rfl (by kernel_rfl) (by kernel_rfl) (by kernel_rfl)
   (OpenSpec.preRow_of_cond 8 hx (by kernel_rfl) (λk hk=>by cases hk;kernel_rfl) (by kernel_rfl) (laid_met os))) ?_
 intro W base args ds gs before hval hW _ hk _ hL _ _
 exact contract H enc W base args ds gs before hval hW (hk _ rfl) hL
theorem and_tt{a b:Bool}(ha:a=true)(hb:b=true):(a&&b)=true:=by rw[ha,hb];rfl
set_option maxHeartbeats 4000000 in
theorem closed:joinedFacts prog 3 Tryz.f3 (Rows.OpenSpec.upto Rows.remarkThreadsMatchSpec).bare Rows.remarkThreadsMatchUptoRow=true:=by
 unfold joinedFacts
 refine and_tt ?_ (by as_aux_lemma=>kernel_rfl)
 refine and_tt ?_ (by as_aux_lemma=>kernel_rfl)
 refine and_tt ?_ (by as_aux_lemma=>kernel_rfl)
 refine and_tt ?_ (by as_aux_lemma=>kernel_rfl)
 refine and_tt ?_ (by as_aux_lemma=>kernel_rfl)
 refine and_tt ?_ (by as_aux_lemma=>kernel_rfl)
 refine and_tt ?_ (by as_aux_lemma=>kernel_rfl)
 refine and_tt ?_ (by as_aux_lemma=>kernel_rfl)
 refine and_tt ?_ (by as_aux_lemma=>kernel_rfl)
 refine and_tt ?_ (by as_aux_lemma=>kernel_rfl)
 refine and_tt ?_ (by as_aux_lemma=>kernel_rfl)
 refine and_tt ?_ (by as_aux_lemma=>kernel_rfl)
 refine and_tt ?_ (by as_aux_lemma=>kernel_rfl)
 refine and_tt ?_ (by as_aux_lemma=>kernel_rfl)
 refine and_tt ?_ (by as_aux_lemma=>kernel_rfl)
 refine and_tt ?_ (by as_aux_lemma=>kernel_rfl)
 refine and_tt ?_ (by as_aux_lemma=>kernel_rfl)
 refine and_tt ?_ (by as_aux_lemma=>kernel_rfl)
 refine and_tt ?_ (by as_aux_lemma=>kernel_rfl)
 refine and_tt ?_ (by as_aux_lemma=>kernel_rfl)
 refine and_tt ?_ (by as_aux_lemma=>kernel_rfl)
 refine and_tt ?_ (by as_aux_lemma=>kernel_rfl)
 refine and_tt ?_ (by as_aux_lemma=>kernel_rfl)
 refine and_tt ?_ (by as_aux_lemma=>kernel_rfl)
 refine and_tt ?_ (by as_aux_lemma=>kernel_rfl)
 refine and_tt ?_ (by as_aux_lemma=>kernel_rfl)
 refine and_tt ?_ (by as_aux_lemma=>kernel_rfl)
 refine and_tt ?_ (by as_aux_lemma=>kernel_rfl)
 refine and_tt ?_ (by as_aux_lemma=>kernel_rfl)
 refine and_tt ?_ (by as_aux_lemma=>kernel_rfl)
 refine and_tt ?_ (by as_aux_lemma=>kernel_rfl)
 kernel_rfl
theorem goes_apart{P:Program}{c:OpenClaim}(hs:c.start=.entering)(h:P.funcs.any Func.goes=false):false=c.goesBy P:=by
 have h':∀g:FuncId,(P.funcs[g]?).any Func.goes=false:=λg=>by
  cases e:P.funcs[g]? with
  | none=>rfl
  | some x=>
   obtain⟨hg,rfl⟩:=xt.1 e
   exact ze.2 λhx=>(ze.1 h) (Array.any_eq_true.2 ⟨g,hg,hx⟩)
 unfold OpenClaim.goesBy Program.goesAt Program.goesFrom Program.goes
 rw[hs,h]
 cases P.funcNamed c.func with
 | none=>rfl
 | some f=>simp[h']
theorem goes_not:prog.funcs.any Func.goes=false:=by kernel_rfl
theorem over:Rows.RemarkThreadsMatchUptoSaid:=
 OpenClaim.holds_of_cond 3 Tryz.f3 rfl rfl rfl rfl rfl rfl rfl ⟨rfl,rfl,rfl,rfl,rfl⟩ rfl rfl rfl rfl rfl (by kernel_rfl) func3 closed
  (z6 (by kernel_rfl)) (by unfold Func.isWrapper;first | (rw[ww (by decide +kernel)];kernel_rfl) | (rw[wv (by decide +kernel)];exact⟨rfl,rfl⟩))
  (λos started H enc _ F=>by rw[OpenClaim.pre_eq_preRow];exact lifted os started H enc F)
theorem plain (f : FuncId) (fn : Func) (hf : Tryz.pinned.checked.prog.funcNamed "chancery/chancerylaw1.RemarkThreadsMatch" = some f) (hfn : Tryz.pinned.checked.prog.funcs[f]? = some fn) :
  true=Tryz.pinned.checked.prog.looks []/\∀(j:Nat) t,fn.params[j]?=some t->Tryz.pinned.checked.prog.wantsStandIn t=false:=by
 obtain rfl : f = 3 := xh ((show prog.funcNamed "chancery/chancerylaw1.RemarkThreadsMatch" = some 3 by kernel_rfl).symm.trans hf) |>.symm
 obtain rfl:fn=Tryz.f3:=(xh (func3.symm.trans hfn)).symm
 refine⟨by kernel_rfl,λj t ht=>?_⟩
 rw[Tryz.params3] at ht
 rcases j with _ | _ | j
 .cases ht;exact(show prog.wantsStandIn 24=false by kernel_rfl)
 .cases ht;exact(show prog.wantsStandIn 3=false by kernel_rfl)
 .cases ht
theorem proved:Rows.RemarkThreadsMatchUptoCardSaid:=
 Claim7.holds_tied_plain_at .later [] _ _ _ _ over (λ_ h=>by cases h) (by kernel_rfl) (λ_ h=>by cases h) remarkThreadsMatchUpto_row_tie rfl ⟨rfl,rfl⟩ (by kernel_rfl) rfl plain (goes_apart rfl goes_not)
#print axioms proved
end Go.Proofs.YtcgleifameckmaaGreatDoor.Al.RThreads
