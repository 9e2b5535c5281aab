/-
  PROVED: 'NotesMatch' returns true whatever its arguments of bulk at most 1048576 are, and leaves them as they were (statement 'NotesMatchUptoCardSaid'). Conditions: none but the bulk.
-/
import Derived.Test.YtifgmfoihehlbaaGreatDoorWlk341x2
import Derived.Deep.DeepHandedRow
import Derived.JoinedCond
import Derived.Lib.LaidTab
import Derived.OpenShut
import Derived.ProofKit
import Derived.Test.YtifgmfoihehlbaaGreatDoorCards
import Derived.Test.YtifgmfoihehlbaaGreatDoorChecked
import Derived.Test.YtifgmfoihehlbaaGreatDoorRows
import Derived.Test.YtifgmfoihehlbaaGreatDoorTie
import Derived.WalkKit
set_option linter.all false
namespace Go.Proofs.YtifgmfoihehlbaaGreatDoor.Al.RNotes
open Go.Proofs Go.Proofs.Tryz Go.Proofs.YtifgmfoihehlbaaGreatDoor.Al Go.Proofs.YtifgmfoihehlbaaGreatDoor
open Go.ChangeShapes Go.WideShapes Go.ChangeAt Go.RowKit
set_option linter.unusedVariables false
theorem own:ownKnob prog.godebug=none:=by kernel_rfl
theorem blk_all{H:Type}(l:List (DataW H)):(l.map Rows.uptoBulk).sum=Rows.uptoBulkAll l:=by
 induction l with
 | nil=>simp[Rows.uptoBulkAll]
 | cons d l ih=>rw[rc,sk,ih,Rows.uptoBulkAll]
def blk(H:Type):Gy H where
 B:=Rows.uptoBulk
 one:=λd=>by
  cases d with
  | lit l=>cases l<;>simp[Rows.uptoBulk]
  | nil=>simp[Rows.uptoBulk]
  | ptr d=>simp[Rows.uptoBulk]
  | slice elems spare=>simp[Rows.uptoBulk]
  | agg parts=>simp[Rows.uptoBulk]
  | iface t d=>simp[Rows.uptoBulk]
  | map entries=>simp[Rows.uptoBulk]
  | held h=>simp[Rows.uptoBulk]
 str:=λs=>by simp[Rows.uptoBulk]
 sl:=λl r=>by rw[blk_all,Rows.uptoBulk];omega
 agg:=λl=>by rw[blk_all,Rows.uptoBulk];omega
def ok_71(x:AG):Prop:=x.Name.length≤maxLen∧x.Value.length≤maxLen
def mu_71(x:AG):Nat:=(x.Name.length+1)+(x.Value.length+1)+1
theorem rd_71{H:Type}{enc:TypeId × Value→H}{W:World}(K:Gy H):Bn K enc prog W 71 AG.row ok_71 mu_71:=by
 intro fuel cs x h
 obtain⟨hlen,xs,hx,hxl,hf⟩:=JE (n:=2) underlying71 (by kernel_rfl) h
 obtain⟨y0,n0,g0,t0⟩:=hf 0 _ rfl
 obtain⟨y1,n1,g1,t1⟩:=hf 1 _ rfl
 obtain rfl:xs=[y0,y1]:=Jl hxl (λj y hj=>by
  rcases j with _ | _ | j<;>cases hj<;>assumption)
 obtain⟨a0,k0,r0,m0⟩:=((Bn.str K underlying9)) _ _ _ t0
 obtain⟨a1,k1,r1,m1⟩:=((Bn.str K underlying9)) _ _ _ t1
 have m0:a0.length+1≤K.B y0.1:=m0
 have m1:a1.length+1≤K.B y1.1:=m1
 have hm:=K.agg (List.map (λz:DataW H × List MemPlace=>z.1) [y0,y1])
 simp only[rc,sx,sk,tc] at hm
 refine⟨⟨a0,a1⟩,⟨k0,k1⟩,⟨hlen,λj d u h1 h2=>?_⟩,?_⟩
 ·rcases j with _ | _ | j
  ·exact r0.part (jj:=0) (by kernel_rfl) h1 h2
  ·exact r1.part (jj:=0) (by kernel_rfl) h1 h2
  ·cases h1
 ·rw[hx]
  refine rM ?_ hm
  show(a0.length+1)+(a1.length+1)+1≤_
  omega
def ok_37(x:AN):Prop:=(Lit.int .i64 x.Char).wf=true∧(Lit.int .i64 x.Ref).wf=true∧(x.Attrs.length≤maxLen∧∀a∈x.Attrs,ok_71 a)
def mu_37(x:AN):Nat:=(1)+(1)+((x.Attrs.map mu_71).sum+1)+1
theorem rd_37{H:Type}{enc:TypeId × Value→H}{W:World}(K:Gy H):Bn K enc prog W 37 AN.row ok_37 mu_37:=by
 intro fuel cs x h
 obtain⟨hlen,xs,hx,hxl,hf⟩:=JE (n:=3) underlying37 (by kernel_rfl) h
 obtain⟨y0,n0,g0,t0⟩:=hf 0 _ rfl
 obtain⟨y1,n1,g1,t1⟩:=hf 1 _ rfl
 obtain⟨y2,n2,g2,t2⟩:=hf 2 _ rfl
 obtain rfl:xs=[y0,y1,y2]:=Jl hxl (λj y hj=>by
  rcases j with _ | _ | _ | j<;>cases hj<;>assumption)
 obtain⟨a0,k0,r0,m0⟩:=((Bn.int K underlying3)) _ _ _ t0
 obtain⟨a1,k1,r1,m1⟩:=((Bn.int K underlying3)) _ _ _ t1
 obtain⟨a2,k2,r2,m2⟩:=((Bn.slice K (sz:=2) underlying35 (by kernel_rfl) (by decide) (rd_71 K) (λ_=>rfl))) _ _ _ t2
 have m0:1≤K.B y0.1:=m0
 have m1:1≤K.B y1.1:=m1
 have m2:(a2.map mu_71).sum+1≤K.B y2.1:=m2
 have hm:=K.agg (List.map (λz:DataW H × List MemPlace=>z.1) [y0,y1,y2])
 simp only[rc,sx,sk,tc] at hm
 refine⟨⟨a0,a1,a2⟩,⟨k0,k1,k2⟩,⟨hlen,λj d u h1 h2=>?_⟩,?_⟩
 ·rcases j with _ | _ | _ | j
  ·exact r0.part (jj:=0) (by kernel_rfl) h1 h2
  ·exact r1.part (jj:=0) (by kernel_rfl) h1 h2
  ·exact r2.part (jj:=0) (by kernel_rfl) h1 h2
  ·cases h1
 ·rw[hx]
  refine rM ?_ hm
  show(1)+(1)+((a2.map mu_71).sum+1)+1≤_
  omega
def ok_107(x:An):Prop:=(Lit.int .i64 x.Row).wf=true∧(Lit.int .i64 x.Col).wf=true∧x.Text.length≤maxLen∧(Lit.int .i64 x.Ref).wf=true∧(x.Attrs.length≤maxLen∧∀a∈x.Attrs,ok_71 a)
def mu_107(x:An):Nat:=(1)+(1)+(x.Text.length+1)+(1)+((x.Attrs.map mu_71).sum+1)+1
theorem rd_107{H:Type}{enc:TypeId × Value→H}{W:World}(K:Gy H):Bn K enc prog W 107 An.row ok_107 mu_107:=by
 intro fuel cs x h
 obtain⟨hlen,xs,hx,hxl,hf⟩:=JE (n:=5) underlying107 (by kernel_rfl) h
 obtain⟨y0,n0,g0,t0⟩:=hf 0 _ rfl
 obtain⟨y1,n1,g1,t1⟩:=hf 1 _ rfl
 obtain⟨y2,n2,g2,t2⟩:=hf 2 _ rfl
 obtain⟨y3,n3,g3,t3⟩:=hf 3 _ rfl
 obtain⟨y4,n4,g4,t4⟩:=hf 4 _ rfl
 obtain rfl:xs=[y0,y1,y2,y3,y4]:=Jl hxl (λj y hj=>by
  rcases j with _ | _ | _ | _ | _ | j<;>cases hj<;>assumption)
 obtain⟨a0,k0,r0,m0⟩:=((Bn.int K underlying3)) _ _ _ t0
 obtain⟨a1,k1,r1,m1⟩:=((Bn.int K underlying3)) _ _ _ t1
 obtain⟨a2,k2,r2,m2⟩:=((Bn.str K underlying9)) _ _ _ t2
 obtain⟨a3,k3,r3,m3⟩:=((Bn.int K underlying3)) _ _ _ t3
 obtain⟨a4,k4,r4,m4⟩:=((Bn.slice K (sz:=2) underlying35 (by kernel_rfl) (by decide) (rd_71 K) (λ_=>rfl))) _ _ _ t4
 have m0:1≤K.B y0.1:=m0
 have m1:1≤K.B y1.1:=m1
 have m2:a2.length+1≤K.B y2.1:=m2
 have m3:1≤K.B y3.1:=m3
 have m4:(a4.map mu_71).sum+1≤K.B y4.1:=m4
 have hm:=K.agg (List.map (λz:DataW H × List MemPlace=>z.1) [y0,y1,y2,y3,y4])
 simp only[rc,sx,sk,tc] at hm
 refine⟨⟨a0,a1,a2,a3,a4⟩,⟨k0,k1,k2,k3,k4⟩,⟨hlen,λj d u h1 h2=>?_⟩,?_⟩
 ·rcases j with _ | _ | _ | _ | _ | j
  ·exact r0.part (jj:=0) (by kernel_rfl) h1 h2
  ·exact r1.part (jj:=0) (by kernel_rfl) h1 h2
  ·exact r2.part (jj:=0) (by kernel_rfl) h1 h2
  ·exact r3.part (jj:=0) (by kernel_rfl) h1 h2
  ·exact r4.part (jj:=0) (by kernel_rfl) h1 h2
  ·cases h1
 ·rw[hx]
  refine rM ?_ hm
  show(1)+(1)+(a2.length+1)+(1)+((a4.map mu_71).sum+1)+1≤_
  omega
def ok_109(x:Ap):Prop:=(Lit.int .i64 x.Row).wf=true∧(Lit.int .i64 x.Col).wf=true∧(Lit.int .i64 x.H).wf=true∧(Lit.int .i64 x.W).wf=true
def mu_109(x:Ap):Nat:=(1)+(1)+(1)+(1)+1
theorem rd_109{H:Type}{enc:TypeId × Value→H}{W:World}(K:Gy H):Bn K enc prog W 109 Ap.row ok_109 mu_109:=by
 intro fuel cs x h
 obtain⟨hlen,xs,hx,hxl,hf⟩:=JE (n:=4) underlying109 (by kernel_rfl) h
 obtain⟨y0,n0,g0,t0⟩:=hf 0 _ rfl
 obtain⟨y1,n1,g1,t1⟩:=hf 1 _ rfl
 obtain⟨y2,n2,g2,t2⟩:=hf 2 _ rfl
 obtain⟨y3,n3,g3,t3⟩:=hf 3 _ rfl
 obtain rfl:xs=[y0,y1,y2,y3]:=Jl hxl (λj y hj=>by
  rcases j with _ | _ | _ | _ | j<;>cases hj<;>assumption)
 obtain⟨a0,k0,r0,m0⟩:=((Bn.int K underlying3)) _ _ _ t0
 obtain⟨a1,k1,r1,m1⟩:=((Bn.int K underlying3)) _ _ _ t1
 obtain⟨a2,k2,r2,m2⟩:=((Bn.int K underlying3)) _ _ _ t2
 obtain⟨a3,k3,r3,m3⟩:=((Bn.int K underlying3)) _ _ _ t3
 have m0:1≤K.B y0.1:=m0
 have m1:1≤K.B y1.1:=m1
 have m2:1≤K.B y2.1:=m2
 have m3:1≤K.B y3.1:=m3
 have hm:=K.agg (List.map (λz:DataW H × List MemPlace=>z.1) [y0,y1,y2,y3])
 simp only[rc,sx,sk,tc] at hm
 refine⟨⟨a0,a1,a2,a3⟩,⟨k0,k1,k2,k3⟩,⟨hlen,λj d u h1 h2=>?_⟩,?_⟩
 ·rcases j with _ | _ | _ | _ | j
  ·exact r0.part (jj:=0) (by kernel_rfl) h1 h2
  ·exact r1.part (jj:=0) (by kernel_rfl) h1 h2
  ·exact r2.part (jj:=0) (by kernel_rfl) h1 h2
  ·exact r3.part (jj:=0) (by kernel_rfl) h1 h2
  ·cases h1
 ·rw[hx]
  refine rM ?_ hm
  show(1)+(1)+(1)+(1)+1≤_
  omega
def ok_51(x:Av):Prop:=(Lit.int .i64 x.Rows).wf=true∧(Lit.int .i64 x.Cols).wf=true∧(x.Cells.length≤maxLen∧∀a∈x.Cells,ok_107 a)∧(x.Merges.length≤maxLen∧∀a∈x.Merges,ok_109 a)
def mu_51(x:Av):Nat:=(1)+(1)+((x.Cells.map mu_107).sum+1)+((x.Merges.map mu_109).sum+1)+1
theorem rd_51{H:Type}{enc:TypeId × Value→H}{W:World}(K:Gy H):Bn K enc prog W 51 Av.row ok_51 mu_51:=by
 intro fuel cs x h
 obtain⟨hlen,xs,hx,hxl,hf⟩:=JE (n:=4) underlying51 (by kernel_rfl) h
 obtain⟨y0,n0,g0,t0⟩:=hf 0 _ rfl
 obtain⟨y1,n1,g1,t1⟩:=hf 1 _ rfl
 obtain⟨y2,n2,g2,t2⟩:=hf 2 _ rfl
 obtain⟨y3,n3,g3,t3⟩:=hf 3 _ rfl
 obtain rfl:xs=[y0,y1,y2,y3]:=Jl hxl (λj y hj=>by
  rcases j with _ | _ | _ | _ | j<;>cases hj<;>assumption)
 obtain⟨a0,k0,r0,m0⟩:=((Bn.int K underlying3)) _ _ _ t0
 obtain⟨a1,k1,r1,m1⟩:=((Bn.int K underlying3)) _ _ _ t1
 obtain⟨a2,k2,r2,m2⟩:=((Bn.slice K (sz:=5) underlying48 (by kernel_rfl) (by decide) (rd_107 K) (λ_=>rfl))) _ _ _ t2
 obtain⟨a3,k3,r3,m3⟩:=((Bn.slice K (sz:=4) underlying49 (by kernel_rfl) (by decide) (rd_109 K) (λ_=>rfl))) _ _ _ t3
 have m0:1≤K.B y0.1:=m0
 have m1:1≤K.B y1.1:=m1
 have m2:(a2.map mu_107).sum+1≤K.B y2.1:=m2
 have m3:(a3.map mu_109).sum+1≤K.B y3.1:=m3
 have hm:=K.agg (List.map (λz:DataW H × List MemPlace=>z.1) [y0,y1,y2,y3])
 simp only[rc,sx,sk,tc] at hm
 refine⟨⟨a0,a1,a2,a3⟩,⟨k0,k1,k2,k3⟩,⟨hlen,λj d u h1 h2=>?_⟩,?_⟩
 ·rcases j with _ | _ | _ | _ | j
  ·exact r0.part (jj:=0) (by kernel_rfl) h1 h2
  ·exact r1.part (jj:=0) (by kernel_rfl) h1 h2
  ·exact r2.part (jj:=0) (by kernel_rfl) h1 h2
  ·exact r3.part (jj:=0) (by kernel_rfl) h1 h2
  ·cases h1
 ·rw[hx]
  refine rM ?_ hm
  show(1)+(1)+((a2.map mu_107).sum+1)+((a3.map mu_109).sum+1)+1≤_
  omega
def ok_146(x:Aw):Prop:=(Lit.int .i64 x.Clock).wf=true∧(Lit.int .i64 x.Site).wf=true∧(Lit.int .i64 x.Kind).wf=true∧(Lit.int .i64 x.Item).wf=true∧(Lit.int .i64 x.Parent).wf=true∧x.Place.length≤maxLen∧x.Name.length≤maxLen∧x.Value.length≤maxLen
def mu_146(x:Aw):Nat:=(1)+(1)+(1)+(1)+(1)+(x.Place.length+1)+(x.Name.length+1)+(x.Value.length+1)+1
theorem rd_146{H:Type}{enc:TypeId × Value→H}{W:World}(K:Gy H):Bn K enc prog W 146 Aw.row ok_146 mu_146:=by
 intro fuel cs x h
 obtain⟨hlen,xs,hx,hxl,hf⟩:=JE (n:=8) underlying146 (by kernel_rfl) h
 obtain⟨y0,n0,g0,t0⟩:=hf 0 _ rfl
 obtain⟨y1,n1,g1,t1⟩:=hf 1 _ rfl
 obtain⟨y2,n2,g2,t2⟩:=hf 2 _ rfl
 obtain⟨y3,n3,g3,t3⟩:=hf 3 _ rfl
 obtain⟨y4,n4,g4,t4⟩:=hf 4 _ rfl
 obtain⟨y5,n5,g5,t5⟩:=hf 5 _ rfl
 obtain⟨y6,n6,g6,t6⟩:=hf 6 _ rfl
 obtain⟨y7,n7,g7,t7⟩:=hf 7 _ rfl
 obtain rfl:xs=[y0,y1,y2,y3,y4,y5,y6,y7]:=Jl hxl (λj y hj=>by
  rcases j with _ | _ | _ | _ | _ | _ | _ | _ | j<;>cases hj<;>assumption)
 obtain⟨a0,k0,r0,m0⟩:=((Bn.int K underlying3)) _ _ _ t0
 obtain⟨a1,k1,r1,m1⟩:=((Bn.int K underlying3)) _ _ _ t1
 obtain⟨a2,k2,r2,m2⟩:=((Bn.int K underlying3)) _ _ _ t2
 obtain⟨a3,k3,r3,m3⟩:=((Bn.int K underlying3)) _ _ _ t3
 obtain⟨a4,k4,r4,m4⟩:=((Bn.int K underlying3)) _ _ _ t4
 obtain⟨a5,k5,r5,m5⟩:=((Bn.str K underlying9)) _ _ _ t5
 obtain⟨a6,k6,r6,m6⟩:=((Bn.str K underlying9)) _ _ _ t6
 obtain⟨a7,k7,r7,m7⟩:=((Bn.str K underlying9)) _ _ _ t7
 have m0:1≤K.B y0.1:=m0
 have m1:1≤K.B y1.1:=m1
 have m2:1≤K.B y2.1:=m2
 have m3:1≤K.B y3.1:=m3
 have m4:1≤K.B y4.1:=m4
 have m5:a5.length+1≤K.B y5.1:=m5
 have m6:a6.length+1≤K.B y6.1:=m6
 have m7:a7.length+1≤K.B y7.1:=m7
 have hm:=K.agg (List.map (λz:DataW H × List MemPlace=>z.1) [y0,y1,y2,y3,y4,y5,y6,y7])
 simp only[rc,sx,sk,tc] at hm
 refine⟨⟨a0,a1,a2,a3,a4,a5,a6,a7⟩,⟨k0,k1,k2,k3,k4,k5,k6,k7⟩,⟨hlen,λj d u h1 h2=>?_⟩,?_⟩
 ·rcases j with _ | _ | _ | _ | _ | _ | _ | _ | j
  ·exact r0.part (jj:=0) (by kernel_rfl) h1 h2
  ·exact r1.part (jj:=0) (by kernel_rfl) h1 h2
  ·exact r2.part (jj:=0) (by kernel_rfl) h1 h2
  ·exact r3.part (jj:=0) (by kernel_rfl) h1 h2
  ·exact r4.part (jj:=0) (by kernel_rfl) h1 h2
  ·exact r5.part (jj:=0) (by kernel_rfl) h1 h2
  ·exact r6.part (jj:=0) (by kernel_rfl) h1 h2
  ·exact r7.part (jj:=0) (by kernel_rfl) h1 h2
  ·cases h1
 ·rw[hx]
  refine rM ?_ hm
  show(1)+(1)+(1)+(1)+(1)+(a5.length+1)+(a6.length+1)+(a7.length+1)+1≤_
  omega
def ok_54(x:AO):Prop:=(Lit.int .i64 x.ID).wf=true∧(Lit.int .i64 x.Kind).wf=true∧(x.Attrs.length≤maxLen∧∀a∈x.Attrs,ok_71 a)∧(x.Flow.length≤maxLen∧∀a∈x.Flow,ok_37 a)∧ok_51 x.Grid∧(x.Draw.length≤maxLen∧∀a∈x.Draw,ok_146 a)
def mu_54(x:AO):Nat:=(1)+(1)+((x.Attrs.map mu_71).sum+1)+((x.Flow.map mu_37).sum+1)+(mu_51 x.Grid)+((x.Draw.map mu_146).sum+1)+1
theorem rd_54{H:Type}{enc:TypeId × Value→H}{W:World}(K:Gy H):Bn K enc prog W 54 AO.row ok_54 mu_54:=by
 intro fuel cs x h
 obtain⟨hlen,xs,hx,hxl,hf⟩:=JE (n:=9) underlying54 (by kernel_rfl) h
 obtain⟨y0,n0,g0,t0⟩:=hf 0 _ rfl
 obtain⟨y1,n1,g1,t1⟩:=hf 1 _ rfl
 obtain⟨y2,n2,g2,t2⟩:=hf 2 _ rfl
 obtain⟨y3,n3,g3,t3⟩:=hf 3 _ rfl
 obtain⟨y4,n4,g4,t4⟩:=hf 4 _ rfl
 obtain⟨y5,n5,g5,t5⟩:=hf 5 _ rfl
 obtain rfl:xs=[y0,y1,y2,y3,y4,y5]:=Jl hxl (λj y hj=>by
  rcases j with _ | _ | _ | _ | _ | _ | j<;>cases hj<;>assumption)
 obtain⟨a0,k0,r0,m0⟩:=((Bn.int K underlying3)) _ _ _ t0
 obtain⟨a1,k1,r1,m1⟩:=((Bn.int K underlying3)) _ _ _ t1
 obtain⟨a2,k2,r2,m2⟩:=((Bn.slice K (sz:=2) underlying35 (by kernel_rfl) (by decide) (rd_71 K) (λ_=>rfl))) _ _ _ t2
 obtain⟨a3,k3,r3,m3⟩:=((Bn.slice K (sz:=3) underlying47 (by kernel_rfl) (by decide) (rd_37 K) (λ_=>rfl))) _ _ _ t3
 obtain⟨a4,k4,r4,m4⟩:=((rd_51 K)) _ _ _ t4
 obtain⟨a5,k5,r5,m5⟩:=((Bn.slice K (sz:=8) underlying52 (by kernel_rfl) (by decide) (rd_146 K) (λ_=>rfl))) _ _ _ t5
 have m0:1≤K.B y0.1:=m0
 have m1:1≤K.B y1.1:=m1
 have m2:(a2.map mu_71).sum+1≤K.B y2.1:=m2
 have m3:(a3.map mu_37).sum+1≤K.B y3.1:=m3
 have m4:mu_51 a4≤K.B y4.1:=m4
 have m5:(a5.map mu_146).sum+1≤K.B y5.1:=m5
 have hm:=K.agg (List.map (λz:DataW H × List MemPlace=>z.1) [y0,y1,y2,y3,y4,y5])
 simp only[rc,sx,sk,tc] at hm
 refine⟨⟨a0,a1,a2,a3,a4,a5⟩,⟨k0,k1,k2,k3,k4,k5⟩,⟨hlen,λj d u h1 h2=>?_⟩,?_⟩
 ·rcases j with _ | _ | _ | _ | _ | _ | _ | _ | _ | j
  ·exact r0.part (jj:=0) (by kernel_rfl) h1 h2
  ·exact r1.part (jj:=0) (by kernel_rfl) h1 h2
  ·exact r2.part (jj:=0) (by kernel_rfl) h1 h2
  ·exact r3.part (jj:=0) (by kernel_rfl) h1 h2
  ·exact r4.part (jj:=0) (by kernel_rfl) h1 h2
  ·exact r4.part (jj:=1) (by kernel_rfl) h1 h2
  ·exact r4.part (jj:=2) (by kernel_rfl) h1 h2
  ·exact r4.part (jj:=3) (by kernel_rfl) h1 h2
  ·exact r5.part (jj:=0) (by kernel_rfl) h1 h2
  ·cases h1
 ·rw[hx]
  refine rM ?_ hm
  show(1)+(1)+((a2.map mu_71).sum+1)+((a3.map mu_37).sum+1)+(mu_51 a4)+((a5.map mu_146).sum+1)+1≤_
  omega
def ok_24(x:AR):Prop:=(x.Nodes.length≤maxLen∧∀a∈x.Nodes,ok_54 a)
def mu_24(x:AR):Nat:=((x.Nodes.map mu_54).sum+1)+1
theorem rd_24{H:Type}{enc:TypeId × Value→H}{W:World}(K:Gy H):Bn K enc prog W 24 AR.row ok_24 mu_24:=by
 intro fuel cs x h
 obtain⟨hlen,xs,hx,hxl,hf⟩:=JE (n:=1) underlying24 (by kernel_rfl) h
 obtain⟨y0,n0,g0,t0⟩:=hf 0 _ rfl
 obtain rfl:xs=[y0]:=Jl hxl (λj y hj=>by
  rcases j with _ | j<;>cases hj<;>assumption)
 obtain⟨a0,k0,r0,m0⟩:=((Bn.slice K (sz:=9) underlying22 (by kernel_rfl) (by decide) (rd_54 K) (λ_=>rfl))) _ _ _ t0
 have m0:(a0.map mu_54).sum+1≤K.B y0.1:=m0
 have hm:=K.agg (List.map (λz:DataW H × List MemPlace=>z.1) [y0])
 simp only[rc,sx,sk,tc] at hm
 refine⟨⟨a0⟩,k0,⟨hlen,λj d u h1 h2=>?_⟩,?_⟩
 ·rcases j with _ | j
  ·exact r0.part (jj:=0) (by kernel_rfl) h1 h2
  ·cases h1
 ·rw[hx]
  refine rM ?_ hm
  show((a0.map mu_54).sum+1)+1≤_
  omega
theorem tabs{W:World}(h:laidMetH prog Rows.notesMatchUptoRow.laid W):Es (Cx.start W):=by
 have h':laidMet prog Rows.notesMatchUptoRow.laid W:=h
 refine nB (d1:=Go.Pinned.utf8First) (d2:=Rows.laid_unicode_utf8_acceptRanges) (t1:=206) (t2:=209) (e1:=5) (e2:=208) (Go.Lib.laidMet.reads h' ?_) (by kernel_rfl) (by kernel_rfl) (by kernel_rfl) underlying206 underlying5 (by kernel_rfl) (by kernel_rfl)
  (Go.Lib.laidMet.reads h' ?_) (by kernel_rfl) (by kernel_rfl) (by kernel_rfl) underlying209 underlying208 (λi f hf=>?_) rfl (by kernel_rfl) (hw:=λg cs hg=>?_) (hF:=?_)
 ·exact .tail _ (.tail _ (.tail _ (.tail _ (.tail _ (.tail _ (.head _))))))
 ·exact .tail _ (.tail _ (.tail _ (.head _)))
 ·rcases i with _ | _ | i
  ·cases hf;exact⟨underlying5,rfl,by kernel_rfl⟩
  ·cases hf;exact⟨underlying5,rfl,by kernel_rfl⟩
  ·cases hf
 ·unfold QG at hg
  split at hg
  ·rename_i hgp
   cases hg
   subst hgp
   exact⟨by decide,pt (Go.Lib.laidMet.reads h' (.tail _ (.tail _ (.head _)))) (by kernel_rfl) (by kernel_rfl) (by kernel_rfl) underlying255 underlying220 (by kernel_rfl) (by kernel_rfl)⟩
  ·cases hg
 ·exact⟨Uw (Go.Lib.laidMet.reads h' (.tail _ (.tail _ (.tail _ (.tail _ (.tail _ (.head _))))))) rfl (by kernel_rfl) (by kernel_rfl) underlying181,Uw (Go.Lib.laidMet.reads h' (.tail _ (.tail _ (.tail _ (.tail _ (.head _)))))) rfl (by kernel_rfl) (by kernel_rfl) underlying181⟩
set_option maxRecDepth 100000 in
theorem contract(H:Type)(enc:TypeId × Value→H)(W:World)(base:Nat)(args:Array Value)(ds gs:List (DataW H))(before:List MemPlace)
  (hval:∀(j:Nat) t v,Tryz.f3.params[j]?=some t→args[j]?=some v→Value.okWide prog W .any base t v)
  (hW:DataW.Whole enc prog Tryz.f3.params.toList Rows.notesMatchSpec.vars false W args.toList ds gs before) (hk0:Rows.uptoSmall H (ds++gs)=true) (hL:laidMetH prog Rows.notesMatchUptoRow.laid W) :
  Calls prog 3 args W λe W'=>∃v,e=.returned v∧Rows.notesMatchSpec.post enc prog Tryz.f3 false true false false W args v W':=by
 have hW':=hW
 obtain⟨p,q,hA0,hV,rfl,hfz,hnd⟩:=hW
 have hA:DataW.TrodAll enc prog W 0 (λ_=>true) true Tryz.f3.params.toList args.toList ds p:=hA0
 rw[Tryz.params3] at hA hval
 obtain⟨v0,vs0,d0,ds0,p0,q0,hargs,rfl,rfl,h0,e0⟩:=trodAll_cons hA
 obtain⟨v1,vs1,d1,ds1,p1,q1,rfl,rfl,rfl,h1,e1⟩:=trodAll_cons e0
 obtain⟨rfl,rfl,rfl⟩:=trodAll_nil e1
 obtain rfl:args = #[v0,v1]:=by cases args;simp_all
 obtain⟨rfl,rfl⟩:=trodVars_none hV
 have hk:(blk H).B d0+(blk H).B d1≤1048576:=by
  have:=tV hk0
  simp only[s8,Rows.uptoBulkAll] at this
  show Rows.uptoBulk d0+Rows.uptoBulk d1≤1048576
  omega
 obtain⟨x0,k0,r0,m0⟩:=ib (blk H) underlying24 (rd_24 (blk H)) (hval 0 24 v0 rfl rfl) h0
 obtain⟨x1,k1,r1,m1⟩:=Y2 (blk H) underlying3 (hval 1 3 v1 rfl rfl) h1
 clear hA0
 have h0:=ms (μ:=mu_54) (γ:=mu_51) (ψ:=mu_107) (ρ:=mu_109) (δ:=mu_146) (ν:=mu_37) (κ:=mu_71) (λn=>by unfold mu_54;omega) (λg=>by unfold mu_51;omega) (λc=>by unfold mu_107;omega) (λr=>by unfold mu_109;omega) (λo=>by unfold mu_146;omega) (λe=>by unfold mu_37;omega) (λa=>by unfold mu_71;omega) (d:=x0) (by have m0':=m0;unfold mu_24 at m0';omega)
 have hD:=jf (μ:=mu_54) (δ:=mu_146) (λn=>by unfold mu_54;omega) (λo=>by unfold mu_146;omega) (d:=x0) (by have m0':=m0;unfold mu_24 at m0';omega)
 have hp:=pL x0 x1 h0 hD
 obtain⟨_,_,hc⟩:=ef hp
 refine(hc (Cx.start W) #[v0,v1] (qZ W (tabs hL)) rfl ⟨rfl,λi a u k1 k2=>?_⟩).mono λe W' ⟨u,y,he,hy,hle,hok,hr⟩=>?_
 ·rcases i with _ | _ | i
  ·cases k1;cases k2;exact r0
  ·cases k1;cases k2;exact .r r1
  ·cases k1
 ·subst he;subst hy
  obtain rfl:=HP hr
  exact⟨_,rfl,fv (by kernel_rfl) (by rw[Tryz.params3];intro t ht;simp at ht;rcases ht with rfl | rfl<;>exact⟨by kernel_rfl,tV (by kernel_rfl)⟩) rfl hW' hle rfl rfl
   (λ_ _ _=>trodAll_cons_mk (shut_bool underlying4 _) trodAll_mk0)⟩
def lay(cs:List Value):Obj→Obj
 | .cells _ t frozen=>.cells cs.toArray t frozen
 | o=>o
def litsOf:DataW Unit→List Value
 | .agg l=>l.map λd=>match d with | .lit (.int k z)=>Value.int k z | _=>undef
 | _=>[]
def textOf:DataW Unit→Value
 | .iface _ (.ptr (.agg [.lit (.string s)]))=>Value.string ⟨s.toArray⟩
 | _=>undef
noncomputable def holdW(os:Os):World:=World.holding prog os ⟨#[],#[],[]⟩
noncomputable def laidWorld(os:Os):World:=
 { holdW os with heap:=((((((((((holdW os).heap.modify 5 (lay (litsOf Rows.laid_math_bits_deBruijn32tab))).modify 6 (lay (litsOf Rows.laid_math_bits_deBruijn64tab))).modify 4 (lay (litsOf Rows.laid_internal_strconv_uint64pow10))).modify Ip (lay (Jc.flatMap λp=>[Value.int .u8 p.1,Value.int .u8 p.2]))).modify 3 (lay [Value.iface 250 (.pointer (some ⟨(holdW os).heap.size+0,0,none⟩))])).modify 2 (lay [Value.iface 250 (.pointer (some ⟨(holdW os).heap.size+1,0,none⟩))])).modify Ia (lay (GW.map λz=>Value.int .u8 z))).push (Obj.cells #[textOf Rows.laid_strconv_ErrRange] 252 (0,0))).push (Obj.cells #[textOf Rows.laid_strconv_ErrSyntax] 252 (0,0))) }
theorem laid_met(os:Os):laidMet prog Rows.notesMatchUptoRow.laid ((laidWorld os).forCall (λ_ _=>0) ⟨#[],#[.agg #[.slice none 0 0],.int .i64 0],[]⟩).memory:=
 laidMet_of_run' 8 (by kernel_rfl) (by kernel_rfl)
theorem reads(os:Os){H:Type}(enc:TypeId × Value→H):∃places,DataW.whole enc prog ((laidWorld os).forCall (λ_ _=>0) ⟨#[],#[.agg #[.slice none 0 0],.int .i64 0],[]⟩).memory Tryz.f3.params.toList Rows.notesMatchSpec.vars false (#[.agg #[.slice none 0 0],.int .i64 0]:Array Value).toList 8=some ([.agg [.nil],.lit (.int .i64 0)],[],places):=
 ⟨[],by kernel_rfl⟩
set_option maxRecDepth 100000 in
theorem lifted(os:Os)(started:os.Started)(H:Type)(enc:TypeId × Value→H)(F:Stop.Interp) :
  ReturnsInHanded {} Tryz.checked os 3 .any ((Rows.OpenSpec.upto Rows.notesMatchSpec).preRow enc prog Tryz.f3 Rows.notesMatchUptoRow.domain false Rows.notesMatchUptoRow.laid) (((Rows.OpenSpec.upto Rows.notesMatchSpec).at F).post enc prog Tryz.f3 false true false false):=by
 obtain⟨places,hx⟩:=reads os enc
 refine returnsInHanded_of_row (C:=Tryz.checked) (s:=Rows.OpenSpec.upto Rows.notesMatchSpec) own started (by kernel_rfl) func3
  (witness_row_at (enc:=enc) (C:=Tryz.checked) false (laidWorld os) #[.agg #[.slice none 0 0],.int .i64 0] rfl (by kernel_rfl) (by kernel_rfl) (by kernel_rfl)
   (OpenSpec.preRow_of_cond 8 hx (by kernel_rfl) (λk hk=>by cases hk;kernel_rfl) (by kernel_rfl) (laid_met os))) ?_
 intro W base args ds gs before hval hW _ hk _ hL _ _
 exact contract H enc W base args ds gs before hval hW (hk _ rfl) hL
theorem and_tt{a b:Bool}(ha:a=true)(hb:b=true):(a&&b)=true:=by rw[ha,hb];rfl
set_option maxHeartbeats 4000000 in
theorem closed:joinedFacts prog 3 Tryz.f3 (Rows.OpenSpec.upto Rows.notesMatchSpec).bare Rows.notesMatchUptoRow=true:=by
 unfold joinedFacts
 refine and_tt ?_ (by as_aux_lemma=>kernel_rfl)
 refine and_tt ?_ (by as_aux_lemma=>kernel_rfl)
 refine and_tt ?_ (by as_aux_lemma=>kernel_rfl)
 refine and_tt ?_ (by as_aux_lemma=>kernel_rfl)
 refine and_tt ?_ (by as_aux_lemma=>kernel_rfl)
 refine and_tt ?_ (by as_aux_lemma=>kernel_rfl)
 refine and_tt ?_ (by as_aux_lemma=>kernel_rfl)
 refine and_tt ?_ (by as_aux_lemma=>kernel_rfl)
 refine and_tt ?_ (by as_aux_lemma=>kernel_rfl)
 refine and_tt ?_ (by as_aux_lemma=>kernel_rfl)
 refine and_tt ?_ (by as_aux_lemma=>kernel_rfl)
 refine and_tt ?_ (by as_aux_lemma=>kernel_rfl)
 refine and_tt ?_ (by as_aux_lemma=>kernel_rfl)
 refine and_tt ?_ (by as_aux_lemma=>kernel_rfl)
 refine and_tt ?_ (by as_aux_lemma=>kernel_rfl)
 refine and_tt ?_ (by as_aux_lemma=>kernel_rfl)
 refine and_tt ?_ (by as_aux_lemma=>kernel_rfl)
 refine and_tt ?_ (by as_aux_lemma=>kernel_rfl)
 refine and_tt ?_ (by as_aux_lemma=>kernel_rfl)
 refine and_tt ?_ (by as_aux_lemma=>kernel_rfl)
 refine and_tt ?_ (by as_aux_lemma=>kernel_rfl)
 refine and_tt ?_ (by as_aux_lemma=>kernel_rfl)
 refine and_tt ?_ (by as_aux_lemma=>kernel_rfl)
 refine and_tt ?_ (by as_aux_lemma=>kernel_rfl)
 refine and_tt ?_ (by as_aux_lemma=>kernel_rfl)
 refine and_tt ?_ (by as_aux_lemma=>kernel_rfl)
 refine and_tt ?_ (by as_aux_lemma=>kernel_rfl)
 refine and_tt ?_ (by as_aux_lemma=>kernel_rfl)
 refine and_tt ?_ (by as_aux_lemma=>kernel_rfl)
 refine and_tt ?_ (by as_aux_lemma=>kernel_rfl)
 refine and_tt ?_ (by as_aux_lemma=>kernel_rfl)
 kernel_rfl
theorem goes_apart{P:Program}{c:OpenClaim}(hs:c.start=.entering)(h:P.funcs.any Func.goes=false):false=c.goesBy P:=by
 have h':∀g:FuncId,(P.funcs[g]?).any Func.goes=false:=λg=>by
  cases e:P.funcs[g]? with
  | none=>rfl
  | some x=>
   obtain⟨hg,rfl⟩:=sG.1 e
   exact tU.2 λhx=>(tU.1 h) (Array.any_eq_true.2 ⟨g,hg,hx⟩)
 unfold OpenClaim.goesBy Program.goesAt Program.goesFrom Program.goes
 rw[hs,h]
 cases P.funcNamed c.func with
 | none=>rfl
 | some f=>simp[h']
theorem goes_not:prog.funcs.any Func.goes=false:=by kernel_rfl
theorem over:Rows.NotesMatchUptoSaid:=
 OpenClaim.holds_of_cond 3 Tryz.f3 rfl rfl rfl rfl rfl rfl rfl ⟨rfl,rfl,rfl,rfl,rfl⟩ rfl rfl rfl rfl rfl (by kernel_rfl) func3 closed
  (tV (by kernel_rfl)) (by unfold Func.isWrapper;first | (rw[qy (by decide +kernel)];kernel_rfl) | (rw[qx (by decide +kernel)];exact⟨rfl,rfl⟩))
  (λos started H enc _ F=>by rw[OpenClaim.pre_eq_preRow];exact lifted os started H enc F)
theorem plain (f : FuncId) (fn : Func) (hf : Tryz.pinned.checked.prog.funcNamed "chancery/chancerylaw1.NotesMatch" = some f) (hfn : Tryz.pinned.checked.prog.funcs[f]? = some fn) :
  true=Tryz.pinned.checked.prog.looks []∧∀(j:Nat) t,fn.params[j]?=some t→Tryz.pinned.checked.prog.wantsStandIn t=false:=by
 obtain rfl : f = 3 := rW ((show prog.funcNamed "chancery/chancerylaw1.NotesMatch" = some 3 by kernel_rfl).symm.trans hf) |>.symm
 obtain rfl:fn=Tryz.f3:=(rW (func3.symm.trans hfn)).symm
 refine⟨by kernel_rfl,λj t ht=>?_⟩
 rw[Tryz.params3] at ht
 rcases j with _ | _ | j
 ·cases ht;exact(show prog.wantsStandIn 24=false by kernel_rfl)
 ·cases ht;exact(show prog.wantsStandIn 3=false by kernel_rfl)
 ·cases ht
theorem proved:Rows.NotesMatchUptoCardSaid:=
 Claim7.holds_tied_plain_at .later [] _ _ _ _ over (λ_ h=>by cases h) (by kernel_rfl) (λ_ h=>by cases h) notesMatchUpto_row_tie rfl ⟨rfl,rfl⟩ (by kernel_rfl) rfl plain (goes_apart rfl goes_not)
#print axioms proved
end Go.Proofs.YtifgmfoihehlbaaGreatDoor.Al.RNotes
