/- Walks, as printed. -/
import Derived.Test.YtmeadkhpiobenaaGreatDoorPL2
import Derived.Test.YtmeadkhpiobenaaGreatDoorProg
set_option linter.all false
set_option maxHeartbeats 4000000
set_option maxRecDepth 20000
set_option linter.unusedVariables false
namespace Go.Proofs.YtmeadkhpiobenaaGreatDoor.Al
open Go.Proofs Go.Proofs.Tryz
@[reducible] noncomputable def B5 t:=(prog.info? t).map (λi=>(i.zero,i.size,i.bytes))
theorem BZ:prog.follows .mixedOrders=true:=by kernel_rfl
theorem QC:B5 104=some (some<|.agg #[.int .i64 0,.int .i64 0,.string ⟨#[]⟩,.int .i64 0,.slice none 0 0],5,64):=by kernel_rfl
theorem R9:B5 115=some (some<|.slice none 0 0,1,24):=by kernel_rfl
theorem Qq:B5 119=some (some<|.agg #[.int .i64 0,.int .i64 0,.int .i64 0,.int .i64 0,.int .i64 0,.string ⟨#[]⟩,.string ⟨#[]⟩,.string ⟨#[]⟩],8,88):=by kernel_rfl
theorem N9:B5 121=some (some<|.agg #[.int .i64 0,.int .i64 0,.string ⟨#[]⟩,.slice none 0 0],4,56):=by kernel_rfl
theorem lW:B5 141=some (some<|.nilFunc,1,8):=by kernel_rfl
theorem Vm:B5 144=some (some<|.agg #[.int .i64 0,.int .i64 0,.bool false],3,24):=by kernel_rfl
theorem TK:B5 145=some (some<|.nilFunc,1,8):=by kernel_rfl
theorem NK:B5 154=some (some<|.agg #[.int .i64 0,.int .i64 0,.int .i64 0,.int .i64 0],4,32):=by kernel_rfl
theorem U0:B5 192=some (some<|.map none,1,8):=by kernel_rfl
theorem Vl:B5 22=some (some<|.slice none 0 0,1,24):=by kernel_rfl
theorem P7:B5 24=some (some<|.agg #[.slice none 0 0],1,24):=by kernel_rfl
theorem TA:B5 268=some (some<|.map none,1,8):=by kernel_rfl
theorem W9:B5 269=some (some<|.map none,1,8):=by kernel_rfl
theorem Yc:B5 270=some (some<|.map none,1,8):=by kernel_rfl
theorem oO:B5 272=some (some<|.agg #[.map none,.map none],2,16):=by kernel_rfl
theorem oc:B5 273=some (some<|.pointer none,1,8):=by kernel_rfl
theorem UG:B5 274=some (some<|.nilFunc,1,8):=by kernel_rfl
theorem Cr:B5 3=some (some<|.int .i64 0,1,8):=by kernel_rfl
theorem Jc:B5 32=some (some<|.slice none 0 0,1,24):=by kernel_rfl
theorem RH:B5 324=some (some<|.agg #[.int .u8 0,.int .u8 0],2,2):=by kernel_rfl
theorem UC:B5 33=some (some<|.slice none 0 0,1,24):=by kernel_rfl
theorem TY:B5 34=some (some<|.slice none 0 0,1,24):=by kernel_rfl
theorem R8:B5 35=some (some<|.slice none 0 0,1,24):=by kernel_rfl
theorem Nf:B5 37=some (some<|.agg #[.int .i64 0,.int .i64 0,.slice none 0 0,.slice none 0 0],4,64):=by kernel_rfl
theorem SP:B5 38=some (some<|.slice none 0 0,1,24):=by kernel_rfl
theorem P3:B5 4=some (some<|.bool false,1,1):=by kernel_rfl
theorem N8:B5 40=some (some<|.agg #[.int .i64 0,.int .i64 0,.slice none 0 0,.slice none 0 0,.int .i64 0,.int .i64 0,.slice none 0 0,.slice none 0 0,.slice none 0 0],9,152):=by kernel_rfl
theorem UZ:B5 44=some (some<|.agg #[.int .i64 0,.int .i64 0,.bool false],3,24):=by kernel_rfl
theorem RK:B5 5=some (some<|.int .u8 0,1,1):=by kernel_rfl
theorem L5:B5 69=some (some<|.agg #[.int .i64 0,.int .i64 0,.slice none 0 0],3,40):=by kernel_rfl
theorem HD:B5 9=some (some<|.string ⟨#[]⟩,1,16):=by kernel_rfl
theorem Ny:B5 91=some (some<|.agg #[.string ⟨#[]⟩,.string ⟨#[]⟩],2,32):=by kernel_rfl
theorem Hg:Be prog 104 (.agg #[.int .i64 0,.int .i64 0,.string ⟨#[]⟩,.int .i64 0,.slice none 0 0]):=Be.of QC
theorem Qr:Be prog 115 (.slice none 0 0):=Be.of R9
theorem Qv:Be prog 119 (.agg #[.int .i64 0,.int .i64 0,.int .i64 0,.int .i64 0,.int .i64 0,.string ⟨#[]⟩,.string ⟨#[]⟩,.string ⟨#[]⟩]):=Be.of Qq
theorem M1:Be prog 121 (.agg #[.int .i64 0,.int .i64 0,.string ⟨#[]⟩,.slice none 0 0]):=Be.of N9
theorem px:Be prog 145 (.nilFunc):=Be.of TK
theorem II:Be prog 154 (.agg #[.int .i64 0,.int .i64 0,.int .i64 0,.int .i64 0]):=Be.of NK
theorem Wr:Be prog 192 (.map none):=Be.of U0
theorem WF:Be prog 24 (.agg #[.slice none 0 0]):=Be.of P7
theorem eT:Be prog 268 (.map none):=Be.of TA
theorem eD:Be prog 273 (.pointer none):=Be.of oc
theorem pL:Be prog 274 (.nilFunc):=Be.of UG
theorem SC:Be prog 32 (.slice none 0 0):=Be.of Jc
theorem pe:Be prog 324 (.agg #[.int .u8 0,.int .u8 0]):=Be.of RH
theorem kN:Be prog 37 (.agg #[.int .i64 0,.int .i64 0,.slice none 0 0,.slice none 0 0]):=Be.of Nf
theorem Sb:Be prog 4 (.bool false):=Be.of P3
theorem I2:Be prog 40 (.agg #[.int .i64 0,.int .i64 0,.slice none 0 0,.slice none 0 0,.int .i64 0,.int .i64 0,.slice none 0 0,.slice none 0 0,.slice none 0 0]):=Be.of N8
theorem PM:Be prog 69 (.agg #[.int .i64 0,.int .i64 0,.slice none 0 0]):=Be.of L5
theorem Z2:Be prog 9 (.string ⟨#[]⟩):=Be.of HD
theorem Ye:Be prog 91 (.agg #[.string ⟨#[]⟩,.string ⟨#[]⟩]):=Be.of Ny
theorem ge:prog.underlying 129=some (.interface<|prog.methodsAt 129):=by kernel_rfl
theorem E7:Bb prog 104 5:=Bb.of underlying104 rfl QC
theorem HV:Bb prog 119 8:=Bb.of underlying119 rfl Qq
theorem GK:Bb prog 121 4:=Bb.of underlying121 rfl N9
theorem ow:Bb prog 144 3:=Bb.of underlying144 rfl Vm
theorem DP:Bb prog 154 4:=Bb.of underlying154 rfl NK
theorem CV:Bb prog 24 1:=Bb.of underlying24 rfl P7
theorem fC:Bb prog 324 2:=Bb.of underlying324 rfl RH
theorem Ix:Bb prog 37 4:=Bb.of underlying37 rfl Nf
theorem ER:Bb prog 40 9:=Bb.of underlying40 rfl N8
theorem kp:Bb prog 44 3:=Bb.of underlying44 rfl UZ
theorem LK:Bb prog 69 3:=Bb.of underlying69 rfl L5
theorem Ec:Bb prog 91 2:=Bb.of underlying91 rfl Ny
theorem ni:Gn 2=some (F5.flatMap<|As .u8):=by kernel_rfl
theorem pW:Gn 3=some (Pm.flatMap IP.row):=by kernel_rfl
theorem Qt:DK prog 121 [(0,1),(1,1),(2,1),(3,1)] [.int .i64 0,.int .i64 0,.string ⟨#[]⟩,.slice none 0 0]:=DK.of underlying121 (λw=>by kernel_rfl) N9
theorem QU:DK prog 144 [(0,1),(1,1),(2,1)] [.int .i64 0,.int .i64 0,.bool false]:=DK.of underlying144 (λw=>by kernel_rfl) Vm
theorem Xj:DK prog 154 [(0,1),(1,1),(2,1),(3,1)] [.int .i64 0,.int .i64 0,.int .i64 0,.int .i64 0]:=DK.of underlying154 (λw=>by kernel_rfl) NK
theorem lK:DK prog 24 [(0,1)] [.slice none 0 0]:=DK.of underlying24 (λw=>by kernel_rfl) P7
theorem kv:DK prog 272 [(0,1),(1,1)] [.map none,.map none]:=DK.of underlying272 (λw=>by kernel_rfl) oO
theorem nR:DK prog 37 [(0,1),(1,1),(2,1),(3,1)] [.int .i64 0,.int .i64 0,.slice none 0 0,.slice none 0 0]:=DK.of underlying37 (λw=>by kernel_rfl) Nf
theorem RX:DK prog 44 [(0,1),(1,1),(2,1)] [.int .i64 0,.int .i64 0,.bool false]:=DK.of underlying44 (λw=>by kernel_rfl) UZ
theorem jp:DK prog 69 [(0,1),(1,1),(2,1)] [.int .i64 0,.int .i64 0,.slice none 0 0]:=DK.of underlying69 (λw=>by kernel_rfl) L5
theorem QL:DK prog 91 [(0,1),(1,1)] [.string ⟨#[]⟩,.string ⟨#[]⟩]:=DK.of underlying91 (λw=>by kernel_rfl) Ny
theorem my:GU prog 154 [some<|.int .i64,some<|.int .i64,some<|.int .i64,some<|.int .i64]:=GU.of underlying154 (by kernel_rfl) (by kernel_rfl)<|by exact⟨rfl,rfl,underlying3,rfl,rfl,underlying3,rfl,rfl,underlying3,rfl,rfl,underlying3,trivial⟩
theorem gA:GU prog 91 [some .string,some .string]:=GU.of underlying91 (by kernel_rfl) (by kernel_rfl)<|by exact⟨rfl,rfl,underlying9,rfl,rfl,underlying9,trivial⟩
theorem E5:Ai prog 104 0 0:=Ai.of underlying104 rfl rfl Cr<|by decide
theorem FW:Ai prog 104 1 1:=Ai.of underlying104 rfl rfl Cr<|by decide
theorem I7:Ai prog 104 2 2:=Ai.of underlying104 rfl rfl HD<|by decide
theorem EO:Ai prog 104 3 3:=Ai.of underlying104 rfl rfl Cr<|by decide
theorem HF:Ai prog 104 4 4:=Ai.of underlying104 rfl rfl Jc<|by decide
theorem H5:Ai prog 119 0 0:=Ai.of underlying119 rfl rfl Cr<|by decide
theorem Je:Ai prog 119 1 1:=Ai.of underlying119 rfl rfl Cr<|by decide
theorem FZ:Ai prog 119 2 2:=Ai.of underlying119 rfl rfl Cr<|by decide
theorem FL:Ai prog 119 3 3:=Ai.of underlying119 rfl rfl Cr<|by decide
theorem GC:Ai prog 119 4 4:=Ai.of underlying119 rfl rfl Cr<|by decide
theorem MN:Ai prog 119 5 5:=Ai.of underlying119 rfl rfl HD<|by decide
theorem Ln:Ai prog 119 6 6:=Ai.of underlying119 rfl rfl HD<|by decide
theorem Ih:Ai prog 119 7 7:=Ai.of underlying119 rfl rfl HD<|by decide
theorem EX:Ai prog 121 0 0:=Ai.of underlying121 rfl rfl Cr<|by decide
theorem Lg:Ai prog 121 1 1:=Ai.of underlying121 rfl rfl Cr<|by decide
theorem Hj:Ai prog 121 2 2:=Ai.of underlying121 rfl rfl HD<|by decide
theorem KP:Ai prog 121 3 3:=Ai.of underlying121 rfl rfl Jc<|by decide
theorem Kp:Ai prog 144 0 0:=Ai.of underlying144 rfl rfl Cr<|by decide
theorem eS:Ai prog 144 1 1:=Ai.of underlying144 rfl rfl Cr<|by decide
theorem U8:Ai prog 144 2 2:=Ai.of underlying144 rfl rfl P3<|by decide
theorem Ca:Ai prog 154 0 0:=Ai.of underlying154 rfl rfl Cr<|by decide
theorem DG:Ai prog 154 1 1:=Ai.of underlying154 rfl rfl Cr<|by decide
theorem Gg:Ai prog 154 2 2:=Ai.of underlying154 rfl rfl Cr<|by decide
theorem F7:Ai prog 154 3 3:=Ai.of underlying154 rfl rfl Cr<|by decide
theorem CD:Ai prog 24 0 0:=Ai.of underlying24 rfl rfl Vl<|by decide
theorem US:Ai prog 272 0 0:=Ai.of underlying272 rfl rfl W9<|by decide
theorem T3:Ai prog 272 1 1:=Ai.of underlying272 rfl rfl Yc<|by decide
theorem eI:Ai prog 324 0 0:=Ai.of underlying324 rfl rfl RK<|by decide
theorem pE:Ai prog 324 1 1:=Ai.of underlying324 rfl rfl RK<|by decide
theorem Gx:Ai prog 37 0 0:=Ai.of underlying37 rfl rfl Cr<|by decide
theorem HT:Ai prog 37 1 1:=Ai.of underlying37 rfl rfl Cr<|by decide
theorem EF:Ai prog 37 2 2:=Ai.of underlying37 rfl rfl TY<|by decide
theorem EN:Ai prog 37 3 3:=Ai.of underlying37 rfl rfl R8<|by decide
theorem En:Ai prog 40 0 0:=Ai.of underlying40 rfl rfl Cr<|by decide
theorem CF:Ai prog 40 1 1:=Ai.of underlying40 rfl rfl Cr<|by decide
theorem Il:Ai prog 40 2 2:=Ai.of underlying40 rfl rfl Jc<|by decide
theorem FI:Ai prog 40 3 3:=Ai.of underlying40 rfl rfl UC<|by decide
theorem EU:Ai prog 40 4 4:=Ai.of underlying40 rfl rfl Nf<|by decide
theorem HG:Ai prog 40 5 8:=Ai.of underlying40 rfl rfl SP<|by decide
theorem KE:Ai prog 44 0 0:=Ai.of underlying44 rfl rfl Cr<|by decide
theorem Uc:Ai prog 44 2 2:=Ai.of underlying44 rfl rfl P3<|by decide
theorem Gu:Ai prog 69 0 0:=Ai.of underlying69 rfl rfl Cr<|by decide
theorem Du:Ai prog 69 1 1:=Ai.of underlying69 rfl rfl Cr<|by decide
theorem Ry:Ai prog 69 2 2:=Ai.of underlying69 rfl rfl Jc<|by decide
theorem ES:Ai prog 91 0 0:=Ai.of underlying91 rfl rfl HD<|by decide
theorem JD:Ai prog 91 1 1:=Ai.of underlying91 rfl rfl HD<|by decide
theorem BM:Bn prog 115 121 4 56:=Bn.of underlying115 N9 rfl rfl<|by decide
theorem Bs:Bn prog 22 40 9 152:=Bn.of underlying22 N8 rfl rfl<|by decide
theorem NY:Bn prog 29 44 3 24:=Bn.of underlying29 UZ rfl rfl<|by decide
theorem BD:Bn prog 32 91 2 32:=Bn.of underlying32 Ny rfl rfl<|by decide
theorem CZ:Bn prog 33 69 3 40:=Bn.of underlying33 L5 rfl rfl<|by decide
theorem B2:Bn prog 34 104 5 64:=Bn.of underlying34 QC rfl rfl<|by decide
theorem DD:Bn prog 35 154 4 32:=Bn.of underlying35 NK rfl rfl<|by decide
theorem E0:Bn prog 38 119 8 88:=Bn.of underlying38 Qq rfl rfl<|by decide
theorem B3:Bn prog 76 3 1 8:=Bn.of underlying76 Cr rfl rfl<|by decide
theorem oT:Id prog 40 [.int .i64 0,.int .i64 0,.sl [],.sl [],.int .i64 0,.int .i64 0,.sl [],.sl [],.sl []]:=Id.of N8 rfl
theorem eU:Id prog 69 [.int .i64 0,.int .i64 0,.sl []]:=Id.of L5 rfl
theorem Us:BL prog 115:=BL.of underlying115 rfl R9
theorem gI:BL prog 141:=BL.of underlying141 rfl lW
theorem Ov:BL prog 145:=BL.of underlying145 rfl TK
theorem Pn:BL prog 192:=BL.of underlying192 rfl U0
theorem CJ:BL prog 22:=BL.of underlying22 rfl Vl
theorem Qw:BL prog 268:=BL.of underlying268 rfl TA
theorem Sq:BL prog 269:=BL.of underlying269 rfl W9
theorem ST:BL prog 270:=BL.of underlying270 rfl Yc
theorem W6:BL prog 274:=BL.of underlying274 rfl UG
theorem AI:BL prog 3:=BL.of underlying3 rfl Cr
theorem Ci:BL prog 32:=BL.of underlying32 rfl Jc
theorem FP:BL prog 33:=BL.of underlying33 rfl UC
theorem EH:BL prog 34:=BL.of underlying34 rfl TY
theorem Eb:BL prog 35:=BL.of underlying35 rfl R8
theorem Hd:BL prog 38:=BL.of underlying38 rfl SP
theorem L9:BL prog 4:=BL.of underlying4 rfl P3
theorem Tl:BL prog 5:=BL.of underlying5 rfl RK
theorem A9:BL prog 9:=BL.of underlying9 rfl HD
theorem pR:TB prog 322 256 5 1:=⟨underlying322,DB RK⟩
theorem jC:TB prog 325 16 324 2:=⟨underlying325,DB RH⟩
theorem IN:∃i,prog.info? 104=some i∧i.size=5:=DB QC
theorem Z1:∃i,prog.info? 115=some i∧i.size=1:=DB R9
theorem Pg:∃i,prog.info? 119=some i∧i.size=8:=DB Qq
theorem LX:∃i,prog.info? 121=some i∧i.size=4:=DB N9
theorem eN:∃i,prog.info? 145=some i∧i.size=1:=DB TK
theorem GG:∃i,prog.info? 154=some i∧i.size=4:=DB NK
theorem WL:∃i,prog.info? 192=some i∧i.size=1:=DB U0
theorem S6:∃i,prog.info? 24=some i∧i.size=1:=DB P7
theorem fb:∃i,prog.info? 268=some i∧i.size=1:=DB TA
theorem oK:∃i,prog.info? 274=some i∧i.size=1:=DB UG
theorem Ks:∃i,prog.info? 32=some i∧i.size=1:=DB Jc
theorem nl:∃i,prog.info? 324=some i∧i.size=2:=DB RH
theorem jc:∃i,prog.info? 33=some i∧i.size=1:=DB UC
theorem pU:∃i,prog.info? 34=some i∧i.size=1:=DB TY
theorem fS:∃i,prog.info? 35=some i∧i.size=1:=DB R8
theorem YX:∃i,prog.info? 37=some i∧i.size=4:=DB Nf
theorem lJ:∃i,prog.info? 38=some i∧i.size=1:=DB SP
theorem IM:∃i,prog.info? 40=some i∧i.size=9:=DB N8
theorem Mn:∃i,prog.info? 69=some i∧i.size=3:=DB L5
theorem Mh:∃i,prog.info? 9=some i∧i.size=1:=DB HD
theorem VV:∃i,prog.info? 91=some i∧i.size=2:=DB Ny
@[reducible] def qa(l:List AE):AV:=.r<|.sl<|l.map AE.row
@[reducible] def qb(l:List Ac):AV:=.r<|.sl<|l.map Ac.row
@[reducible] def qc(l:List Ao):AV:=.r<|.sl<|l.map Ao.row
@[reducible] def qd(l:List Ak):AV:=.r<|.sl<|l.map Ak.row
@[reducible] def qe(l:List An):AV:=.r<|.sl<|l.map An.row
@[reducible] def qf(l:List A3):AV:=.r<|.sl<|l.map A3.row
@[reducible] def qg(l:List AB):AV:=.r<|.sl<|l.map AB.row
@[reducible] def qh(l:List AZ):AV:=.r<|.sl<|l.map AZ.row
set_option linter.defProp false
@[reducible] def FF:List AV:=[rI<|0,rI<|0,.cst<|.slice none 0 0,.cst<|.slice none 0 0,rI<|0,rI<|0,.cst<|.slice none 0 0,.cst<|.slice none 0 0,.cst<|.slice none 0 0]
@[reducible] def JP(x:Ac):List AV:=[.agg [rI<|x.ID,rI<|x.Kind,qa x.Attrs,qe x.Flow,rI<|x.Grid.Rows,rI<|x.Grid.Cols,qc x.Grid.Cells,qd x.Grid.Merges,qf x.Draw]]
@[reducible] def pT(x:A3):List AV:=[.agg [rI<|x.Clock,rI<|x.Site,rI<|x.Kind,rI<|x.Item,rI<|x.Parent,.r<|.str x.Place,.r<|.str x.Name,.r<|.str x.Value]]
@[reducible] def A5(x:Ac):List AV:=[rI<|x.ID,rI<|x.Kind,qa x.Attrs,qe x.Flow,rI<|x.Grid.Rows,rI<|x.Grid.Cols,qc x.Grid.Cells,qd x.Grid.Merges,qf x.Draw]
@[reducible] def Bc(x:A3):List AV:=[rI<|x.Clock,rI<|x.Site,rI<|x.Kind,rI<|x.Item,rI<|x.Parent,.r<|.str x.Place,.r<|.str x.Name,.r<|.str x.Value]
@[reducible] def Q6:List AV:=[rI<|0,rI<|0,rI<|0,rI<|0,rI<|0,.r<|.str [],.r<|.str [],.r<|.str []]
@[reducible] def YK(x:Ao):List AV:=[.agg [rI<|x.Row,rI<|x.Col,.r<|.str x.Text,rI<|x.Ref,qa x.Attrs]]
@[reducible] def Bg(x:Ao):List AV:=[rI<|x.Row,rI<|x.Col,.r<|.str x.Text,rI<|x.Ref,qa x.Attrs]
@[reducible] def Qp:List AV:=[rI<|0,rI<|0,.cst<|.slice none 0 0,.cst<|.slice none 0 0]
@[reducible] def IA:List AV:=[rI<|0,rI<|0,.r<|.str [],rI<|0,.cst<|.slice none 0 0]
@[reducible] def B4(x:AB):List AV:=[rI<|x.Item,rI<|x.Parent,.r<|.str x.Place,qa x.Attrs]
@[reducible] def T8(x:BF):List AV:=[.agg [rI<|x.Rows,rI<|x.Cols,qc x.Cells,qd x.Merges]]
@[reducible] def Lf:List AV:=[rI<|0,rI<|0,.r<|.str [],.cst<|.slice none 0 0]
@[reducible] def CR(x:BF):List AV:=[rI<|x.Rows,rI<|x.Cols,qc x.Cells,qd x.Merges]
@[reducible] def Ay(x:Ak):List AV:=[rI<|x.Row,rI<|x.Col,rI<|x.H,rI<|x.W]
@[reducible] def Xp(x:An):List AV:=[.agg [rI<|x.Char,rI<|x.Ref,qa x.Attrs]]
@[reducible] def FC(x:Am):List AV:=[rI<|x.id,rI<|x.parent,rB<|x.visible]
@[reducible] def Eo(x:AZ):List AV:=[rI<|x.ID,rI<|x.Parent,rB<|x.Visible]
@[reducible] def Rq:List AV:=[rI<|0,rI<|0,.cst<|.slice none 0 0]
@[reducible] def B6(x:AE):List AV:=[.r<|.str x.Name,.r<|.str x.Value]
@[reducible] def Di(x:An):List AV:=[rI<|x.Char,rI<|x.Ref,qa x.Attrs]
@[reducible] def Fd:List AV:=[rI<|0,rI<|0,rI<|0,rI<|0]
@[reducible] def rA{T r:Int}{x:Exit}{s:St}{j:ResultVar}:=@Cb Int prog T r x s j λr=>rI r
@[reducible] def rD{T r:Bool}{x:Exit}{s:St}{j:ResultVar}:=@Cb Bool prog T r x s j λr=>rB r
@[reducible] def yI:=@ZK prog
@[reducible] def yB:=@Y3 prog
@[reducible] def Za:=@trivial
@[reducible] def Zc:=@AW.skip
@[reducible] def Zf:=@rn
@[reducible] def Zg:=@AW.block
@[reducible] def Zh:=@AK.nil
@[reducible] def Zj:=@AW.ret
@[reducible] def Zl:=@aY
@[reducible] def Zm:=@AW.exit
@[reducible] def Zr:=@RB.mk
@[reducible] def Zt:=@sR
@[reducible] def Zu:=@qW
@[reducible] def Zw:=@Ah.trans
@[reducible] def Zz:=@bF
@[reducible] def ZA:=@qN
@[reducible] def R:=@rfl
set_option maxHeartbeats 4000000 in
set_option maxRecDepth 100000 in
theorem jA{r}(h:VY=some r):AS prog 32 [] (rB r):=by
 unfold VY at h
 cases h
 exact AS.runX [] (λp hp=>by cases hp) [] [] 40 1000000 BZ func32 R R R<|by kernel_rfl
set_option maxHeartbeats 4000000 in
set_option maxRecDepth 100000 in
theorem dx{r}(h:Ql=some r):AS prog 6 [] (rB r):=by
 unfold Ql at h
 cases h
 exact AS.runX [(32,true)] (λp hp=>by simp only[ro,List.not_mem_nil,or_false] at hp;subst hp;exact jA rfl) [] [65,163] 40 1000000 BZ func6 rfl rfl rfl<|by kernel_rfl
theorem YU{n1 i r}(h:Lz n1 i=some r):AS prog 121 [.agg<|A5 n1,rI i] (rI r):=by
 unfold Lz at h
 refine mF func121 ntmps121 R λq=>aU<|sS R (BC (cs:=(A5 n1)) 2 R iL R R)<|mA R<|aZ<|aT λm=>Zg<|aU<|lF En AI R R<|mM R<|xS R<|mA R<|aZ<|cI R h (λj=>?_) λj=>?_
 ·exact zI j R id
 refine aU<|lF En AI R R<|mM R<|sQ R (BU R iL iL)<|mA R<|aZ<|cI R j (λl=>?_) λl=>?_
 ·exact zI l R id
 exact Zc<|m _<|zI l R id
theorem py{l a r}(h:O4 l a=some r):AS prog 120 [qb l,rI a,.fn 121 []] (.tup [rI r.1,rB r.2]):=by
 unfold O4 at h
 refine mF func120 ntmps120 R λn0=>aU<|mA R<|mA R<|aZ<|aU<|mM R<|xL Bs R<|mA R<|aZ<|aU<|mM R<|mA R<|mA R<|aZ<|aS λK4 c4 A=>Zg<|Bd h λo1 m B=>?_
 have J1:∀(i8:Int) (i9:NN),o1=i8→K4 ⟨[(0,qb l),(1,rI a),(2,.fn 121 []),(8,rL l),(9,rI i8)],[],(i9 0),49⟩:=by
  intro i8 i9 e
  have h1:=B _ e
  exact c4 _<|aU<|mM R<|mM R<|mM R<|xS R<|mM R<|vM R<|vM R<|vM R<|AG h1 λj C h2=>vQ R (BK R Bs.slice (iR R) (iR R) (λ_=>R)<|Ad C)<|vQ R (ET (cs:=(A5 j)) R ER (iR R) R R)<|vM R<|AG h2 λr1 E h3=>AK.stepW (.one R R R) R R (Dz (r:=rI r1) (caps:=[]) (bs:=[.agg<|A5 j,rI a]) R (iR R) R ⟨⟨_,(iR R),.g (cs:=[.int .i64 j.ID,.int .i64 j.Kind,.sl<|j.Attrs.map AE.row,.sl<|j.Flow.map An.row,.int .i64 j.Grid.Rows,.int .i64 j.Grid.Cols,.sl<|j.Grid.Cells.map Ao.row,.sl<|j.Grid.Merges.map Ak.row,.sl<|j.Draw.map A3.row]) R R⟩,⟨_,(iR R),.d R⟩,Za⟩ (λhg=>YU<|Ad E hg) R)<|vQ R (BE R (iR R) iL)<|xN R<|mA R<|mA R<|aZ<|Zj<|E4 (P:=prog) (λ(r:Int × Bool)=>rI r.1) (λ(r:Int × Bool)=>rB r.2) h3 iL (.t<|.d R)<|.t<|.d R
 refine Cw (λ(F:Int) (I:Int) q=>⟨[(0,qb l),(1,rI a),(2,.fn 121 []),(8,rL l),(9,rI F),(10,rI I)],[],(q 0),49⟩) (AH [n0]) m wk ?_
 intro F I q v1 J M
 have h4:IC l a F I=some v1:=J;unfold IC at h4
 refine aT λc6=>aU<|mM R<|mM R<|xS R<|aZ<|cI R h4 (λO=>?_) λO=>?_
 ·refine Zc<|c6 _<|Zg<|aU<|mM R<|mM R<|AG O λx3 T h6=>xA R T<|sQ R (D1 R underlying3 underlying254 iL)<|sQ R (RZ (b:=1) R iL iL)<|sQ R (D1 R underlying254 underlying3 iL)<|mA R<|aZ<|aT λc9=>aF [0,1,2,8,9,10,11] ?_
  refine aR<|mM R<|mM R<|mM R<|AG h6 λx4 U h7=>xI Bs R U<|xB ((A5 x4)) ER R<|mM R<|AG h7 λr2 V h8=>cL (YU<|V) R<|xS R<|aZ<|c9 _<|cI R h8 (λX=>?_) λX=>?_
  ·refine aF [0,1,2,8,10,11] ?_
   exact aR<|mM R<|AG X λa0 w Z=>xA R w<|mA R<|Zh<|CU.mk Z (AH [(q 0)]) wk
  refine aF [0,1,2,8,9,11] ?_
  exact aR<|mM R<|mA R<|Zh<|CU.mk X (AH [(q 0)]) wk
 exact Zm<|A _ _ wk<|J1 _ (AH [(q 0)])<|xH M O
theorem QD{d1 i r}(h:Fm d1 i=some r):AS prog 68 [.agg [qb d1.Nodes],rI i] (.tup [rI r.1,rB r.2]):=by
 unfold Fm at h
 exact mF func68 ntmps68 R λw=>aU<|sS R (BC (cs:=[qb d1.Nodes]) 2 R iL R R)<|mA R<|mA R<|aZ<|aU<|lF CD CJ R R<|mM R<|FY h λl m j q=>sS R (Dz (r:=.tup [rI l,rB m]) (caps:=[]) (bs:=[qb d1.Nodes,rI i,.fn 121 []]) R iL R ⟨⟨_,iL,.d R⟩,⟨_,iL,.d R⟩,⟨_,iL,.one<|.closed (.fn 121 []) R⟩,Za⟩ (λ_=>py<|j) R)<|xX R<|xX R<|mA R<|mA R<|aZ<|Zj<|E4 (P:=prog) (λ(r:Int × Bool)=>rI r.1) (λ(r:Int × Bool)=>rB r.2) q iL (.t<|.d R)<|.t<|.d R
theorem aJ{d1 i r}(h:Hc d1 i=some r):AS prog 34 [.agg [qb d1.Nodes],rI i] (rI r):=by
 unfold Hc at h
 refine mF func34 ntmps34 R λA=>aU<|sS R (BC (cs:=[qb d1.Nodes]) 2 R iL R R)<|mA R<|aZ<|aT λm=>aU<|xC CV R<|mM R<|FY h λB C j q=>cL (QD<|j) R<|mM R<|xX R<|xX R<|mA R<|mA R<|aZ<|aT λw=>aF [5,6] ?_
 refine aR<|mM R<|aZ<|w _<|cI R q (λl=>?_) λl=>?_
 ·exact aU<|mM R<|mA R<|aZ<|Zj<|yI l R
 exact Zc<|m _<|zI l R id
theorem Uy{j n r}(h:Jz j n=some r):AS prog 35 [qa j,rS n] (rS r):=by
 unfold Jz at h
 refine mF func35 ntmps35 R λZ=>aU<|mA R<|aZ<|aS λK2 c2 w=>aU<|mM R<|xL BD R<|mM R<|aZ<|Zg<|BV h λo1 l A B=>?_
 have J1:∀(T:Unit) (U:NN),o1=.nrm T→K2 ⟨[],[],(U 0),20⟩:=by
  intro T U e
  have h1:=A _ e
  exact c2 _<|aU<|mA R<|aZ<|Zj<|Cb (P:=prog) (λ(r:(List UInt8))=>rS r) h1 iL<|.t<|.d R
 refine Zu (λ(C:Int) q=>⟨[(1,rS n),(7,qa j),(8,rL j),(9,rI C)],[],(q 0),20⟩) (AH [Z]) l wk ?_
 intro C q v1 E m
 have V:Oj j n C=some v1:=E;unfold Oj at V
 refine aU<|xS R<|aZ<|aT λc6=>cI R V (λF=>?_) λF=>?_
 ·refine Zc<|c6 _<|aT λc7=>Zg<|aU<|AG F λX I h4=>xI BD R I<|xB ((B6 X)) Ec R<|sS R (BN (cs:=[.r<|.str [],.r<|.str []]) 6 R Ye R R)<|Zl R R (A6 (ds:=(B6 X)) R VV iL R iL R R R R)<|aZ<|aU<|lF ES A9 R R<|mM R<|sQ R (D3 R iL iL)<|aZ<|cI R h4 (λJ=>?_) λJ=>?_
  ·refine aT λM=>aG [6] [6] ?_
   exact aR<|lF JD A9 R R<|mA R<|aZ<|M _<|Zj<|Cb (P:=prog) (λ(r:(List UInt8))=>rS r) (B _<|xH m J) iL<|.t<|.d R
  exact Zc<|c7 _<|aR<|AG J λx5 O h6=>xA R O<|mM R<|Zh<|Zr h6 (AH [((q 0)+1)]) wk
 exact Zm<|w _ _ wk<|J1 _ (AH [(q 0)])<|xH m F
theorem fc{B r}(h:Mx B=some r):AS prog 181 [qe B] (qe r):=by
 unfold Mx at h
 refine mF func181 ntmps181 R λn0=>aU<|mA R<|aZ<|aU<|mM R<|xL CZ R<|AG h λa1 C h1=>sS R (X0 8 R CZ (f:=An.row) (z0:=(An.mk 0 0 [])) eU iL iL C)<|mA R<|aZ<|aS λK3 c3 M=>aU<|mM R<|xL CZ R<|mM R<|aZ<|Zg<|Bd h1 λo1 E O=>?_
 have J1:∀(w:List An) (J:NN),o1=w→K3 ⟨[(3,.own 8<|J 0)],[(8,some<|.arr (J 0) 69 3<|w.map An.row)],(J 1),29⟩:=by
  intro w J e
  have h2:=O _ e
  exact c3 _<|aU<|mM R<|mA R<|aZ<|Zj<|Cb (P:=prog) (λ(r:(List An))=>qe r) h2 iL<|.t<|.one<|.own R
 refine Cw (λ(A:Int) (m:List An) j=>⟨[(3,.own 8<|j 0),(9,qe B),(10,rL B),(11,rI A)],[(8,some<|.arr (j 0) 69 3<|m.map An.row)],(j 1),29⟩) (AH [n0,(n0+1)]) E wk ?_
 intro A m j v1 T U
 have h3:I5 B A m=some v1:=T;unfold I5 at h3
 refine aU<|xS R<|aZ<|aT λc7=>cI R h3 (λV=>?_) λV=>?_
 ·refine Zc<|c7 _<|aT λc8=>Zg<|aU<|mM R<|AG V λl X h5=>xI CZ R X<|xB ((Di l)) LK R<|sS R (BN (cs:=Rq) 5 R PM R R)<|mA R<|Zl R R (A6 (ds:=(Di l)) R Mn iL R iL R R R R)<|aZ<|AG h5 λF Z h6=>?_
  refine JT 10 [pO 16<|.own 8<|j 0,pO 17<|rI A,pO 18<|.ptr 5 (j 1) 0 0,pO 19<|rI l.Char,pO 20<|.ptr 5 (j 1) 0 1,pO 21<|rI l.Ref,pO 22<|.ptr 5 (j 1) 0 2,pO 23<|qa l.Attrs,⟨some 24,(λq=>.own 24<|q 8),some (24,(λq=>some<|.arr (q 8) 91 2<|F.map AE.row)),[8]⟩,⟨some 25,(λq=>.agg [rI l.Char,rI l.Ref,.own 24<|q 8]),none,[8]⟩] BZ (by kernel_rfl) (by exact⟨λ_ _ h=>⟨R,λ_ _ e=>by cases e⟩,λ_ _ h=>⟨R,λ_ _ e=>by cases e⟩,λ_ _ h=>⟨R,λ_ _ e=>by cases e⟩,λ_ _ h=>⟨R,λ_ _ e=>by cases e⟩,λ_ _ h=>⟨R,λ_ _ e=>by cases e⟩,λ_ _ h=>⟨R,λ_ _ e=>by cases e⟩,λ_ _ h=>⟨R,λ_ _ e=>by cases e⟩,λ_ _ h=>⟨R,λ_ _ e=>by cases e⟩,λ_ _ h=>⟨by simp only[h 8 R],λ_ _ e=>by cases e;simp only[h 8 R]⟩,λ_ _ h=>⟨by simp only[h 8 R],λ_ _ e=>by cases e⟩,Za⟩) R (by exact⟨oB [(3,.own 8<|j 0)] [(8,some<|.arr (j 0) 69 3<|m.map An.row)]<|AL R<|.inl R,oB [(4,rI A)] []<|AL R<|.inl R,oB [(5,.ptr 5 (j 1) 0 0)] [(5,some<|.box (j 1) 69<|Di l)]<|fB R Gu (.inl R) (λ_=>R) R,oB [(18,.ptr 5 (j 1) 0 0)] [(5,some<|.box (j 1) 69<|Di l)]<|Ab (a:=rI l.Char) R AI (.inl R) R R,oB [(5,.ptr 5 (j 1) 0 0)] [(5,some<|.box (j 1) 69<|Di l)]<|fB R Du (.inl R) (λ_=>R) R,oB [(20,.ptr 5 (j 1) 0 1)] [(5,some<|.box (j 1) 69<|Di l)]<|Ab (a:=rI l.Ref) R AI (.inl R) R R,oB [(5,.ptr 5 (j 1) 0 0)] [(5,some<|.box (j 1) 69<|Di l)]<|fB R Ry (.inl R) (λ_=>R) R,oB [(22,.ptr 5 (j 1) 0 2)] [(5,some<|.box (j 1) 69<|Di l)]<|Ab (a:=qa l.Attrs) R Ci (.inl R) R R,oM (λ_=>[(23,qa l.Attrs)]) (λ_=>[]) R λq e h' n=>MT 24 (f:=AE.row) R BD (.inl R) (.inl ⟨(.inl R),λ_=>R⟩) Z,oC (λq=>[(19,rI l.Char),(21,rI l.Ref),(24,.own 24<|q 8)]) (λq=>[(24,some<|.arr (q 8) 91 2<|F.map AE.row)]) λq e h'=>DL R jp (q:=[(0,_),(1,_),(2,_)]) (by exact⟨R,R,R,(.inl R),R,R,R,(.inl R),R,R,R,(.inl R),Za⟩) (cs:=[rI l.Char,rI l.Ref,.own 24<|q 8])<|by rfl,Za⟩) λq n1=>?_
  refine Bm [3,4,5,9,10,11,12,13,14,15,16,17,18,19,20,21,22,23,24,25] [5,8,24] ?_
  refine AG h6 λx5 I h7=>sQ R (GP R CZ.slice iL R iL λ_=>I) ?_
  refine AK.weak (by exact Ah.frz (e':=[(3,.own 8<|j 0),(4,rI A),(5,.ptr 5 (j 1) 0 0),(9,qe B),(10,rL B),(11,rI A),(12,rB<|(decide<|A<(B.length:Int))),(13,rI A),(14,.rop (An.row l) 0),(15,.agg<|Di l),(16,.own 8<|j 0),(17,rI A),(18,.ptr 5 (j 1) 0 0),(19,rI l.Char),(20,.ptr 5 (j 1) 0 1),(21,rI l.Ref),(22,.ptr 5 (j 1) 0 2),(23,qa l.Attrs),(24,qa F),(25,.agg [rI l.Char,rI l.Ref,qa F]),(26,.ptr 8 (j 0) A.toNat 0)]) (h':=[(5,some<|.box (j 1) 69<|Di l),(8,some<|.arr (j 0) 69 3<|m.map An.row)]) 24 R ⟨jL,jL,jL,jL,jL,jL,jL,jL,jL,jL,jL,jL,jL,jL,jL,jL,jL,jL,.inl<|.inr<|.inr ⟨R,R⟩,.inr ⟨_,_,R,R,⟨.inl R,.inl R,.inr<|.inr ⟨R,R⟩,Za⟩⟩,jL,Za⟩ ⟨R,.inl R,R,.inl R,Za⟩) ?_
  refine Zl R R (Ss (v:=(An.mk l.Char l.Ref F)) R Mn iL R I iL R R R R)<|aZ<|c8 _<|aG [3,9,10,11] [8] ?_
  exact aR<|AG h7 λx6 a0 h8=>xA R a0<|mM R<|Zh<|CU.mk h8 (AH [(j 0),n1]) wk
 exact Zm<|M _ _ wk<|J1 _ (AH [(j 0),(j 1)])<|xH U V
theorem je{n1 r}(h:ON n1=some r):AS prog 113 (JP n1) (.agg<|A5 r):=by
 unfold ON at h
 refine mF func113 ntmps113 R λj=>aU<|sS R (BC (cs:=(A5 n1)) 1 R iL R R)<|sS R (BN (cs:=FF) 2 R I2 R R)<|aZ<|aU<|lF Il Ci R R<|AG h λI J h1=>sS R (MT 8 (f:=AE.row) R BD iL (.inl ⟨iL,λ_=>R⟩) J)<|sQ R (fB R Il iL fR R)<|Zl R R (A6 (ds:=[rI n1.ID,rI n1.Kind,.own 8<|j+2,qe n1.Flow,rI n1.Grid.Rows,rI n1.Grid.Cols,qc n1.Grid.Cells,qd n1.Grid.Merges,qf n1.Draw]) R Ks iL R iL R R R R)<|aZ<|aU<|lF FI FP R R<|AG h1 λB M h2=>sS R (EA (r:=qe B) (caps:=[]) (bs:=[qe n1.Flow]) R iL R ⟨.inl ⟨iL,R⟩,Za⟩ λ_=>fc<|M)<|sQ R (fB R FI iL fR R)<|Zl R R (A6 (ds:=[rI n1.ID,rI n1.Kind,.own 8<|j+2,qe B,rI n1.Grid.Rows,rI n1.Grid.Cols,qc n1.Grid.Cells,qd n1.Grid.Merges,qf n1.Draw]) R jc iL R iL R R R R)<|aZ<|aT λc4=>aG [1,2] [1,2,8] ?_
 refine aR<|lF HG Hd R R<|AG h2 λO T h3=>sS R (MT 16 (f:=A3.row) R E0 iL (.inl ⟨iL,λ_=>R⟩) T)<|sQ R (fB R HG iL fR R)<|Zl R R (A6 (ds:=[rI n1.ID,rI n1.Kind,.own 8<|j+2,qe B,rI n1.Grid.Rows,rI n1.Grid.Cols,qc n1.Grid.Cells,qd n1.Grid.Merges,.own 16<|j+3]) R lJ iL R iL R R R R)<|aZ<|c4 _<|aU<|sQ R (fB R EU iL fR R)<|sQ R (Ja (ds:=(CR n1.Grid)) R Ix iL R R R)<|sS R (BN (cs:=Qp) 3 R kN R R)<|Zl R R (A6 (ds:=(CR n1.Grid)) R YX iL R iL R R R R)<|aZ<|aU<|lF EN Eb R R<|AG h3 λl3 U h4=>sS R (MT 22 (f:=Ak.row) R DD iL (.inl ⟨iL,λ_=>R⟩) U)<|sQ R (fB R EN iL fR R)<|Zl R R (A6 (ds:=[rI n1.Grid.Rows,rI n1.Grid.Cols,qc n1.Grid.Cells,.own 22<|j+5]) R fS iL R iL R R R R)<|aZ<|aT λc7=>aG [1,2,3] [1,2,3,8,16,22] ?_
 refine aR<|lF EF EH R R<|AG h4 λF V h5=>sS R (MT 26 (f:=Ao.row) R B2 iL (.inl ⟨iL,λ_=>R⟩) V)<|sQ R (fB R EF iL fR R)<|Zl R R (A6 (ds:=[rI n1.Grid.Rows,rI n1.Grid.Cols,.own 26<|j+6,.own 22<|j+5]) R pU iL R iL R R R R)<|aZ<|c7 _<|aS λK8 c8 X=>aU<|lF EF EH R R<|sQ R (LF R B2.slice iL R)<|mM R<|aZ<|Zg<|Bd h5 λo1 C Z=>?_
 have J1:∀(g4:BF) (w:NN),o1=g4→K8 ⟨[(1,.ptr 1 j 0 0),(2,.ptr 2 (j+1) 0 0),(3,.ptr 3 (j+4) 0 0)],[(1,some<|.box j 40 [rI n1.ID,rI n1.Kind,.own 8<|j+2,qe B,rI n1.Grid.Rows,rI n1.Grid.Cols,qc n1.Grid.Cells,qd n1.Grid.Merges,.own 16<|j+3]),(2,some<|.box (j+1) 40 FF),(3,some<|.box (j+4) 37 [rI g4.Rows,rI g4.Cols,.own 26<|w 0,.own 22<|w 1]),(8,some<|.arr (j+2) 91 2<|I.map AE.row),(16,some<|.arr (j+3) 119 8<|O.map A3.row),(22,some<|.arr (w 1) 154 4<|g4.Merges.map Ak.row),(26,some<|.arr (w 0) 104 5<|g4.Cells.map Ao.row)],(w 2),48⟩:=by
  intro g4 w e
  have h6:=Z _ e
  refine c8 _<|aU<|xC Ix R<|sQ R (fB R EU iL fR R)<|Zl R R (A6 (ds:=[rI n1.ID,rI n1.Kind,.own 8<|j+2,qe B,rI g4.Rows,rI g4.Cols,.own 26<|w 0,.own 22<|w 1,.own 16<|j+3]) R YX iL R iL R R R R)<|aZ<|aU<|xC ER R<|Zl R R (A6 (ds:=[rI n1.ID,rI n1.Kind,.own 8<|j+2,qe B,rI g4.Rows,rI g4.Cols,.own 26<|w 0,.own 22<|w 1,.own 16<|j+3]) R IM iL R iL R R R R)<|aZ ?_
  exact Zj<|Cb (P:=prog) (λ(r:Ac)=>.agg<|A5 r) h6 iL<|.a ER R R R<|.agg<|by exact⟨.closed _ R,.closed _ R,.own R,.closed _ R,.closed _ R,.closed _ R,.own R,.own R,.own R,Za⟩
 refine Cw (λ(q:Int) (g2:BF) l=>⟨[(1,.ptr 1 j 0 0),(2,.ptr 2 (j+1) 0 0),(3,.ptr 3 (j+4) 0 0),(29,.own 26<|l 0),(30,rL F),(31,rI q)],[(1,some<|.box j 40 [rI n1.ID,rI n1.Kind,.own 8<|j+2,qe B,rI n1.Grid.Rows,rI n1.Grid.Cols,qc n1.Grid.Cells,qd n1.Grid.Merges,.own 16<|j+3]),(2,some<|.box (j+1) 40 FF),(3,some<|.box (j+4) 37 [rI g2.Rows,rI g2.Cols,.own 26<|l 0,.own 22<|l 1]),(8,some<|.arr (j+2) 91 2<|I.map AE.row),(16,some<|.arr (j+3) 119 8<|O.map A3.row),(22,some<|.arr (l 1) 154 4<|g2.Merges.map Ak.row),(26,some<|.arr (l 0) 104 5<|g2.Cells.map Ao.row)],(l 2),48⟩) (AH [(j+6),(j+5),(j+7)]) C wk ?_
 intro q g2 l v1 a0 a1
 have h7:Kh F q g2=some v1:=a0;unfold Kh at h7
 refine aU<|xS R<|aZ<|aT λa2=>cI R h7 (λh8=>?_) λh8=>?_
 ·refine Zc<|a2 _<|aT λa6=>Zg<|aU<|mM R<|AG h8 λm A h9=>sQ R (GP R B2.slice iL R iL λ_=>A)<|sQ R (XZ (cs:=(Bg m)) R E7 iL fR (λ_=>A) R)<|sS R (BN (cs:=IA) 5 R Hg R R)<|mA R<|Zl R R (A6 (ds:=(Bg m)) R IN iL R iL R R R R)<|aZ<|AG h9 λl5 a7 a8=>?_
  refine JT 6 [pO 36<|.ptr 3 (j+4) 0 2,pO 37<|.own 26<|l 0,pO 38<|rI q,pO 39<|.ptr 5 (l 2) 0 4,pO 40<|qa m.Attrs,⟨some 41,(λE=>.own 41<|E 5),some (41,(λE=>some<|.arr (E 5) 91 2<|l5.map AE.row)),[5]⟩] BZ (by kernel_rfl) (by exact⟨λ_ _ h=>⟨R,λ_ _ e=>by cases e⟩,λ_ _ h=>⟨R,λ_ _ e=>by cases e⟩,λ_ _ h=>⟨R,λ_ _ e=>by cases e⟩,λ_ _ h=>⟨R,λ_ _ e=>by cases e⟩,λ_ _ h=>⟨R,λ_ _ e=>by cases e⟩,λ_ _ h=>⟨by simp only[h 5 R],λ_ _ e=>by cases e;simp only[h 5 R]⟩,Za⟩) R (by exact⟨oB [(3,.ptr 3 (j+4) 0 0)] [(3,some<|.box (j+4) 37 [rI g2.Rows,rI g2.Cols,.own 26<|l 0,.own 22<|l 1])]<|fB R EF (.inl R) (λ_=>R) R,oB [(36,.ptr 3 (j+4) 0 2)] [(3,some<|.box (j+4) 37 [rI g2.Rows,rI g2.Cols,.own 26<|l 0,.own 22<|l 1])]<|Ab (a:=.own 26<|l 0) R EH (.inl R) R R,oB [(4,rI q)] []<|AL R<|.inl R,oB [(5,.ptr 5 (l 2) 0 0)] [(5,some<|.box (l 2) 104<|Bg m)]<|fB R HF (.inl R) (λ_=>R) R,oB [(39,.ptr 5 (l 2) 0 4)] [(5,some<|.box (l 2) 104<|Bg m)]<|Ab (a:=qa m.Attrs) R Ci (.inl R) R R,oM (λ_=>[(40,qa m.Attrs)]) (λ_=>[]) R λE e h' n=>MT 41 (f:=AE.row) R BD (.inl R) (.inl ⟨(.inl R),λ_=>R⟩) a7,Za⟩) λE n2=>?_
  refine Bm [1,2,3,4,5,29,30,31,32,33,34,35,36,37,38,39,40,41] [1,2,3,5,8,16,22,26,41] ?_
  refine sQ R (GP R B2.slice iL R iL λ_=>A)<|sQ R (HB (ob:=.arr _ _ _ _) R HF iL fR R) ?_
  refine AK.weak (by exact Ah.frz (e':=[(1,.ptr 1 j 0 0),(2,.ptr 2 (j+1) 0 0),(3,.ptr 3 (j+4) 0 0),(4,rI q),(5,.ptr 5 (l 2) 0 0),(29,.own 26<|l 0),(30,rL F),(31,rI q),(32,rB<|(decide<|q<(F.length:Int))),(33,rI q),(34,.ptr 26 (l 0) q.toNat 0),(35,.agg<|Bg m),(36,.ptr 3 (j+4) 0 2),(37,.own 26<|l 0),(38,rI q),(39,.ptr 5 (l 2) 0 4),(40,qa m.Attrs),(41,qa l5),(42,.ptr 26 (l 0) q.toNat 0),(43,.ptr 26 (l 0) q.toNat 4)]) (h':=[(1,some<|.box j 40 [rI n1.ID,rI n1.Kind,.own 8<|j+2,qe B,rI n1.Grid.Rows,rI n1.Grid.Cols,qc n1.Grid.Cells,qd n1.Grid.Merges,.own 16<|j+3]),(2,some<|.box (j+1) 40 FF),(3,some<|.box (j+4) 37 [rI g2.Rows,rI g2.Cols,.own 26<|l 0,.own 22<|l 1]),(5,some<|.box (l 2) 104<|Bg m),(8,some<|.arr (j+2) 91 2<|I.map AE.row),(16,some<|.arr (j+3) 119 8<|O.map A3.row),(22,some<|.arr (l 1) 154 4<|g2.Merges.map Ak.row),(26,some<|.arr (l 0) 104 5<|g2.Cells.map Ao.row)]) 41 R ⟨jL,jL,jL,jL,jL,jL,jL,jL,jL,jL,jL,jL,jL,jL,jL,jL,jL,.inl<|.inr<|.inr ⟨R,R⟩,jL,jL,Za⟩ ⟨R,.inl R,R,.inl R,R,.inl R,R,.inl R,R,.inl R,R,.inl R,R,.inl R,R,.inl R,Za⟩) ?_
  refine Zl R R (Uw (v:=(Ao.mk m.Row m.Col m.Text m.Ref l5)) R Ks iL R A iL R R R R)<|aZ<|a6 _<|aG [1,2,3,29,30,31] [1,2,3,8,16,22,26] ?_
  exact aR<|AG a8 λx5 aa ab=>xA R aa<|mM R<|Zh<|CU.mk ab (AH [(l 0),(l 1),n2]) wk
 exact Zm<|X _ _ wk<|J1 _ (AH [(l 0),(l 1),(l 2)])<|xH a1 h8
theorem mo{d1 r}(h:OG d1=some r):AS prog 65 [.agg [qb d1.Nodes]] (.agg [qb r.Nodes]):=by
 unfold OG at h
 refine mF func65 ntmps65 R λj=>aU<|sS R (BC (cs:=[qb d1.Nodes]) 1 R iL R R)<|sS R (BN (cs:=[cZ]) 2 R WF R R)<|aZ<|aT λc2=>aR<|lF CD CJ R R<|xL Bs R<|AG h λl1 F h1=>sS R (X0 9 R Bs (f:=Ac.row) (z0:=(Ac.mk 0 0 [] [] (BF.mk 0 0 [] []) [])) oT iL iL F) ?_
 refine sQ R (DL R lK (q:=[(0,_)]) (by exact⟨R,R,R,iL,Za⟩) (cs:=[.own 9<|j+2])<|by rfl) ?_
 refine sS R (BN (cs:=[cZ]) 3 R WF R R)<|Zl R R (A6 (ds:=[.own 9<|j+2]) R S6 iL R iL R R R R)<|aZ<|c2 _<|aS λK3 c3 I=>aU<|lF CD CJ R R<|xL Bs R<|mM R<|aZ<|Zg<|Bd h1 λo1 A J=>?_
 have J1:∀(m:Aa) (B:NN),o1=m→K3 ⟨[(2,.ptr 2 (j+1) 0 0),(3,.ptr 3 (j+3) 0 0)],[(2,some<|.box (j+1) 24 [cZ]),(3,some<|.box (j+3) 24 [.own 9<|B 0]),(9,some<|.arr (B 0) 40 9<|m.Nodes.map Ac.row)],(B 1),27⟩:=by
  intro m B e
  have h2:=J _ e
  refine c3 _<|aU<|xC CV R<|Zl R R (A6 (ds:=[.own 9<|B 0]) R S6 iL R iL R R R R)<|aZ ?_
  exact Zj<|Cb (P:=prog) (λ(r:Aa)=>.agg [qb r.Nodes]) h2 iL<|.a CV R R R<|.agg<|by exact⟨.own R,Za⟩
 refine Cw (λ(C:Int) (q:Aa) l=>⟨[(2,.ptr 2 (j+1) 0 0),(3,.ptr 3 (j+3) 0 0),(12,qb d1.Nodes),(13,rL d1.Nodes),(14,rI C)],[(2,some<|.box (j+1) 24 [cZ]),(3,some<|.box (j+3) 24 [.own 9<|l 0]),(9,some<|.arr (l 0) 40 9<|q.Nodes.map Ac.row)],(l 1),27⟩) (AH [(j+2),(j+4)]) A wk ?_
 intro C q l v1 M O
 have h3:IQ d1 C q=some v1:=M;unfold IQ at h3
 refine aU<|xS R<|aZ<|aT λc7=>cI R h3 (λT=>?_) λT=>?_
 ·refine Zc<|c7 _<|aT λc8=>Zg<|aU<|mM R<|AG T λw U h5=>xI Bs R U<|xB ((A5 w)) ER R<|sS R (BN (cs:=FF) 5 R I2 R R)<|mA R<|Zl R R (A6 (ds:=(A5 w)) R IM iL R iL R R R R)<|aZ<|AG h5 λV X h6=>?_
  refine rP 5 [pO 19<|.ptr 3 (j+3) 0 0,pO 20<|.own 9<|l 0,pO 21<|rI C,pO 22<|.agg<|A5 w,pO 23<|.agg<|A5 V] BZ R (by exact⟨oB [(3,.ptr 3 (j+3) 0 0)] [(3,some<|.box (j+3) 24 [.own 9<|l 0])]<|fB R CD (.inl R) (λ_=>R) R,oB [(19,.ptr 3 (j+3) 0 0)] [(3,some<|.box (j+3) 24 [.own 9<|l 0])]<|Ab (a:=.own 9<|l 0) R CJ (.inl R) R R,oB [(4,rI C)] []<|AL R<|.inl R,oB [(5,.ptr 5 (l 1) 0 0)] [(5,some<|.box (l 1) 40<|A5 w)]<|Dr R ER (.inl R) R R,oD (λ_=>[(22,.agg<|A5 w)]) (λ_=>[]) λG1 e h' n=>EA (r:=.agg<|A5 V) (caps:=[]) (bs:=(JP w)) R (.inl R) R ⟨.inl ⟨(.inl R),R⟩,Za⟩ λ_=>je<|X,Za⟩) λG1 n1=>?_
  refine Bm [2,3,4,5,12,13,14,15,16,17,18,19,20,21,22,23] [2,3,5,9] ?_
  refine AG h6 λx5 E h7=>sQ R (GP R Bs.slice iL R iL λ_=>E)<|Zl R R (Ss (v:=V) R IM iL R E iL R R R R)<|aZ<|c8 _<|aG [2,3,12,13,14] [2,3,9] ?_
  exact aR<|AG h7 λx6 Z h8=>xA R Z<|mM R<|Zh<|CU.mk h8 (AH [(l 0),n1]) wk
 exact Zm<|I _ _ wk<|J1 _ (AH [(l 0),(l 1)])<|xH O T
theorem oR{d1 r}(h:Ow d1=some r):BH prog 36 1 [.agg [qb d1.Nodes]] [] (λm h'=>∃(i:Nat→Nat),m=.fn 69 [.ptr 1000 (i 0) 0 0]∧h'=[(1000,some<|.box (i 0) 24 [qb r.Nodes])]):=by
 unfold Ow at h
 refine Em func36 R R ntmps36 (Zt R) λj=>aU<|sS R (BC (cs:=[qb d1.Nodes]) 1000 R iL R R)<|mA R<|aZ<|aU<|xC CV R<|AG h λl q w=>sS R (EA (r:=.agg [qb l.Nodes]) (caps:=[]) (bs:=[.agg [qb d1.Nodes]]) R iL R ⟨.inl ⟨iL,R⟩,Za⟩ λ_=>mo<|q)<|Zl R R (A6 (ds:=[qb l.Nodes]) R S6 iL R iL R R R R)<|aZ<|aT λA=>aR ?_
 refine sQ R (JW (bs:=[.ptr 1000 j 0 0]) R<|by exact⟨iL,Za⟩) ?_
 refine mA R<|oZ A ?_
 exact Zj<|B9.mk (s':=⟨[(2,.fn 69 [.ptr 1000 j 0 0])],[(1000,some<|.box j 24 [qb l.Nodes])],(j+1),6⟩) wk<|CX (λ(r:Aa) m h'=>∃(i:Nat→Nat),m=.fn 69 [.ptr 1000 (i 0) 0 0]∧h'=[(1000,some<|.box (i 0) 24 [qb r.Nodes])]) w<|by exact⟨.fn 69 [.ptr 1000 j 0 0],[(1000,some<|.box j 24 [qb l.Nodes])],R,⟨.inr R,Za⟩,R,R,AH [j],R,R⟩
theorem Yj{j r}(h:MU j=some r):AS prog 49 [rS j] (rB r):=by
 unfold MU at h
 refine mF func49 ntmps49 R λn0=>aU<|mA R<|aZ<|aT λC2=>aU<|mM R<|sQ R (D3 R iL iL)<|mM R<|vM R<|vQ R (DQ R underlying9<|iR R)<|vQ R (BU R (iR R) iL)<|xO R<|mM R<|vM R<|AG h λa0 l h1=>vQ R (CT R underlying9 (iR R) iL<|Ad l)<|vQ R (Bu R (iR R) iL)<|xO R<|mM R<|vM R<|AG h1 λa1 m h2=>vQ R (CT R underlying9 (iR R) iL<|Ad m)<|vQ R (BU R (iR R) iL)<|xO R<|aZ<|cI R h2 (λB=>?_) λB=>?_
 ·exact zB B R id
 refine Zc<|C2 _<|aS λK5 C5 C=>aT λC6=>aF [0] ?_
 refine aR<|mM R<|sQ R (DQ R underlying9 iL)<|mM R<|aZ<|C6 _<|Zg<|BV B λo1 q E F=>?_
 have J1:∀(X:Unit) (Z:NN),o1=.nrm X→K5 ⟨[],[],(Z 0),53⟩:=by
  intro X Z e
  have h4:=E _ e
  exact C5 _<|zB h4 R id
 refine Zu (λ(I:Int) A=>⟨[(0,rS j),(23,rL j),(24,rI I)],[],(A 0),53⟩) (AH [n0]) q wk ?_
 intro I A v1 J w
 have h5:ML j I=some v1:=J;unfold ML at h5
 refine aU<|xS R<|aZ<|aT λC9=>cI R h5 (λM=>?_) λM=>?_
 ·refine Zc<|C9 _<|aT λO=>Zg<|aU<|mM R<|mA R<|aZ<|aU<|mM R<|mM R<|AG M λc1 T h7=>sQ R (CT R underlying9 iL iL λ_=>T)<|mA R<|aZ<|aU<|mM R<|xS R<|mM R<|vM R<|vQ R (BU R (iR R) iL)<|xO R<|mM R<|vM R<|vQ R (Bu R (iR R) iL)<|vQ R (AL R<|iR R)<|wQ R (AL R iL)<|wQ R (BU R (iR R) iL)<|vQ R (CN R (iR R)<|iR R)<|xN R<|mM R<|vM R<|vQ R (C0 R (iR R) iL)<|xN R<|mM R<|vM R<|vQ R (C0 R (iR R) iL)<|xN R<|aZ<|cI R h7 (λU=>?_) λU=>?_
  ·exact zB (F _<|xH w U) R id
  refine Zc<|O _<|aF [0,23,24] ?_
  exact aR<|AG U λx4 V h9=>xA R V<|mM R<|Zh<|Zr h9 (AH [(A 0)]) wk
 exact Zm<|C _ _ wk<|J1 _ (AH [(A 0)])<|xH w M
theorem Vx{l r}(h:Ld l=some r):AS prog 104 [rS l] (rB r):=by
 unfold Ld at h
 refine mF func104 ntmps104 R λZ=>aU<|mA R<|aZ<|aT λc2=>aU<|mM R<|sQ R (D3 R iL iL)<|mM R<|vM R<|vQ R (DQ R underlying9<|iR R)<|vQ R (BU R (iR R) iL)<|xO R<|aZ<|cI R h (λA=>?_) λA=>?_
 ·exact zB A R id
 refine Zc<|c2 _<|aS λK5 c5 B=>aU<|mM R<|sQ R (DQ R underlying9 iL)<|mM R<|aZ<|Zg<|BV A λo1 m C E=>?_
 have J1:∀(U:Unit) (V:NN),o1=.nrm U→K5 ⟨[],[],(V 0),27⟩:=by
  intro U V e
  have h2:=C _ e
  exact c5 _<|zB h2 R id
 refine Zu (λ(F:Int) w=>⟨[(0,rS l),(12,rL l),(13,rI F)],[],(w 0),27⟩) (AH [Z]) m wk ?_
 intro F w v1 I q
 have X:Ni l F=some v1:=I;unfold Ni at X
 refine aU<|xS R<|aZ<|aT λc9=>cI R X (λJ=>?_) λJ=>?_
 ·refine Zc<|c9 _<|aT λM=>Zg<|aU<|mM R<|mA R<|aZ<|aU<|mM R<|mM R<|AG J λa0 j h5=>sQ R (CT R underlying9 iL iL λ_=>j)<|xS R<|mM R<|vM R<|vM R<|vQ R (CT R underlying9 (iR R) (iR R) λ_=>j)<|vQ R (BU R (iR R) iL)<|xO R<|aZ<|cI R h5 (λO=>?_) λO=>?_
  ·exact zB (E _<|xH q O) R id
  refine Zc<|M _<|aF [0,12,13] ?_
  exact aR<|AG O λx4 T h7=>xA R T<|mM R<|Zh<|Zr h7 (AH [(w 0)]) wk
 exact Zm<|B _ _ wk<|J1 _ (AH [(w 0)])<|xH q J
theorem nA{q b r}(h:Mm q b=some r):AS prog 199 [qa q,rB b] (rI r):=by
 unfold Mm at h
 refine mF func199 ntmps199 R λn0=>aU<|mA R<|aZ<|aS λK2 c2 C=>aU<|mM R<|xL BD R<|mM R<|aZ<|Zg<|BV h λo1 w E l=>?_
 have J1:∀(u2:Unit) (i5:NN),o1=.nrm u2→K2 ⟨[],[],(i5 0),48⟩:=by
  intro u2 i5 e
  have h1:=E _ e
  exact c2 _<|zI h1 R id
 refine Zu (λ(F:Int) A=>⟨[(0,qa q),(1,rB b),(7,qa q),(8,rL q),(9,rI F)],[],(A 0),48⟩) (AH [n0]) w wk ?_
 intro F A v1 I j
 have h2:MK q b F=some v1:=I;unfold MK at h2
 refine aU<|xS R<|aZ<|aT λc6=>cI R h2 (λJ=>?_) λJ=>?_
 ·refine Zc<|c6 _<|aT λc7=>Zg<|aU<|mM R<|AG J λB M h4=>xI BD R M<|xB ((B6 B)) Ec R<|sS R (BN (cs:=[.r<|.str [],.r<|.str []]) 6 R Ye R R)<|mA R<|Zl R R (A6 (ds:=(B6 B)) R VV iL R iL R R R R)<|aZ<|Zg<|aU<|lF ES A9 R R<|AG h4 λr1 O h5=>cL (Yj<|O) R<|sQ R (BB R iL)<|mA R<|aZ<|cI R h5 (λT=>?_) λT=>?_
  ·exact zI (l _<|xH j T) R id
  refine aT λU=>aG [0,1,5,6,7,8,9] [6] ?_
  refine aR<|lF JD A9 R R<|AG T λr2 V h7=>cL (Vx<|V) R<|sQ R (BB R iL)<|mM R<|vM R<|vQ R (AL R<|iR R)<|wQ R (fB R JD iL fR R)<|wQ R (Ab (a:=rS B.Value) R A9 (iR R) R R)<|wQ R (D3 R (iR R) iL)<|vQ R (BS R (iR R)<|iR R)<|vQ R (BB R<|iR R)<|xN R<|mA R<|aZ<|U _<|cI R h7 (λX=>?_) λX=>?_
  ·exact zI (l _<|xH j X) R id
  refine aT λZ=>?_
  refine Zz BZ (by kernel_rfl) ?_
  refine qP R (AL R iL)<|qP R (BU R iL iL)<|qP R (AL R iL)<|qO R (fB R ES iL fR R)<|qO R (Ab (a:=rS B.Name) R A9 (iR R) R R)<|qO R (AL R iL)<|qO R (AL R iL)<|AG X λx5 a0 h9=>qO R (CS R (iR R) iL<|Ad a0)<|AG h9 λx6 a1 a2=>qO R (BK R BD.slice (iR R) (iR R) (λ_=>R)<|Ad a1)<|qO R (BI R ES<|iR R)<|qO R (Bj (d:=.str x6.Name) R A9 (iR R) R)<|qO R (XM R (iR R)<|iR R)<|qP R (BS R iL<|iR R)<|qP R (D7 R iL)<|AQ.nil<|Z _<|cI R a2 (λm=>?_) λm=>?_
  ·exact zI (l _<|xH j m) R id
  refine Zc<|c7 _<|aF [0,1,7,8,9] ?_
  exact aR<|AG m λx7 a6 a7=>xA R a6<|mM R<|Zh<|Zr a7 (AH [((A 0)+1)]) wk
 exact Zm<|C _ _ wk<|J1 _ (AH [(A 0)])<|xH j J
theorem VF{l r}(h:Kc l=some r):AS prog 137 [qa l] (rI r):=by
 unfold Kc at h
 exact mF func137 ntmps137 R λq=>aU<|mA R<|aZ<|aU<|mM R<|AG h λw j m=>cL (nA<|j) R<|mA R<|aZ<|Zj<|yI m R
theorem Zp{k r}(h:H6 k=some r):AS prog 59 [rI k] (rB r):=by
 unfold H6 at h
 exact mF func59 ntmps59 R λj=>aU<|mA R<|aZ<|aU<|mM R<|xQ R<|mM R<|vM R<|vQ R (BE R (iR R) iL)<|xO R<|mM R<|vM R<|vQ R (BE R (iR R) iL)<|xO R<|mM R<|vM R<|vQ R (BE R (iR R) iL)<|xO R<|mA R<|aZ<|Zj<|yB h R
theorem pJ{k r}(h:Hl k=some r):AS prog 138 [rI k] (rB r):=by
 unfold Hl at h
 exact mF func138 ntmps138 R λj=>aU<|mA R<|aZ<|aU<|mM R<|xQ R<|mM R<|vM R<|vQ R (BE R (iR R) iL)<|xO R<|mA R<|aZ<|Zj<|yB h R
theorem fN{k r}(h:GL k=some r):AS prog 139 [rI k] (rB r):=by
 unfold GL at h
 exact mF func139 ntmps139 R λj=>aU<|mA R<|aZ<|aU<|mM R<|xQ R<|mM R<|vM R<|vQ R (BE R (iR R) iL)<|xO R<|mA R<|aZ<|Zj<|yB h R
theorem lf{s a r}(h:Mr s a=some r):AS prog 200 [qd s,qd a] (rB r):=by
 unfold Mr at h
 refine mF func200 ntmps200 R λn0=>aU<|mA R<|aZ<|aT λc2=>aU<|mM R<|xL DD R<|mM R<|xL DD R<|xU R<|aZ<|cI R h (λq=>?_) λq=>?_
 ·exact zB q R id
 refine Zc<|c2 _<|aS λK5 c5 w=>aU<|mM R<|xL DD R<|mM R<|aZ<|Zg<|BV q λo1 j A B=>?_
 have J1:∀(V:Unit) (X:NN),o1=.nrm V→K5 ⟨[],[],(X 0),26⟩:=by
  intro V X e
  have h2:=A _ e
  exact c5 _<|zB h2 R id
 refine Zu (λ(C:Int) m=>⟨[(0,qd s),(1,qd a),(12,rL s),(13,rI C)],[],(m 0),26⟩) (AH [n0]) j wk ?_
 intro C m v1 E l
 have Z:Ot s a C=some v1:=E;unfold Ot at Z
 refine aU<|xS R<|aZ<|aT λc9=>cI R Z (λF=>?_) λF=>?_
 ·refine Zc<|c9 _<|aT λI=>Zg<|aU<|mM R<|mA R<|aZ<|aT λJ=>?_
  refine Zz BZ (by kernel_rfl) ?_
  refine qP R (AL R iL)<|qP R (AL R iL)<|AG F λx4 M h5=>qP R (BK R DD.slice iL iL (λ_=>R) λ_=>M)<|qP R (ET (cs:=(Ay x4)) R DP iL R R)<|qP R (AL R iL)<|qP R (AL R iL)<|AG h5 λx5 O h6=>qP R (BK R DD.slice iL iL (λ_=>R) λ_=>O)<|qP R (ET (cs:=(Ay x5)) R DP iL R R)<|qP R (SV R my iL iL R)<|AQ.nil<|J _<|cI R h6 (λT=>?_) λT=>?_
  ·exact zB (B _<|xH l T) R id
  refine Zc<|I _<|aF [0,1,12,13] ?_
  exact aR<|AG T λx6 U h8=>xA R U<|mM R<|Zh<|Zr h8 (AH [(m 0)]) wk
 exact Zm<|w _ _ wk<|J1 _ (AH [(m 0)])<|xH l F
theorem ji{j q r}(h:O0 j q=some r):AS prog 146 [qa j,qa q] (rB r):=by
 unfold O0 at h
 refine mF func146 ntmps146 R λn0=>aU<|mA R<|aZ<|aT λc2=>aU<|mM R<|xL BD R<|mM R<|xL BD R<|xU R<|aZ<|cI R h (λA=>?_) λA=>?_
 ·exact zB A R id
 refine Zc<|c2 _<|aS λK5 c5 B=>aU<|mM R<|xL BD R<|mM R<|aZ<|Zg<|BV A λo1 l C E=>?_
 have J1:∀(Z:Unit) (i5:NN),o1=.nrm Z→K5 ⟨[],[],(i5 0),26⟩:=by
  intro Z i5 e
  have h2:=C _ e
  exact c5 _<|zB h2 R id
 refine Zu (λ(F:Int) w=>⟨[(0,qa j),(1,qa q),(12,rL j),(13,rI F)],[],(w 0),26⟩) (AH [n0]) l wk ?_
 intro F w v1 I m
 have h3:NM j q F=some v1:=I;unfold NM at h3
 refine aU<|xS R<|aZ<|aT λc9=>cI R h3 (λJ=>?_) λJ=>?_
 ·refine Zc<|c9 _<|aT λM=>Zg<|aU<|mM R<|mA R<|aZ<|aT λO=>?_
  refine Zz BZ (by kernel_rfl) ?_
  refine qP R (AL R iL)<|qP R (AL R iL)<|AG J λx4 T h5=>qP R (BK R BD.slice iL iL (λ_=>R) λ_=>T)<|qP R (ET (cs:=(B6 x4)) R Ec iL R R)<|qP R (AL R iL)<|qP R (AL R iL)<|AG h5 λx5 U h6=>qP R (BK R BD.slice iL iL (λ_=>R) λ_=>U)<|qP R (ET (cs:=(B6 x5)) R Ec iL R R)<|qP R (SV R gA iL iL R)<|AQ.nil<|O _<|cI R h6 (λV=>?_) λV=>?_
  ·exact zB (E _<|xH m V) R id
  refine Zc<|M _<|aF [0,1,12,13] ?_
  exact aR<|AG V λx6 X h8=>xA R X<|mM R<|Zh<|Zr h8 (AH [(w 0)]) wk
 exact Zm<|B _ _ wk<|J1 _ (AH [(w 0)])<|xH m J
theorem ko{j l r}(h:Mo j l=some r):AS prog 202 [.agg<|Bg j,.agg<|Bg l] (rB r):=by
 unfold Mo at h
 exact mF func202 ntmps202 R λA=>aU<|sS R (BC (cs:=(Bg j)) 2 R iL R R)<|sS R (BC (cs:=(Bg l)) 3 R iL R R)<|mA R<|aZ<|aT λq=>aR<|lF E5 AI R R<|lF E5 AI R R<|xQ R<|mM R<|vF FW AI R R<|vF FW AI R R<|vQ R (BE R (iR R)<|iR R)<|xN R<|mM R<|vF I7 A9 R R<|vF I7 A9 R R<|vQ R (D3 R (iR R)<|iR R)<|xN R<|mM R<|vF EO AI R R<|vF EO AI R R<|vQ R (BE R (iR R)<|iR R)<|xN R<|mM R<|vF HF Ci R R<|vF HF Ci R R<|AG h λB m w=>vL (λhg=>ji<|Ad m hg) R<|xN R<|mA R<|aZ<|q _<|Zj<|yB w R
theorem dS{s a r}(h:OI s a=some r):AS prog 201 [qc s,qc a,.fn 202 []] (rB r):=by
 unfold OI at h
 refine mF func201 ntmps201 R λn0=>aU<|mA R<|aZ<|aT λc2=>aU<|mM R<|xL B2 R<|mM R<|xL B2 R<|xU R<|aZ<|cI R h (λq=>?_) λq=>?_
 ·exact zB q R id
 refine Zc<|c2 _<|aS λK5 c5 w=>aU<|mM R<|xL B2 R<|mM R<|aZ<|Zg<|BV q λo1 j A B=>?_
 have J1:∀(X:Unit) (Z:NN),o1=.nrm X→K5 ⟨[],[],(Z 0),32⟩:=by
  intro X Z e
  have h2:=A _ e
  exact c5 _<|zB h2 R id
 refine Zu (λ(C:Int) m=>⟨[(1,qc a),(2,.fn 202 []),(15,qc s),(16,rL s),(17,rI C)],[],(m 0),32⟩) (AH [n0]) j wk ?_
 intro C m v1 E l
 have h3:Mg s a C=some v1:=E;unfold Mg at h3
 refine aU<|xS R<|aZ<|aT λc9=>cI R h3 (λF=>?_) λF=>?_
 ·refine Zc<|c9 _<|aT λI=>Zg<|aU<|mM R<|AG F λx4 J h5=>xI B2 R J<|xB ((Bg x4)) E7 R<|sS R (BN (cs:=IA) 8 R Hg R R)<|mA R<|Zl R R (A6 (ds:=(Bg x4)) R IN iL R iL R R R R)<|aZ<|aU<|mM R<|mM R<|AG h5 λx5 M h6=>xI B2 R M<|xB ((Bg x5)) E7 R<|sS R (BN (cs:=IA) 9 R Hg R R)<|Zl R R (A6 (ds:=(Bg x5)) R IN iL R iL R R R R)<|aZ<|aT λO=>aG [1,2,8,9,15,16,17] [8,9] ?_
  refine aR<|mM R<|xC E7 R<|xC E7 R<|AG h6 λr1 T h7=>cL (ko<|T) R<|sQ R (BB R iL)<|aZ<|O _<|cI R h7 (λU=>?_) λU=>?_
  ·exact zB (B _<|xH l U) R id
  exact Zc<|I _<|aR<|AG U λx6 V h9=>xA R V<|mM R<|Zh<|Zr h9 (AH [((m 0)+2)]) wk
 exact Zm<|w _ _ wk<|J1 _ (AH [(m 0)])<|xH l F
theorem da{j l r}(h:Mf j l=some r):AS prog 140 [.agg<|CR j,.agg<|CR l] (rB r):=by
 unfold Mf at h
 exact mF func140 ntmps140 R λC=>aU<|sS R (BC (cs:=(CR j)) 2 R iL R R)<|sS R (BC (cs:=(CR l)) 3 R iL R R)<|mA R<|aZ<|aU<|lF Gx AI R R<|lF Gx AI R R<|xQ R<|mM R<|vF HT AI R R<|vF HT AI R R<|vQ R (BE R (iR R)<|iR R)<|xN R<|mM R<|vF EN Eb R R<|vF EN Eb R R<|AG h λE m w=>vL (λhg=>lf<|Ad m hg) R<|xN R<|mM R<|vF EF EH R R<|vF EF EH R R<|AG w λA q B=>AK.stepW (.one R R R) R R (Dz (r:=rB A) (caps:=[]) (bs:=[qc j.Cells,qc l.Cells,.fn 202 []]) R iL R ⟨⟨_,(iR R),.d R⟩,⟨_,(iR R),.d R⟩,⟨_,iL,.one<|.closed (.fn 202 []) R⟩,Za⟩ (λhg=>dS<|Ad q hg) R)<|xN R<|mA R<|aZ<|Zj<|yB B R
theorem Sy{k r}(h:Hn k=some r):AS prog 118 [rI k] (rB r):=by
 unfold Hn at h
 exact mF func118 ntmps118 R λj=>aU<|mA R<|aZ<|aU<|mM R<|xQ R<|mM R<|vM R<|vQ R (BE R (iR R) iL)<|xO R<|mM R<|vM R<|vQ R (BE R (iR R) iL)<|xO R<|mA R<|aZ<|Zj<|yB h R
theorem XY{j r}(h:LD j=some r):AS prog 230 [rI j] (rB r):=by
 unfold LD at h
 exact mF func230 ntmps230 R λl=>aU<|mA R<|aZ<|aU<|mM R<|xQ R<|mM R<|vM R<|vQ R (BE R (iR R) iL)<|xO R<|mM R<|vM R<|vQ R (Cq R (iR R) iL)<|vQ R (AL R<|iR R)<|wQ R (AL R iL)<|wQ R (Bu R (iR R) iL)<|vQ R (BS R (iR R)<|iR R)<|xO R<|mM R<|vM R<|vQ R (Cq R (iR R) iL)<|vQ R (AL R<|iR R)<|wQ R (AL R iL)<|wQ R (Bu R (iR R) iL)<|vQ R (BS R (iR R)<|iR R)<|xO R<|mM R<|vM R<|vQ R (BU R (iR R) iL)<|vQ R (AL R<|iR R)<|wQ R (AL R iL)<|wQ R (Ei R (iR R) iL)<|vQ R (BS R (iR R)<|iR R)<|xO R<|mA R<|aZ<|Zj<|yB h R
theorem bS{l r}(h:OB l=some r):AS prog 203 (Xp l) (rI r):=by
 unfold OB at h
 refine mF func203 ntmps203 R λw=>aU<|sS R (BC (cs:=(Di l)) 1 R iL R R)<|mA R<|aZ<|aT λT=>Zg<|aU<|lF Gu AI R R<|xU R<|lF Du AI R R<|xU R<|sQ R (YZ R underlying4 iL iL)<|mA R<|aZ<|cI R h (λA=>?_) λA=>?_
 ·exact zI A R id
 refine aS λU V m=>aT λX=>aG [1] [1] ?_
 refine aR<|lF Du AI R R<|xQ R<|mM R<|vF Gu AI R R<|AG A λr1 B Z=>vL (λhg=>XY<|Ad B hg) R<|vQ R (BB R<|iR R)<|xN R<|mA R<|aZ<|X _<|Bd Z λp1 q C=>?_
 have M:∀(E:Bool) (O:NN),p1=E→U ⟨[(1,.ptr 1 w 0 0),(11,rB E)],[(1,some<|.box w 69<|Di l)],(O 0),37⟩:=by
  intro E O e
  have h3:=C _ e
  refine V _<|cI R h3 (λF=>?_) λF=>?_
  ·exact zI F R id
  exact Zc<|T _<|aU<|lF Ry Ci R R<|AG F λr2 I h5=>cL (VF<|I) R<|mA R<|aZ<|Zj<|yI h5 R
 refine aC R (λj=>?_) λj=>?_
 ·have J:=EQ j q
  exact Zc<|m _ _ wk<|M _ (AH [(w+1)]) (Zf J).symm
 ·have J:=EM j q
  refine aG [1] [1] ?_
  exact aR<|lF Du AI R R<|xU R<|mM R<|vF Du AI R R<|vQ R (Bu R (iR R) iL)<|vQ R (AL R<|iR R)<|wQ R (fB R Du iL fR R)<|wQ R (Ab (a:=rI l.Ref) R AI (iR R) R R)<|wQ R (BU R (iR R) iL)<|vQ R (CN R (iR R)<|iR R)<|xN R<|mA R<|Zh<|m _ _ wk<|M _ (AH [(w+1)]) (Zf J).symm
theorem jB{j a r}(h:JM j a=some r):AS prog 141 [qe j,rB a] (rI r):=by
 unfold JM at h
 refine mF func141 ntmps141 R λn0=>aU<|mA R<|aZ<|aS λK2 c2 B=>aU<|mM R<|xL CZ R<|mM R<|aZ<|Zg<|BV h λo1 q C w=>?_
 have J1:∀(u2:Unit) (i5:NN),o1=.nrm u2→K2 ⟨[(0,qe j),(1,rB a)],[],(i5 0),43⟩:=by
  intro u2 i5 e
  have h1:=C _ e
  refine c2 _<|aT λc4=>aU<|mM R<|mM R<|vM R<|vQ R (Dl R CZ.slice<|iR R)<|vQ R (BE R (iR R) iL)<|vQ R (AL R<|iR R)<|wQ R (AL R iL)<|wQ R (AL R iL)<|wQ R (Dl R CZ.slice<|iR R)<|AG h1 λx4 E h2=>wQ R (CS R (iR R) iL<|Ad E)<|AG h2 λx5 F h3=>wQ R (BK R CZ.slice (iR R) (iR R) (λ_=>R)<|Ad F)<|wQ R (BI R Gu<|iR R)<|wQ R (Bj (d:=.int .i64 x5.Char) R AI (iR R) R)<|wQ R (C0 R (iR R) iL)<|vQ R (CN R (iR R)<|iR R)<|xN R<|aZ<|cI R h3 (λI=>?_) λI=>?_
  ·exact zI I R id
  exact Zc<|c4 _<|zI I R id
 refine Zu (λ(J:Int) A=>⟨[(0,qe j),(1,rB a),(8,qe j),(9,rL j),(10,rI J)],[],(A 0),43⟩) (AH [n0]) q wk ?_
 intro J A v1 M l
 have h5:KU j a J=some v1:=M;unfold KU at h5
 refine aU<|xS R<|aZ<|aT λc9=>cI R h5 (λO=>?_) λO=>?_
 ·refine Zc<|c9 _<|aT λT=>Zg<|aU<|AG O λx6 U h7=>xI CZ R U<|xB ((Di x6)) LK R<|sS R (BN (cs:=Rq) 6 R PM R R)<|Zl R R (A6 (ds:=(Di x6)) R Mn iL R iL R R R R)<|aZ<|aT λV=>aU<|xC LK R<|AG h7 λe1 X h8=>cL (bS<|X) R<|mA R<|aZ<|aU<|mM R<|xU R<|aZ<|cI R h8 (λZ=>?_) λZ=>?_
  ·refine aT λa0=>aF [7] ?_
   exact aR<|mM R<|mA R<|aZ<|a0 _<|Zj<|yI (w _<|xH l Z) R
  refine Zc<|V _<|aU<|mM R<|sQ R (BB R iL)<|mM R<|vF Du AI R R<|vQ R (BE R (iR R) iL)<|xN R<|aZ<|cI R Z (λm=>?_) λm=>?_
  ·exact zI (w _<|xH l m) R id
  refine Zc<|T _<|aF [0,1,8,9,10] ?_
  exact aR<|AG m λx7 a1 a2=>xA R a1<|mM R<|Zh<|Zr a2 (AH [((A 0)+1)]) wk
 exact Zm<|B _ _ wk<|J1 _ (AH [(A 0)])<|xH l O
theorem fD{s1 r}(h:OT s1=some r):AS prog 197 [rS s1] (.tup [.r<|.int .i32 r.1,rI r.2]):=by
 unfold OT at h
 refine mF func197 ntmps197 R λn0=>aU<|mA R<|mA R<|aZ<|aU<|mM R<|sQ R (DQ R underlying9 iL)<|mA R<|aZ<|aT λc3=>aU<|mM R<|xS R<|aZ<|cI R h (λE=>?_) λE=>?_
 ·exact aU<|mA R<|mA R<|aZ<|Zj<|E4 (P:=prog) (λ(r:Int × Int)=>.r<|.int .i32 r.1) (λ(r:Int × Int)=>rI r.2) E iL (.t<|.d R)<|.t<|.d R
 refine Zc<|c3 _<|aU<|mM R<|AG E λag j h2=>sQ R (CT R underlying9 iL iL λ_=>j)<|mA R<|aZ<|aT λc7=>aR<|mM R<|AG h2 λx1 F h3=>?_
 refine sQ R (VW (f:=(As .u8)) (l:=F5) R pR ni (by kernel_rfl) iL (λ_=>R) (by decide) λ_=>F) ?_
 refine xV (.int .u8 x1) Tl R<|mA R<|aZ<|c7 _<|aT λc8=>aT λc9=>aF [0,4,5,6] ?_
 refine aR<|mM R<|sQ R (Cq R iL iL)<|aZ<|c9 _<|cI R h3 (λI=>?_) λI=>?_
 ·refine aU<|mM R<|sQ R (D1 R underlying5 underlying21 iL)<|sQ R (JK (b:=31) R iL iL)<|sQ R (RZ (b:=31) R iL iL)<|mA R<|aZ<|aT λJ=>aF [0,7] ?_
  exact aR<|mM R<|sQ R (CT R underlying9 iL iL λ_=>j)<|sQ R (D1 R underlying5 underlying21 iL)<|mM R<|sQ R (ZE R iL iL)<|mM R<|sQ R (F4 R iL iL)<|sQ R (I9 R iL iL)<|mA R<|mA R<|aZ<|J _<|Zj<|E4 (P:=prog) (λ(r:Int × Int)=>.r<|.int .i32 r.1) (λ(r:Int × Int)=>rI r.2) I iL (.t<|.d R)<|.t<|.d R
 refine Zc<|c8 _<|aU<|mM R<|sQ R (F4 R iL iL)<|sQ R (D1 R underlying5 underlying3 iL)<|mA R<|aZ<|aT λM=>aR<|mM R<|sQ R (RZ (b:=4) R iL iL)<|AG I λC O h5=>?_
 refine sQ R (VW (f:=IP.row) (l:=Pm) R jC pW (by kernel_rfl) iL (λ_=>R) (by decide) λ_=>O) ?_
 refine xB ([.r<|.int .u8 C.lo,.r<|.int .u8 C.hi]) fC R<|sS R (BN (cs:=[.r<|.int .u8 0,.r<|.int .u8 0]) 9 R pe R R)<|Zl R R (A6 (ds:=[.r<|.int .u8 C.lo,.r<|.int .u8 C.hi]) R nl iL R iL R R R R)<|aZ<|M _<|aT λT=>aT λU=>aG [0,4,5,8,9] [9] ?_
 refine aR<|mM R<|mM R<|xS R<|aZ<|U _<|cI R h5 (λV=>?_) λV=>?_
 ·exact aU<|mA R<|mA R<|aZ<|Zj<|E4 (P:=prog) (λ(r:Int × Int)=>.r<|.int .i32 r.1) (λ(r:Int × Int)=>rI r.2) V iL (.t<|.d R)<|.t<|.d R
 refine Zc<|T _<|aU<|mM R<|AG V λah w h7=>sQ R (CT R underlying9 iL iL λ_=>w)<|mA R<|aZ<|aT λX=>aU<|mM R<|lF eI Tl R R<|xS R<|mM R<|vF pE Tl R R<|vM R<|vQ R (Bu R (iR R)<|iR R)<|xO R<|aZ<|cI R h7 (λZ=>?_) λZ=>?_
 ·refine aT λa0=>aF [] ?_
  exact aR<|mA R<|mA R<|aZ<|a0 _<|Zj<|E4 (P:=prog) (λ(r:Int × Int)=>.r<|.int .i32 r.1) (λ(r:Int × Int)=>rI r.2) Z iL (.t<|.d R)<|.t<|.d R
 refine Zc<|X _<|aT λa1=>aT λa2=>aF [0,5,8,10] ?_
 refine aR<|mM R<|sQ R (Ei R iL iL)<|aZ<|a2 _<|cI R Z (λh9=>?_) λh9=>?_
 ·exact aU<|mM R<|sQ R (F4 R iL iL)<|sQ R (D1 R underlying5 underlying21 iL)<|sQ R (JK (b:=6) R iL iL)<|mM R<|sQ R (F4 R iL iL)<|sQ R (D1 R underlying5 underlying21 iL)<|sQ R (I9 R iL iL)<|mA R<|mA R<|aZ<|Zj<|E4 (P:=prog) (λ(r:Int × Int)=>.r<|.int .i32 r.1) (λ(r:Int × Int)=>rI r.2) h9 iL (.t<|.d R)<|.t<|.d R
 refine Zc<|a1 _<|aU<|mM R<|AG h9 λai A a6=>sQ R (CT R underlying9 iL iL λ_=>A)<|mA R<|aZ<|aT λa7=>aU<|mM R<|xS R<|mM R<|vM R<|vQ R (Bu R iL<|iR R)<|xO R<|aZ<|cI R a6 (λl=>?_) λl=>?_
 ·refine aT λa8=>aF [] ?_
  exact aR<|mA R<|mA R<|aZ<|a8 _<|Zj<|E4 (P:=prog) (λ(r:Int × Int)=>.r<|.int .i32 r.1) (λ(r:Int × Int)=>rI r.2) l iL (.t<|.d R)<|.t<|.d R
 refine Zc<|a7 _<|aT λaa=>aT λab=>aF [0,5,8,10,11] ?_
 refine aR<|mM R<|sQ R (Ei R iL iL)<|aZ<|ab _<|cI R l (λm=>?_) λm=>?_
 ·exact aU<|mM R<|sQ R (F4 R iL iL)<|sQ R (D1 R underlying5 underlying21 iL)<|sQ R (JK (b:=12) R iL iL)<|mM R<|sQ R (F4 R iL iL)<|sQ R (D1 R underlying5 underlying21 iL)<|sQ R (JK (b:=6) R iL iL)<|sQ R (I9 R iL iL)<|mM R<|sQ R (F4 R iL iL)<|sQ R (D1 R underlying5 underlying21 iL)<|sQ R (I9 R iL iL)<|mA R<|mA R<|aZ<|Zj<|E4 (P:=prog) (λ(r:Int × Int)=>.r<|.int .i32 r.1) (λ(r:Int × Int)=>rI r.2) m iL (.t<|.d R)<|.t<|.d R
 refine Zc<|aa _<|aU<|mM R<|AG m λaj B ac=>sQ R (CT R underlying9 iL iL λ_=>B)<|mA R<|aZ<|aT λad=>aU<|mM R<|xS R<|mM R<|vM R<|vQ R (Bu R iL<|iR R)<|xO R<|aZ<|cI R ac (λq=>?_) λq=>?_
 ·refine aT λae=>aF [] ?_
  exact aR<|mA R<|mA R<|aZ<|ae _<|Zj<|E4 (P:=prog) (λ(r:Int × Int)=>.r<|.int .i32 r.1) (λ(r:Int × Int)=>rI r.2) q iL (.t<|.d R)<|.t<|.d R
 refine Zc<|ad _<|aT λaf=>aF [5,10,11,12] ?_
 exact aR<|mM R<|sQ R (F4 R iL iL)<|sQ R (D1 R underlying5 underlying21 iL)<|sQ R (JK (b:=18) R iL iL)<|mM R<|sQ R (F4 R iL iL)<|sQ R (D1 R underlying5 underlying21 iL)<|sQ R (JK (b:=12) R iL iL)<|sQ R (I9 R iL iL)<|mM R<|sQ R (F4 R iL iL)<|sQ R (D1 R underlying5 underlying21 iL)<|sQ R (JK (b:=6) R iL iL)<|sQ R (I9 R iL iL)<|mM R<|sQ R (F4 R iL iL)<|sQ R (D1 R underlying5 underlying21 iL)<|sQ R (I9 R iL iL)<|mA R<|mA R<|aZ<|af _<|Zj<|E4 (P:=prog) (λ(r:Int × Int)=>.r<|.int .i32 r.1) (λ(r:Int × Int)=>rI r.2) q iL (.t<|.d R)<|.t<|.d R
theorem l7{w r}(h:Mk w=some r):AS prog 134 [rS w] (.tup [.r<|.int .i32 r.1,rI r.2]):=by
 unfold Mk at h
 refine mF func134 ntmps134 R λM=>aU<|mA R<|mA R<|aZ<|aT λA=>aU<|mM R<|sQ R (Dt R iL iL)<|mM R<|vM R<|AG h λB j C=>vQ R (CT R underlying9 (iR R) iL<|Ad j)<|vQ R (Bu R (iR R) iL)<|xN R<|aZ<|cI R C (λm=>?_) λm=>?_
 ·refine aT λE=>aF [0] ?_
  exact aR<|mM R<|AG m λF l I=>sQ R (CT R underlying9 iL iL λ_=>l)<|sQ R (D1 R underlying5 underlying21 iL)<|mA R<|mA R<|aZ<|E _<|Zj<|E4 (P:=prog) (λ(r:Int × Int)=>.r<|.int .i32 r.1) (λ(r:Int × Int)=>rI r.2) I iL (.t<|.d R)<|.t<|.d R
 refine aF [0] ?_
 exact aR<|mM R<|FY m λO T q J=>cL (fD<|q) R<|mM R<|xX R<|xX R<|mA R<|mA R<|aZ<|A _<|Zj<|E4 (P:=prog) (λ(r:Int × Int)=>.r<|.int .i32 r.1) (λ(r:Int × Int)=>rI r.2) J iL (.t<|.d R)<|.t<|.d R
theorem jd{O r}(h:Ns O=some r):AS prog 267 [rS O] (rB r):=by
 unfold Ns at h
 refine mF func267 ntmps267 R λX=>aU<|mA R<|aZ<|aS λZ c2 q=>Zg<|BV h λo1 j w A=>?_
 have J1:∀(T:Unit) (U:NN),o1=.nrm T→Z ⟨[],[],(U 0),31⟩:=by
  intro T U e
  have h1:=w _ e
  exact c2 _<|zB h1 R id
 refine Zu (λ(B:List UInt8) m=>⟨[(0,rS B)],[],(m 0),31⟩) (AH [X]) j wk ?_
 intro B m v1 C l
 have V:FE B=some v1:=C;unfold FE at V
 refine aT λc4=>aU<|mM R<|sQ R (Dt R iL iL)<|aZ<|cI R V (λE=>?_) λE=>?_
 ·refine Zc<|c4 _<|Zg<|aU<|mM R<|FY E λr1 r2 F h4=>cL (l7<|F) R<|mM R<|xX R<|xX R<|mA R<|mA R<|aZ<|aT λc7=>aU<|mM R<|xQ R<|mM R<|vM R<|vQ R (BE R (iR R) iL)<|xN R<|mM R<|vM R<|vQ R (BE R (iR R) iL)<|xO R<|mM R<|vM R<|vQ R (D1 R underlying21 underlying3<|iR R)<|AG h4 λr3 I h5=>vL (λhg=>XY<|Ad I hg) R<|vQ R (BB R<|iR R)<|xO R<|aZ<|cI R h5 (λJ=>?_) λJ=>?_
  ·exact zB (A _<|xH l J) R id
  refine Zc<|c7 _<|aF [0,4] ?_
  refine aR<|mM R<|mM R<|AG J λs5 M h7=>?_
  refine sQ R (WB R underlying9 iL (by exact⟨_,iL⟩) (by exact R) λ_=>M) ?_
  exact mA R<|Zh<|Zr h7 (AH [(m 0)]) wk
 exact Zm<|q _ _ wk<|J1 _ (AH [(m 0)])<|xH l E
theorem l6{j r}(h:OM j=some r):AS prog 268 (YK j) (rB r):=by
 unfold OM at h
 exact mF func268 ntmps268 R λl=>aU<|sS R (BC (cs:=(Bg j)) 1 R iL R R)<|mA R<|aZ<|aU<|lF I7 A9 R R<|sQ R (D3 R iL iL)<|mM R<|vF EO AI R R<|vQ R (BE R (iR R) iL)<|xN R<|mM R<|vF HF Ci R R<|vQ R (Dl R BD.slice<|iR R)<|vQ R (BE R (iR R) iL)<|xN R<|mA R<|aZ<|Zj<|yB h R
theorem XR{j r}(h:Le j=some r):AS prog 279 [rI j] (rB r):=by
 unfold Le at h
 exact mF func279 ntmps279 R λl=>aU<|mA R<|aZ<|aU<|mM R<|mM R<|xU R<|mA R<|aZ<|Zj<|yB h R
theorem L0{O T r}(h:F1 O T=some r):AS prog 220 [rI O,rI T] (rI r):=by
 unfold F1 at h
 refine mF func220 ntmps220 R λn0=>aU<|mA R<|aZ<|aU<|mM R<|AG h λm j U=>cL (XR<|j) R<|mA R<|aZ<|aU<|mM R<|AG U λq l V=>cL (XR<|l) R<|mA R<|aZ<|aT λX=>aU<|mM R<|aZ<|cI R V (λw=>?_) λw=>?_
 ·refine aT λZ=>aT λc7=>aF [6] ?_
  refine aR<|mM R<|aZ<|c7 _<|cI R w (λA=>?_) λA=>?_
  ·exact zI A R id
  exact Zc<|Z _<|zI A R id
 refine Zc<|X _<|aT λB=>aU<|mM R<|aZ<|cI R w (λC=>?_) λC=>?_
 ·exact zI C R id
 refine Zc<|B _<|aT λE=>aT λF=>aF [0,1] ?_
 refine aR<|mM R<|mM R<|xS R<|aZ<|F _<|cI R C (λI=>?_) λI=>?_
 ·exact zI I R id
 refine Zc<|E _<|aT λJ=>aU<|mM R<|mM R<|sQ R (BU R iL iL)<|aZ<|cI R I (λM=>?_) λM=>?_
 ·exact zI M R id
 exact Zc<|J _<|zI M R id
theorem T7{v r}(h:H8 v=some r):AS prog 218 [.r<|.sl<|v.map<|As .i64] (rI r):=by
 unfold H8 at h
 refine mF func218 ntmps218 R λV=>aU<|mA R<|aZ<|aU<|mA R<|aZ<|aS λX Z q=>aU<|mM R<|xL B3 R<|mM R<|aZ<|Zg<|BV h λo1 j w A=>?_
 have J1:∀(O:Unit) (T:NN),o1=.nrm O→X ⟨[(3,rI 0)],[],(T 0),18⟩:=by
  intro O T e
  have h1:=w _ e
  exact Z _<|aU<|mM R<|mA R<|aZ<|Zj<|yI h1 R
 refine Zu (λ(B:Int) m=>⟨[(3,rI 0),(6,.r<|.sl<|v.map<|As .i64),(7,rL v),(8,rI B)],[],(m 0),18⟩) (AH [V]) j wk ?_
 intro B m v1 C l
 have U:Dh v B=some v1:=C;unfold Dh at U
 refine aU<|xS R<|aZ<|aT λc7=>cI R U (λE=>?_) λE=>?_
 ·refine Zc<|c7 _<|aT λc8=>Zg<|aU<|AG E λx4 F h4=>xI B3 R F<|xV (.int .i64 x4) AI R<|mA R<|aZ<|aU<|mM R<|mM R<|xU R<|aZ<|cI R h4 (λI=>?_) λI=>?_
  ·refine aT λJ=>aF [5] ?_
   exact aR<|mM R<|mA R<|aZ<|J _<|Zj<|yI (A _<|xH l I) R
  exact Zc<|c8 _<|aR<|AG I λx5 M h6=>xA R M<|mM R<|Zh<|Zr h6 (AH [(m 0)]) wk
 exact Zm<|q _ _ wk<|J1 _ (AH [(m 0)])<|xH l E
theorem eM{l m r}(h:L7 l m=some r):AS prog 269 [.agg<|Bg l,.agg<|Bg m] (rI r):=by
 unfold L7 at h
 refine mF func269 ntmps269 R λj=>aU<|sS R (BC (cs:=(Bg l)) 2 R iL R R)<|sS R (BC (cs:=(Bg m)) 3 R iL R R)<|mA R<|aZ<|aT λC=>AG h λq w E=>?_
 refine rP 9 [pO 5<|.ptr 2 j 0 0,pO 6<|rI l.Row,pO 7<|.ptr 3 (j+1) 0 0,pO 8<|rI m.Row,pO 9<|rI q,pO 10<|.ptr 2 j 0 1,pO 11<|rI l.Col,pO 12<|.ptr 3 (j+1) 0 1,pO 13<|rI m.Col] BZ R (by exact⟨oB [(2,.ptr 2 j 0 0)] [(2,some<|.box j 104<|Bg l)]<|fB R E5 (.inl R) (λ_=>R) R,oB [(5,.ptr 2 j 0 0)] [(2,some<|.box j 104<|Bg l)]<|Ab (a:=rI l.Row) R AI (.inl R) R R,oB [(3,.ptr 3 (j+1) 0 0)] [(3,some<|.box (j+1) 104<|Bg m)]<|fB R E5 (.inl R) (λ_=>R) R,oB [(7,.ptr 3 (j+1) 0 0)] [(3,some<|.box (j+1) 104<|Bg m)]<|Ab (a:=rI m.Row) R AI (.inl R) R R,oD (λ_=>[(6,rI l.Row),(8,rI m.Row)]) (λ_=>[]) λF e O n=>Dz (r:=rI q) (caps:=[]) (bs:=[rI l.Row,rI m.Row]) R (.inl R) R ⟨⟨_,(.inl R),.d R⟩,⟨_,(.inl R),.d R⟩,Za⟩ (λ_=>L0<|w) R,oB [(2,.ptr 2 j 0 0)] [(2,some<|.box j 104<|Bg l)]<|fB R FW (.inl R) (λ_=>R) R,oB [(10,.ptr 2 j 0 1)] [(2,some<|.box j 104<|Bg l)]<|Ab (a:=rI l.Col) R AI (.inl R) R R,oB [(3,.ptr 3 (j+1) 0 0)] [(3,some<|.box (j+1) 104<|Bg m)]<|fB R FW (.inl R) (λ_=>R) R,oB [(12,.ptr 3 (j+1) 0 1)] [(3,some<|.box (j+1) 104<|Bg m)]<|Ab (a:=rI m.Col) R AI (.inl R) R R,Za⟩) λF T=>?_
 refine Bm [0,1,2,3,4,5,6,7,8,9,10,11,12,13] [2,3] ?_
 exact AG E λI A J=>cL (L0<|A) R<|sS R (CG 15 R B3 (f:=(As .i64)) (l:=([q,I]:List Int)) ⟨R,⟨_,iL,R⟩,R,⟨_,iL,R⟩,Za⟩ R (λ_=>R) R)<|AG J λU B M=>cL (T7<|B) R<|mA R<|aZ<|C _<|Zj<|yI M R
theorem nU{C a c n r}(h:On C a c n=some r):AS prog 204 [qc C,rI a,rI c,rB n] (rI r):=by
 unfold On at h
 refine mF func204 ntmps204 R λn0=>aU<|mA R<|aZ<|aS λK2 c2 I=>aU<|mM R<|xL B2 R<|mM R<|aZ<|Zg<|BV h λo1 E J l=>?_
 have J1:∀(u2:Unit) (i5:NN),o1=.nrm u2→K2 ⟨[],[],(i5 0),79⟩:=by
  intro u2 i5 e
  have h1:=J _ e
  exact c2 _<|zI h1 R id
 refine Zu (λ(M:Int) F=>⟨[(0,qc C),(1,rI a),(2,rI c),(3,rB n),(12,qc C),(13,rL C),(14,rI M)],[],(F 0),79⟩) (AH [n0]) E wk ?_
 intro M F v1 O j
 have h2:NB C a c n M=some v1:=O;unfold NB at h2
 refine aU<|xS R<|aZ<|aT λc6=>cI R h2 (λT=>?_) λT=>?_
 ·refine Zc<|c6 _<|aT λc7=>Zg<|aU<|mM R<|AG T λm U h4=>xI B2 R U<|xB ((Bg m)) E7 R<|sS R (BN (cs:=IA) 10 R Hg R R)<|mA R<|Zl R R (A6 (ds:=(Bg m)) R IN iL R iL R R R R)<|aZ<|aT λc9=>Zg<|aU<|lF E5 AI R R<|xS R<|mM R<|vF E5 AI R R<|vM R<|vQ R (Cq R (iR R)<|iR R)<|xO R<|mM R<|vF FW AI R R<|vQ R (Bu R (iR R) iL)<|xO R<|mM R<|vF FW AI R R<|vM R<|vQ R (Cq R (iR R)<|iR R)<|xO R<|mA R<|aZ<|cI R h4 (λV=>?_) λV=>?_
  ·exact zI (l _<|xH j V) R id
  refine aT λX=>aG [0,1,2,3,9,10,12,13,14] [10] ?_
  refine aR<|lF EO AI R R<|xS R<|mM R<|vF EO AI R R<|vQ R (BU R (iR R) iL)<|xO R<|mA R<|aZ<|X _<|cI R V (λZ=>?_) λZ=>?_
  ·exact zI (l _<|xH j Z) R id
  refine aU<|lF I7 A9 R R<|AG Z λr1 a0 h7=>cL (jd<|a0) R<|sQ R (BB R iL)<|mA R<|aZ<|cI R h7 (λh8=>?_) λh8=>?_
  ·exact zI (l _<|xH j h8) R id
  refine Zc<|c9 _<|aT λa1=>aT λa2=>aG [0,1,2,3,9,10,12,13,14] [10] ?_
  refine aR<|lF HF Ci R R<|AG h8 λe1 a6 h9=>cL (VF<|a6) R<|mA R<|aZ<|a2 _<|aU<|mM R<|xU R<|aZ<|cI R h9 (λq=>?_) λq=>?_
  ·refine aT λa7=>aF [11] ?_
   exact aR<|mM R<|mA R<|aZ<|a7 _<|Zj<|yI (l _<|xH j q) R
  refine Zc<|a1 _<|aT λa8=>aU<|xC E7 R<|AG q λr2 aa ab=>cL (l6<|aa) R<|mM R<|vM R<|vQ R (BB R<|iR R)<|xN R<|aZ<|cI R ab (λw=>?_) λw=>?_
  ·exact zI (l _<|xH j w) R id
  refine Zc<|a8 _<|aT λac=>aG [0,1,2,3,9,10,12,13,14] [10] ?_
  refine Zz BZ (by kernel_rfl) ?_
  refine qP R (AL R iL)<|qP R (BU R iL iL)<|qP R (AL R iL)<|qO R (AL R iL)<|qO R (AL R iL)<|AG w λx5 ad ae=>qO R (CS R (iR R) iL<|Ad ad)<|AG ae λA af ag=>qO R (BK R B2.slice (iR R) (iR R) (λ_=>R)<|Ad af)<|qO R (ET (cs:=(Bg A)) R E7 (iR R) R R)<|qO R (Dr R E7 iL R R)<|AG ag λr3 ah ai=>Kw (.one R R R) R R (r:=rI r3) (caps:=[]) (bs:=[.agg<|Bg A,.agg<|Bg m]) R iL R ⟨⟨_,(iR R),.g (cs:=[.int .i64 A.Row,.int .i64 A.Col,.str A.Text,.int .i64 A.Ref,.sl<|A.Attrs.map AE.row]) R R⟩,⟨_,(iR R),.g (cs:=[.int .i64 m.Row,.int .i64 m.Col,.str m.Text,.int .i64 m.Ref,.sl<|m.Attrs.map AE.row]) R R⟩,Za⟩ (λhg=>eM<|Ad ah hg) R<|qO R (Cq R (iR R) iL)<|qP R (BS R iL<|iR R)<|AQ.nil<|ac _<|cI R ai (λB=>?_) λB=>?_
  ·exact zI (l _<|xH j B) R id
  exact Zc<|c7 _<|aR<|AG B λx7 aj ak=>xA R aj<|mM R<|Zh<|Zr ak (AH [((F 0)+1)]) wk
 exact Zm<|I _ _ wk<|J1 _ (AH [(F 0)])<|xH j T
theorem mZ{j a c r}(h:NW j a c=some r):AS prog 205 [.agg<|Ay j,rI a,rI c] (rB r):=by
 unfold NW at h
 refine mF func205 ntmps205 R λA=>aU<|sS R (BC (cs:=(Ay j)) 3 R iL R R)<|mA R<|aZ<|aU<|lF Ca AI R R<|sQ R (Cq R iL iL)<|mM R<|vF DG AI R R<|vQ R (Cq R (iR R) iL)<|xN R<|mM R<|vF Gg AI R R<|vQ R (Cq R (iR R) iL)<|xN R<|mM R<|vF F7 AI R R<|vQ R (Cq R (iR R) iL)<|xN R<|mM R<|vF Ca AI R R<|vM R<|vQ R (Bu R (iR R)<|iR R)<|xN R<|mM R<|vF DG AI R R<|vM R<|vQ R (Bu R (iR R)<|iR R)<|xN R<|mM R<|vF Gg AI R R<|vM R<|vF Ca AI R R<|AG h λB l q=>vQ R (CS R (iR R) (iR R)<|Ad l)<|vQ R (Ei R (iR R)<|iR R)<|xN R<|mM R<|vF F7 AI R R<|vM R<|vF DG AI R R<|AG q λC m w=>vQ R (CS R (iR R) (iR R)<|Ad m)<|vQ R (Ei R (iR R)<|iR R)<|xN R<|mA R<|aZ ?_
 exact Zj<|yB w R
theorem mG{j l r}(h:Ng j l=some r):AS prog 206 [.agg<|Ay j,.agg<|Ay l] (rB r):=by
 unfold Ng at h
 exact mF func206 ntmps206 R λm=>aU<|sS R (BC (cs:=(Ay j)) 2 R iL R R)<|sS R (BC (cs:=(Ay l)) 3 R iL R R)<|mA R<|aZ<|aU<|lF Ca AI R R<|lF Ca AI R R<|xS R<|mM R<|vF Ca AI R R<|vF Ca AI R R<|vQ R (BE R (iR R)<|iR R)<|vQ R (AL R<|iR R)<|wQ R (fB R DG iL fR R)<|wQ R (Ab (a:=rI j.Col) R AI (iR R) R R)<|wQ R (fB R DG iL fR R)<|wQ R (Ab (a:=rI l.Col) R AI (iR R) R R)<|wQ R (Bu R (iR R)<|iR R)<|vQ R (BS R (iR R)<|iR R)<|xO R<|mA R<|aZ<|Zj<|yB h R
theorem fp{j l r}(h:OU j l=some r):AS prog 209 [.agg<|Ay j,.agg<|Ay l] (rB r):=by
 unfold OU at h
 exact mF func209 ntmps209 R λI=>aU<|sS R (BC (cs:=(Ay j)) 2 R iL R R)<|sS R (BC (cs:=(Ay l)) 3 R iL R R)<|mA R<|aZ<|aU<|lF Ca AI R R<|lF Ca AI R R<|lF Gg AI R R<|AG h λJ m B=>xA R m<|xS R<|mM R<|vF Ca AI R R<|vF Ca AI R R<|vF Gg AI R R<|AG B λM q C=>vQ R (KF R (iR R) (iR R)<|Ad q)<|vQ R (Bu R (iR R)<|iR R)<|xN R<|mM R<|vF DG AI R R<|vF DG AI R R<|vF F7 AI R R<|AG C λO w E=>vQ R (KF R (iR R) (iR R)<|Ad w)<|vQ R (Bu R (iR R)<|iR R)<|xN R<|mM R<|vF DG AI R R<|vF DG AI R R<|vF F7 AI R R<|AG E λT A F=>vQ R (KF R (iR R) (iR R)<|Ad A)<|vQ R (Bu R (iR R)<|iR R)<|xN R<|mA R<|aZ<|Zj<|yB F R
theorem kH{l:Ak}{m:Ak}{r:Bool}{j:Nat}(h:QR l m=some r):BH prog 208 1 [.agg<|Ay m,.ptr 1000 j 0 0] [(1000,some<|.box j 154<|Ay l)] (λq h'=>∃(i:Nat→Nat),q=rB r∧h'=[(1000,some<|.box j 154<|Ay l)]):=by
 unfold QR at h
 refine Em func208 R R ntmps208 (Zt R) λB=>aU<|sS R (BC (cs:=(Ay m)) 2 R iL R R)<|mA R<|aZ<|aU<|xC DP R<|xC DP R<|AG h λA w C=>cL (fp<|w) R<|mA R<|aZ ?_
 exact Zj<|B9.mk (s':=⟨[(3,rB A)],[(1000,some<|.box j 154<|Ay l)],(B+1),7⟩) wk<|CX (λ(r:Bool) q h'=>∃(i:Nat→Nat),q=rB r∧h'=[(1000,some<|.box j 154<|Ay l)]) C<|by exact⟨rB A,[(1000,some<|.box j 154<|Ay l)],R,⟨.inr R,Za⟩,R,R,AH [],R,R⟩
theorem d8{l:Ak}{m:List Ak}{r:Int}{j:Nat}(h:Pw l m=some r):BH prog 270 1 [qd m,.fn 208 [.ptr 1000 j 0 0]] [(1000,some<|.box j 154<|Ay l)] (λq h'=>∃(i:Nat→Nat),q=rI r∧h'=[(1000,some<|.box j 154<|Ay l)]):=by
 unfold Pw at h
 refine Em func270 R R ntmps270 (Zt R) λn0=>aU<|mA R<|aZ<|aS λK2 c2 C=>aU<|mM R<|xL DD R<|mM R<|aZ<|Zg<|BV h λo1 w E F=>?_
 have J1:∀(u2:Unit) (I:NN),o1=.nrm u2→K2 ⟨[],[(1000,some<|.box j 154<|Ay l)],(I 0),19⟩:=by
  intro u2 I e
  have h1:=E _ e
  refine c2 _<|aU<|mA R<|aZ ?_
  exact Zj<|B9.mk (s':=⟨[(4,rI<|(-1))],[(1000,some<|.box j 154<|Ay l)],(I 0),19⟩) wk<|CX (λ(r:Int) q h'=>∃(i:Nat→Nat),q=rI r∧h'=[(1000,some<|.box j 154<|Ay l)]) h1<|by exact⟨rI<|(-1),[(1000,some<|.box j 154<|Ay l)],R,⟨.inr R,Za⟩,R,R,AH [],R,R⟩
 refine Zu (λ(A:Int) J=>⟨[(0,qd m),(1,.fn 208 [.ptr 1000 j 0 0]),(7,rL m),(8,rI A)],[(1000,some<|.box j 154<|Ay l)],(J 0),19⟩) (AH [n0]) w wk ?_
 intro A J v1 M B
 have h2:NG l m A=some v1:=M;unfold NG at h2
 refine aU<|xS R<|aZ<|aT λc6=>cI R h2 (λO=>?_) λO=>?_
 ·refine Zc<|c6 _<|aT λc7=>Zg<|aU<|mM R<|mA R<|aZ<|aT λc9=>aR<|mM R<|mM R<|mM R<|AG O λx4 T h4=>xI DD R T<|xB ((Ay x4)) DP R<|AG h4 λr1 U h5=>?_
  refine ZA [1000] (hc:=[(1000,some<|.box j 154<|Ay l)]) (bs:=[.agg<|Ay x4]) (caps:=[.ptr 1000 j 0 0]) R R R R iL R ⟨.inl ⟨iL,R⟩,Za⟩ ⟨R,R,R,Za⟩ (by decide) (kH U) ?_
  intro i6 n1
  refine Bm [0,1,5,7,8,9,10,11,12,13,14,15,16] [1000] ?_
  refine aZ<|c9 _<|cI R h5 (λV=>?_) λV=>?_
  ·refine aT λX=>aG [5] [1000] ?_
   refine aR<|mM R<|mA R<|oZ X ?_
   exact Zj<|B9.mk (s':=⟨[(4,rI A)],[(1000,some<|.box j 154<|Ay l)],n1,19⟩) wk<|CX (λ(r:Int) q h'=>∃(i:Nat→Nat),q=rI r∧h'=[(1000,some<|.box j 154<|Ay l)]) (F _<|xH B V)<|by exact⟨rI A,[(1000,some<|.box j 154<|Ay l)],R,⟨.inr R,Za⟩,R,R,AH [],R,R⟩
  refine Zc<|c7 _<|aG [0,1,7,8] [1000] ?_
  exact aR<|AG V λx5 Z h7=>xA R Z<|mM R<|Zh<|Zr h7 (AH [n1]) wk
 exact Zm<|C _ _ wk<|J1 _ (AH [(J 0)])<|xH B O
theorem dF{l:Ak}{m:List Ak}{r:Bool}{j:Nat}(h:Lb l m=some r):BH prog 207 1 [qd m,.fn 208 [.ptr 1000 j 0 0]] [(1000,some<|.box j 154<|Ay l)] (λq h'=>∃(i:Nat→Nat),q=rB r∧h'=[(1000,some<|.box j 154<|Ay l)]):=by
 unfold Lb at h
 refine Em func207 R R ntmps207 (Zt R) λF=>aU<|mA R<|aZ<|aT λB=>aR<|mM R<|mM R<|AG h λA w C=>?_
 refine ZA [1000] (hc:=[(1000,some<|.box j 154<|Ay l)]) (bs:=[qd m,.fn 208 [.ptr 1000 j 0 0]]) (caps:=[]) R R R R iL R ⟨.inl ⟨iL,R⟩,.inl ⟨iL,R⟩,Za⟩ ⟨R,R,R,Za⟩ (by decide) (d8 w) ?_
 intro I E
 refine Bm [0,1,4,5,6,7] [1000] ?_
 refine sQ R (Cq R iL iL)<|mA R<|oZ B ?_
 exact Zj<|B9.mk (s':=⟨[(4,rB<|(decide<|0≤A))],[(1000,some<|.box j 154<|Ay l)],E,9⟩) wk<|CX (λ(r:Bool) q h'=>∃(i:Nat→Nat),q=rB r∧h'=[(1000,some<|.box j 154<|Ay l)]) C<|by exact⟨rB<|(decide<|0≤A),[(1000,some<|.box j 154<|Ay l)],R,⟨.inr R,Za⟩,R,R,AH [],R,R⟩
theorem ma{m r}(h:M3 m=some r):AS prog 142 (T8 m) (rI r):=by
 unfold M3 at h
 refine mF func142 ntmps142 R λI=>aU<|sS R (BC (cs:=(CR m)) 1 R iL R R)<|mA R<|aZ<|aT λc2=>aU<|lF Gx AI R R<|xS R<|mM R<|vF Gx AI R R<|vQ R (BU R (iR R) iL)<|xO R<|mM R<|vF HT AI R R<|vQ R (Bu R (iR R) iL)<|xO R<|mM R<|vF HT AI R R<|vQ R (BU R (iR R) iL)<|xO R<|aZ<|cI R h (λJ=>?_) λJ=>?_
 ·exact zI J R id
 refine Zc<|c2 _<|aT λc5=>aT λc6=>aG [1] [1] ?_
 refine aR<|lF EF EH R R<|lF Gx AI R R<|lF HT AI R R<|AG J λe1 M h2=>cL (nU<|M) R<|mA R<|aZ<|c6 _<|aU<|mM R<|xU R<|aZ<|cI R h2 (λO=>?_) λO=>?_
 ·refine aT λc8=>aF [3] ?_
  exact aR<|mM R<|mA R<|aZ<|c8 _<|Zj<|yI O R
 refine Zc<|c5 _<|aS λK9 c9 T=>aT λU=>aG [1] [1] ?_
 refine aR<|lF EN Eb R R<|xL DD R<|mM R<|aZ<|U _<|Zg<|BV O λo1 F V l=>?_
 have J1:∀(u2:Unit) (i5:NN),o1=.nrm u2→K9 ⟨[],[],(i5 0),81⟩:=by
  intro u2 i5 e
  have h4:=V _ e
  exact c9 _<|zI h4 R id
 refine Zu (λ(X:Int) C=>⟨[(1,.ptr 1 I 0 0),(35,qd m.Merges),(36,rL m.Merges),(37,rI X)],[(1,some<|.box I 37<|CR m)],(C 0),81⟩) (AH [(I+1)]) F wk ?_
 intro X C v1 Z j
 have h5:Nc m X=some v1:=Z;unfold Nc at h5
 refine aU<|xS R<|aZ<|aT λa0=>cI R h5 (λh6=>?_) λh6=>?_
 ·refine Zc<|a0 _<|aT λa1=>Zg<|aU<|mM R<|AG h6 λq a2 h7=>xI DD R a2<|xB ((Ay q)) DP R<|sS R (BN (cs:=Fd) 5 R II R R)<|mA R<|Zl R R (A6 (ds:=(Ay q)) R GG iL R iL R R R R)<|aZ<|Zg<|aU<|xC DP R<|lF Gx AI R R<|lF HT AI R R<|AG h7 λr1 a6 h8=>cL (mZ<|a6) R<|sQ R (BB R iL)<|mA R<|aZ<|cI R h8 (λh9=>?_) λh9=>?_
  ·exact zI (l _<|xH j h9) R id
  refine aT λa7=>aG [1,4,5,35,36,37] [1,5] ?_
  refine aR<|lF Gg AI R R<|xQ R<|mM R<|vF F7 AI R R<|vQ R (BE R (iR R) iL)<|xN R<|mA R<|aZ<|a7 _<|cI R h9 (λw=>?_) λw=>?_
  ·exact zI (l _<|xH j w) R id
  refine aT λa8=>?_
  refine Zz BZ (by kernel_rfl) ?_
  refine qP R (AL R iL)<|qP R (BU R iL iL)<|qP R (AL R iL)<|qO R (fB R EN iL fR R)<|qO R (Ab (a:=qd m.Merges) R Eb (iR R) R R)<|qO R (AL R iL)<|AG w λx5 aa ab=>qO R (CS R (iR R) iL<|Ad aa)<|AG ab λE ac ad=>qO R (BK R DD.slice (iR R) (iR R) (λ_=>R)<|Ad ac)<|qO R (ET (cs:=(Ay E)) R DP (iR R) R R)<|qO R (Dr R DP iL R R)<|AG ad λr2 ae af=>Kw (.one R R R) R R (r:=rB r2) (caps:=[]) (bs:=[.agg<|Ay E,.agg<|Ay q]) R iL R ⟨⟨_,(iR R),.g (cs:=[.int .i64 E.Row,.int .i64 E.Col,.int .i64 E.H,.int .i64 E.W]) R R⟩,⟨_,(iR R),.g (cs:=[.int .i64 q.Row,.int .i64 q.Col,.int .i64 q.H,.int .i64 q.W]) R R⟩,Za⟩ (λhg=>mG<|Ad ae hg) R<|qO R (BB R<|iR R)<|qP R (BS R iL<|iR R)<|qP R (D7 R iL)<|AQ.nil<|a8 _<|cI R af (λA=>?_) λA=>?_
  ·exact zI (l _<|xH j A) R id
  refine aT λag=>aG [1,4,5,35,36,37] [1,5] ?_
  refine aR<|lF EN Eb R R<|mM R<|AG A λl1 ah ai=>?_
  refine sQ R (Vn R DD.slice iL (by exact R) (by exact⟨_,iL⟩) (λ_=>R) λ_=>ah) ?_
  refine sQ R (JW (bs:=[.ptr 5 (C 0) 0 0]) R<|by exact⟨iL,Za⟩) ?_
  refine AG ai λr3 aj ak=>?_
  refine ZA [5] (hc:=[(1000,some<|.box (C 0) 154<|Ay q)]) (bs:=[qd l1,.fn 208 [.ptr 1000 (C 0) 0 0]]) (caps:=[]) R R R R iL R ⟨.inl ⟨iL,R⟩,.inl ⟨iL,R⟩,Za⟩ ⟨R,R,R,Za⟩ (by decide) (dF aj) ?_
  intro i6 n1
  refine Bm [1,4,5,35,36,37,74,75,76,77,78,79] [1,5] ?_
  refine mA R<|aZ<|ag _<|cI R ak (λB=>?_) λB=>?_
  ·exact zI (l _<|xH j B) R id
  refine Zc<|a1 _<|aG [1,35,36,37] [1] ?_
  exact aR<|AG B λx7 al an=>xA R al<|mM R<|Zh<|Zr an (AH [n1]) wk
 exact Zm<|T _ _ wk<|J1 _ (AH [(C 0)])<|xH j h6
theorem nm{k j r}(h:M5 k j=some r):AS prog 143 [rI k,qc j] (rI r):=by
 unfold M5 at h
 refine mF func143 ntmps143 R λX=>aU<|mA R<|aZ<|aS λZ c2 A=>aU<|mM R<|xL B2 R<|mM R<|aZ<|Zg<|BV h λo1 l B C=>?_
 have J1:∀(T:Unit) (U:NN),o1=.nrm T→Z ⟨[],[],(U 0),36⟩:=by
  intro T U e
  have h1:=B _ e
  exact c2 _<|zI h1 R id
 refine Zu (λ(E:Int) q=>⟨[(0,rI k),(7,qc j),(8,rL j),(9,rI E)],[],(q 0),36⟩) (AH [X]) l wk ?_
 intro E q v1 F m
 have V:NC k j E=some v1:=F;unfold NC at V
 refine aU<|xS R<|aZ<|aT λc6=>cI R V (λI=>?_) λI=>?_
 ·refine Zc<|c6 _<|aT λc7=>Zg<|aU<|AG I λw J h4=>xI B2 R J<|xB ((Bg w)) E7 R<|sS R (BN (cs:=IA) 6 R Hg R R)<|Zl R R (A6 (ds:=(Bg w)) R IN iL R iL R R R R)<|aZ<|aU<|mM R<|xQ R<|mM R<|vF I7 A9 R R<|vQ R (Dt R (iR R) iL)<|vQ R (AL R<|iR R)<|wQ R (fB R HF iL fR R)<|wQ R (Ab (a:=qa w.Attrs) R Ci (iR R) R R)<|wQ R (Dl R BD.slice<|iR R)<|wQ R (BU R (iR R) iL)<|vQ R (CN R (iR R)<|iR R)<|xN R<|mM R<|vM R<|vQ R (BE R (iR R) iL)<|vQ R (AL R<|iR R)<|wQ R (fB R EO iL fR R)<|wQ R (Ab (a:=rI w.Ref) R AI (iR R) R R)<|wQ R (C0 R (iR R) iL)<|vQ R (BS R (iR R)<|iR R)<|xO R<|aZ<|cI R h4 (λM=>?_) λM=>?_
  ·exact zI (C _<|xH m M) R id
  refine Zc<|c7 _<|aF [0,7,8,9] ?_
  exact aR<|AG M λx5 O h6=>xA R O<|mM R<|Zh<|Zr h6 (AH [((q 0)+1)]) wk
 exact Zm<|A _ _ wk<|J1 _ (AH [(q 0)])<|xH m I
theorem oE{l r}(h:KT l=some r):AS prog 271 [rS l] (rB r):=by
 unfold KT at h
 refine mF func271 ntmps271 R λn0=>aU<|mA R<|aZ<|aT λc2=>aU<|mM R<|sQ R (D3 R iL iL)<|mM R<|vM R<|vQ R (DQ R underlying9<|iR R)<|vQ R (BU R (iR R) iL)<|xO R<|mM R<|vM R<|vM R<|vQ R (DQ R underlying9<|iR R)<|AG h λx1 B h1=>vQ R (CS R (iR R) iL<|Ad B)<|AG h1 λa0 m h2=>vQ R (CT R underlying9 (iR R) (iR R)<|Ad m)<|vQ R (BE R (iR R) iL)<|xO R<|aZ<|cI R h2 (λC=>?_) λC=>?_
 ·exact zB C R id
 refine Zc<|c2 _<|aS λK5 c5 E=>aT λc6=>aF [0] ?_
 refine aR<|mM R<|sQ R (DQ R underlying9 iL)<|mM R<|aZ<|c6 _<|Zg<|BV C λo1 q F I=>?_
 have J1:∀(X:Unit) (Z:NN),o1=.nrm X→K5 ⟨[],[],(Z 0),35⟩:=by
  intro X Z e
  have h4:=F _ e
  exact c5 _<|zB h4 R id
 refine Zu (λ(J:Int) A=>⟨[(0,rS l),(20,rL l),(21,rI J)],[],(A 0),35⟩) (AH [n0]) q wk ?_
 intro J A v1 M w
 have h5:JZ l J=some v1:=M;unfold JZ at h5
 refine aU<|xS R<|aZ<|aT λc9=>cI R h5 (λO=>?_) λO=>?_
 ·refine Zc<|c9 _<|aT λT=>Zg<|aU<|mM R<|mA R<|aZ<|aU<|mM R<|mM R<|AG O λa1 j h7=>sQ R (CT R underlying9 iL iL λ_=>j)<|xS R<|mM R<|vM R<|vM R<|vQ R (CT R underlying9 (iR R) (iR R) λ_=>j)<|vQ R (BU R (iR R) iL)<|xO R<|aZ<|cI R h7 (λU=>?_) λU=>?_
  ·exact zB (I _<|xH w U) R id
  refine Zc<|T _<|aF [0,20,21] ?_
  exact aR<|AG U λx5 V h9=>xA R V<|mM R<|Zh<|Zr h9 (AH [(A 0)]) wk
 exact Zm<|E _ _ wk<|J1 _ (AH [(A 0)])<|xH w O
theorem lR{j r}(h:JY j=some r):AS prog 210 (pT j) (rI r):=by
 unfold JY at h
 refine mF func210 ntmps210 R λC=>aU<|sS R (BC (cs:=(Bc j)) 1 R iL R R)<|mA R<|aZ<|aT λc2=>Zg<|aU<|lF FZ AI R R<|xU R<|mM R<|vF FZ AI R R<|vQ R (C0 R (iR R) iL)<|xN R<|mA R<|aZ<|cI R h (λM=>?_) λM=>?_
 ·exact zI M R id
 refine aT λc5=>aG [1] [1] ?_
 refine aR<|lF H5 AI R R<|xS R<|mM R<|vF H5 AI R R<|vQ R (BU R (iR R) iL)<|xO R<|mM R<|vF Je AI R R<|vQ R (Bu R (iR R) iL)<|xO R<|mM R<|vF Je AI R R<|vQ R (BU R (iR R) iL)<|xO R<|mM R<|vF FL AI R R<|vQ R (Bu R (iR R) iL)<|xO R<|mM R<|vF FL AI R R<|vQ R (BU R (iR R) iL)<|xO R<|mA R<|aZ<|c5 _<|cI R M (λO=>?_) λO=>?_
 ·exact zI O R id
 refine aS λK7 c7 E=>aT λc8=>aG [1] [1] ?_
 refine aR<|lF FZ AI R R<|xQ R<|mM R<|vF Ln A9 R R<|vQ R (Dt R (iR R) iL)<|vQ R (AL R<|iR R)<|wQ R (fB R Ih iL fR R)<|wQ R (Ab (a:=rS j.Value) R A9 (iR R) R R)<|wQ R (Dt R (iR R) iL)<|vQ R (CN R (iR R)<|iR R)<|xN R<|mA R<|aZ<|c8 _<|Bd O λp1 F T=>?_
 have J1:∀(U:Bool) (J:NN),p1=U→K7 ⟨[(1,.ptr 1 C 0 0),(41,rB U)],[(1,some<|.box C 119<|Bc j)],(J 0),116⟩:=by
  intro U J e
  have h3:=T _ e
  refine c7 _<|cI R h3 (λV=>?_) λV=>?_
  ·exact zI V R id
  refine aU<|lF FZ AI R R<|xQ R<|mM R<|vF GC AI R R<|vQ R (Bu R (iR R) iL)<|vQ R (AL R<|iR R)<|wQ R (fB R GC iL fR R)<|wQ R (Ab (a:=rI j.Parent) R AI (iR R) R R)<|wQ R (BU R (iR R) iL)<|vQ R (CN R (iR R)<|iR R)<|xN R<|mA R<|aZ<|cI R V (λX=>?_) λX=>?_
  ·exact zI X R id
  refine aS λZ a0 l=>aT λa1=>aG [1] [1] ?_
  refine aR<|lF FZ AI R R<|xQ R<|mM R<|vF MN A9 R R<|AG X λr1 a2 h6=>vL (λhg=>oE<|Ad a2 hg) R<|vQ R (BB R<|iR R)<|xN R<|mA R<|aZ<|a1 _<|Bd h6 λp2 I a6=>?_
  have J2:∀(x2:Bool) (i2:NN),p2=x2→Z ⟨[(1,.ptr 1 C 0 0),(82,rB x2)],[(1,some<|.box C 119<|Bc j)],(i2 0),116⟩:=by
   intro x2 i2 e
   have h7:=a6 _ e
   refine a0 _<|cI R h7 (λh8=>?_) λh8=>?_
   ·exact zI h8 R id
   refine aU<|lF FZ AI R R<|xQ R<|mM R<|vF Ih A9 R R<|vQ R (Dt R (iR R) iL)<|xN R<|mM R<|vF Ih A9 R R<|AG h8 λr2 a7 h9=>vL (λhg=>Vx<|Ad a7 hg) R<|vQ R (BB R<|iR R)<|xN R<|mA R<|aZ<|cI R h9 (λm=>?_) λm=>?_
   ·exact zI m R id
   exact Zc<|c2 _<|zI m R id
  refine aC R (λq=>?_) λq=>?_
  ·have w:=EQ q I
   exact Zc<|l _ _ wk<|J2 _ (AH [(J 0)]) (Zf w).symm
  ·have w:=EM q I
   refine aG [1] [1] ?_
   exact aR<|lF FZ AI R R<|xQ R<|mM R<|vF Ln A9 R R<|AG w λr3 a8 aa=>vL (λhg=>Yj<|Ad a8 hg) R<|vQ R (BB R<|iR R)<|xN R<|mA R<|Zh<|l _ _ wk<|J2 _ (AH [(J 0)]) (Zf aa).symm
 refine aC R (λA=>?_) λA=>?_
 ·have B:=EQ A F
  exact Zc<|E _ _ wk<|J1 _ (AH [(C+1)]) (Zf B).symm
 ·have B:=EM A F
  refine aG [1] [1] ?_
  exact aR<|lF FZ AI R R<|xQ R<|mM R<|vF GC AI R R<|vQ R (C0 R (iR R) iL)<|vQ R (AL R<|iR R)<|wQ R (fB R MN iL fR R)<|wQ R (Ab (a:=rS j.Place) R A9 (iR R) R R)<|wQ R (Dt R (iR R) iL)<|vQ R (CN R (iR R)<|iR R)<|xN R<|mA R<|Zh<|E _ _ wk<|J1 _ (AH [(C+1)]) (Zf B).symm
theorem du{l m r}(h:J8 l m=some r):AS prog 192 [.agg<|Bc l,.agg<|Bc m] (rI r):=by
 unfold J8 at h
 refine mF func192 ntmps192 R λj=>aU<|sS R (BC (cs:=(Bc l)) 2 R iL R R)<|sS R (BC (cs:=(Bc m)) 3 R iL R R)<|mA R<|aZ<|aT λC=>AG h λq w E=>?_
 refine rP 9 [pO 5<|.ptr 2 j 0 0,pO 6<|rI l.Clock,pO 7<|.ptr 3 (j+1) 0 0,pO 8<|rI m.Clock,pO 9<|rI q,pO 10<|.ptr 2 j 0 1,pO 11<|rI l.Site,pO 12<|.ptr 3 (j+1) 0 1,pO 13<|rI m.Site] BZ R (by exact⟨oB [(2,.ptr 2 j 0 0)] [(2,some<|.box j 119<|Bc l)]<|fB R H5 (.inl R) (λ_=>R) R,oB [(5,.ptr 2 j 0 0)] [(2,some<|.box j 119<|Bc l)]<|Ab (a:=rI l.Clock) R AI (.inl R) R R,oB [(3,.ptr 3 (j+1) 0 0)] [(3,some<|.box (j+1) 119<|Bc m)]<|fB R H5 (.inl R) (λ_=>R) R,oB [(7,.ptr 3 (j+1) 0 0)] [(3,some<|.box (j+1) 119<|Bc m)]<|Ab (a:=rI m.Clock) R AI (.inl R) R R,oD (λ_=>[(6,rI l.Clock),(8,rI m.Clock)]) (λ_=>[]) λF e O n=>Dz (r:=rI q) (caps:=[]) (bs:=[rI l.Clock,rI m.Clock]) R (.inl R) R ⟨⟨_,(.inl R),.d R⟩,⟨_,(.inl R),.d R⟩,Za⟩ (λ_=>L0<|w) R,oB [(2,.ptr 2 j 0 0)] [(2,some<|.box j 119<|Bc l)]<|fB R Je (.inl R) (λ_=>R) R,oB [(10,.ptr 2 j 0 1)] [(2,some<|.box j 119<|Bc l)]<|Ab (a:=rI l.Site) R AI (.inl R) R R,oB [(3,.ptr 3 (j+1) 0 0)] [(3,some<|.box (j+1) 119<|Bc m)]<|fB R Je (.inl R) (λ_=>R) R,oB [(12,.ptr 3 (j+1) 0 1)] [(3,some<|.box (j+1) 119<|Bc m)]<|Ab (a:=rI m.Site) R AI (.inl R) R R,Za⟩) λF T=>?_
 refine Bm [0,1,2,3,4,5,6,7,8,9,10,11,12,13] [2,3] ?_
 exact AG E λI A J=>cL (L0<|A) R<|sS R (CG 15 R B3 (f:=(As .i64)) (l:=([q,I]:List Int)) ⟨R,⟨_,iL,R⟩,R,⟨_,iL,R⟩,Za⟩ R (λ_=>R) R)<|AG J λU B M=>cL (T7<|B) R<|mA R<|aZ<|C _<|Zj<|yI M R
theorem ib{w r}(h:Jx w=some r):AS prog 144 [qf w] (rI r):=by
 unfold Jx at h
 refine mF func144 ntmps144 R λn0=>aU<|mA R<|aZ<|aS λK2 c2 E=>aU<|mM R<|xL E0 R<|mM R<|aZ<|Zg<|BV h λo1 A F B=>?_
 have J1:∀(u2:Unit) (i5:NN),o1=.nrm u2→K2 ⟨[],[],(i5 0),31⟩:=by
  intro u2 i5 e
  have h1:=F _ e
  exact c2 _<|zI h1 R id
 refine Zu (λ(I:Int) C=>⟨[(0,qf w),(6,qf w),(7,rL w),(8,rI I)],[],(C 0),31⟩) (AH [n0]) A wk ?_
 intro I C v1 J m
 have h2:Jk w I=some v1:=J;unfold Jk at h2
 refine aU<|xS R<|aZ<|aT λc6=>cI R h2 (λM=>?_) λM=>?_
 ·refine Zc<|c6 _<|aT λc7=>Zg<|aU<|mM R<|AG M λj O h4=>xI E0 R O<|xB ((Bc j)) HV R<|sS R (BN (cs:=Q6) 4 R Qv R R)<|mA R<|Zl R R (A6 (ds:=(Bc j)) R Pg iL R iL R R R R)<|aZ<|aT λc9=>aU<|xC HV R<|AG h4 λe1 T h5=>cL (lR<|T) R<|mA R<|aZ<|aU<|mM R<|xU R<|aZ<|cI R h5 (λU=>?_) λU=>?_
  ·refine aT λV=>aF [5] ?_
   exact aR<|mM R<|mA R<|aZ<|V _<|Zj<|yI (B _<|xH m U) R
  refine Zc<|c9 _<|aT λX=>aG [0,3,4,6,7,8] [4] ?_
  refine Zz BZ (by kernel_rfl) ?_
  refine qP R (AL R iL)<|qP R (BU R iL iL)<|qP R (AL R iL)<|qO R (AL R iL)<|qO R (AL R iL)<|AG U λx5 Z h7=>qO R (CS R (iR R) iL<|Ad Z)<|AG h7 λl a0 h8=>qO R (BK R E0.slice (iR R) (iR R) (λ_=>R)<|Ad a0)<|qO R (ET (cs:=(Bc l)) R HV (iR R) R R)<|qO R (Dr R HV iL R R)<|AG h8 λr1 a1 h9=>Kw (.one R R R) R R (r:=rI r1) (caps:=[]) (bs:=[.agg<|Bc l,.agg<|Bc j]) R iL R ⟨⟨_,(iR R),.g (cs:=[.int .i64 l.Clock,.int .i64 l.Site,.int .i64 l.Kind,.int .i64 l.Item,.int .i64 l.Parent,.str l.Place,.str l.Name,.str l.Value]) R R⟩,⟨_,(iR R),.g (cs:=[.int .i64 j.Clock,.int .i64 j.Site,.int .i64 j.Kind,.int .i64 j.Item,.int .i64 j.Parent,.str j.Place,.str j.Name,.str j.Value]) R R⟩,Za⟩ (λhg=>du<|Ad a1 hg) R<|qO R (Cq R (iR R) iL)<|qP R (BS R iL<|iR R)<|AQ.nil<|X _<|cI R h9 (λq=>?_) λq=>?_
  ·exact zI (B _<|xH m q) R id
  exact Zc<|c7 _<|aR<|AG q λx7 a2 a6=>xA R a2<|mM R<|Zh<|Zr a6 (AH [((C 0)+1)]) wk
 exact Zm<|E _ _ wk<|J1 _ (AH [(C 0)])<|xH m M
theorem iJ{n1 r}(h:Dg n1=some r):AS prog 86 (JP n1) (rI r):=by
 unfold Dg at h
 refine mF func86 ntmps86 R λA=>aU<|sS R (BC (cs:=(A5 n1)) 1 R iL R R)<|mA R<|aZ<|aT λc2=>Zg<|aU<|lF En AI R R<|xS R<|mM R<|vF En AI R R<|vQ R (BU R (iR R) iL)<|xO R<|mA R<|aZ<|cI R h (λV=>?_) λV=>?_
 ·exact zI V R id
 refine aT λc5=>aG [1] [1] ?_
 refine aR<|lF CF AI R R<|xS R<|mM R<|vF CF AI R R<|vQ R (Cq R (iR R) iL)<|xO R<|mM R<|vF En AI R R<|vQ R (BE R (iR R) iL)<|vF CF AI R R<|vQ R (BE R (iR R) iL)<|vQ R (Vd R underlying4 (iR R)<|iR R)<|xO R<|mA R<|aZ<|c5 _<|cI R V (λX=>?_) λX=>?_
 ·exact zI X R id
 refine Zc<|c2 _<|aT λc7=>aT λc8=>aG [1] [1] ?_
 refine aR<|lF Il Ci R R<|AG X λe1 Z h3=>cL (VF<|Z) R<|mA R<|aZ<|c8 _<|aU<|mM R<|xU R<|aZ<|cI R h3 (λh4=>?_) λh4=>?_
 ·exact aU<|mM R<|mA R<|aZ<|Zj<|yI h4 R
 refine Zc<|c7 _<|aT λa0=>?_
 refine Zz BZ (by kernel_rfl) ?_
 refine qP R (fB R CF iL fR R)<|qP R (Ab (a:=rI n1.Kind) R AI iL R R)<|AG h4 λl O h5=>AQ.stepC R R R (r:=rB l) (caps:=[]) (bs:=[rI n1.Kind]) R iL R ⟨⟨_,iL,.d R⟩,Za⟩ (λ_=>Zp<|O) R<|qP R (AL R iL)<|qO R (fB R CF iL fR R)<|qO R (Ab (a:=rI n1.Kind) R AI (iR R) R R)<|AG h5 λm a1 h6=>Kw (.one R R R) R R (r:=rB m) (caps:=[]) (bs:=[rI n1.Kind]) R iL R ⟨⟨_,(iR R),.d R⟩,Za⟩ (λhg=>pJ<|Ad a1 hg) R<|qP R (CN R iL<|iR R)<|qP R (fB R CF iL fR R)<|qP R (Ab (a:=rI n1.Kind) R AI iL R R)<|AG h6 λj B h7=>AQ.stepC R R R (r:=rB j) (caps:=[]) (bs:=[rI n1.Kind]) R iL R ⟨⟨_,iL,.d R⟩,Za⟩ (λ_=>fN<|B) R<|qP R (D7 R iL)<|qP R (D7 R iL)<|AQ.nil<|a0 _<|aT λa2=>aS λa6 a7 C=>aG [1,4,5] [1] ?_
 refine aR<|mM R<|sQ R (BB R iL)<|mM R<|vF FI FP R R<|vQ R (Dl R CZ.slice<|iR R)<|vQ R (BU R (iR R) iL)<|xN R<|mM R<|vM R<|vQ R (BB R<|iR R)<|vQ R (AL R<|iR R)<|wQ R (fB R EU iL fR R)<|wQ R (Ja (ds:=(CR n1.Grid)) R Ix (iR R) R R R) ?_
 refine wQ R (DL R nR (q:=[]) (by exact Za) (cs:=Qp)<|by rfl) ?_
 refine Bd h7 λp1 T a8=>?_
 have J1:∀(x1:Bool) (i1:NN),p1=x1→a6 ⟨[(1,.ptr 1 A 0 0),(4,rB<|(l||m)),(5,rB j),(81,rB x1)],[(1,some<|.box A 40<|A5 n1)],(i1 0),107⟩:=by
  intro x1 i1 e
  have h8:=a8 _ e
  refine a7 _<|cI R h8 (λh9=>?_) λh9=>?_
  ·exact zI h9 R id
  refine Zc<|a2 _<|aT λaa=>Zg<|aU<|mM R<|mA R<|aZ<|cI R h9 (λF=>?_) λF=>?_
  ·refine aT λab=>?_
   refine Zz BZ (by kernel_rfl) ?_
   exact qP R (fB R FI iL fR R)<|qP R (Ab (a:=qe n1.Flow) R FP iL R R)<|qP R (fB R CF iL fR R)<|qP R (Ab (a:=rI n1.Kind) R AI iL R R)<|AQ.stepC R R R (r:=rB l) (caps:=[]) (bs:=[rI n1.Kind]) R iL R ⟨⟨_,iL,.d R⟩,Za⟩ (λ_=>Zp<|O) R<|AG F λr4 ac ad=>AQ.stepC R R R (r:=rI r4) (caps:=[]) (bs:=[qe n1.Flow,rB l]) R iL R ⟨⟨_,iL,.d R⟩,⟨_,iL,.d R⟩,Za⟩ (λ_=>jB<|ac) R<|qP R (D7 R iL)<|AQ.nil<|ab _<|Zj<|yI ad R
  refine aU<|mM R<|mA R<|aZ<|cI R F (λI=>?_) λI=>?_
  ·refine aT λae=>aU<|sQ R (fB R EU iL fR R)<|sQ R (Ja (ds:=(CR n1.Grid)) R Ix iL R R R)<|AG I λe2 af ag=>cL (ma<|af) R<|mA R<|aZ<|aT λah=>aG [1,6] [1] ?_
   refine aR<|mM R<|xU R<|aZ<|ah _<|cI R ag (λJ=>?_) λJ=>?_
   ·exact aU<|mM R<|mA R<|aZ<|Zj<|yI J R
   exact Zc<|ae _<|aU<|lF CF AI R R<|sQ R (fB R EU iL fR R)<|lF EF EH R R<|AG J λr5 ai aj=>cL (nm<|ai) R<|mA R<|aZ<|Zj<|yI aj R
  exact Zc<|aa _<|aU<|lF HG Hd R R<|AG I λr6 ak al=>cL (ib<|ak) R<|mA R<|aZ<|Zj<|yI al R
 refine AK.split (((!(l||m))&&(0<(n1.Flow.length:Int)))==false) (λq=>?_) λq=>?_
 ·have E:=EQ q T
  refine AK.weak (by exact VM (e':=[(1,.ptr 1 A 0 0),(4,rB<|(l||m)),(5,rB j),(51,rB<|(l||m)),(52,rB<|(!(l||m))),(53,rB<|(!(l||m))),(58,rB<|((!(l||m))&&(0<(n1.Flow.length:Int)))),(59,rB<|((!(l||m))&&(0<(n1.Flow.length:Int)))),(60,rB j),(61,rB<|(!j)),(62,rB<|(!j)),(63,.whn ((!j)==true)<|.ptr 1 A 0 4),(64,.whn ((!j)==true)<|.agg<|CR n1.Grid),(65,.whn ((!j)==true)<|.agg Qp)]) q ⟨.inl R,.inl R,.inl R,.inl R,.inl R,.inl R,.inl R,.inl R,.inr iL,.inr iL,.inr iL,.inr<|.inr<|.inl ⟨_,_,R,R⟩,.inr<|.inr<|.inl ⟨_,_,R,R⟩,.inr<|.inr<|.inl ⟨_,_,R,R⟩,Za⟩) ?_
  refine AK.split ((!j)==true) (λw=>?_) λw=>?_
  ·have M:=EQ w E
   refine AK.weak (by exact VM (e':=[(1,.ptr 1 A 0 0),(4,rB<|(l||m)),(5,rB j),(51,rB<|(l||m)),(52,rB<|(!(l||m))),(53,rB<|(!(l||m))),(58,rB<|((!(l||m))&&(0<(n1.Flow.length:Int)))),(59,rB<|((!(l||m))&&(0<(n1.Flow.length:Int)))),(60,rB j),(61,rB<|(!j)),(62,rB<|(!j)),(63,.ptr 1 A 0 4),(64,.agg<|CR n1.Grid),(65,.agg Qp)]) w ⟨.inl R,.inl R,.inl R,.inl R,.inl R,.inl R,.inl R,.inl R,.inl R,.inl R,.inl R,.inr iL,.inr iL,.inr iL,Za⟩) ?_
   refine AK.weak (by exact Ah.cv (e':=[(1,.ptr 1 A 0 0),(4,rB<|(l||m)),(5,rB j),(51,rB<|(l||m)),(52,rB<|(!(l||m))),(53,rB<|(!(l||m))),(58,rB<|((!(l||m))&&(0<(n1.Flow.length:Int)))),(59,rB<|((!(l||m))&&(0<(n1.Flow.length:Int)))),(60,rB j),(61,rB<|(!j)),(62,rB<|(!j)),(63,.ptr 1 A 0 4),(64,.agg<|CR n1.Grid),(65,.agg [rI 0,rI 0,.r<|.sl [],.r<|.sl []])]) (h':=[(1,some<|.box A 40<|A5 n1)]) ⟨jL,jL,jL,jL,jL,jL,jL,jL,jL,jL,jL,jL,jL,.inr ⟨_,_,R,R,⟨.inl R,.inl R,.inr<|.inr ⟨R,R⟩,.inr<|.inr ⟨R,R⟩,Za⟩⟩,Za⟩ ⟨.inl R,Za⟩ nL) ?_
   exact AG M λr7 an ao=>MV (.one R R R) w R R (Dz (r:=rB r7) (caps:=[]) (bs:=[.agg<|CR n1.Grid,.agg [rI 0,rI 0,.r<|.sl [],.r<|.sl []]]) R (.inl R) R ⟨⟨_,(.inl R),.g (cs:=[.int .i64 n1.Grid.Rows,.int .i64 n1.Grid.Cols,.sl<|n1.Grid.Cells.map Ao.row,.sl<|n1.Grid.Merges.map Ak.row]) R R⟩,⟨_,(.inl R),.g (cs:=[.int .i64 0,.int .i64 0,.sl<|[].map Ao.row,.sl<|[].map Ak.row]) R R⟩,Za⟩ (λ_=>da<|an) R)<|MV (.one R R R) w R R (AP.spec (BB R<|.inl R) _)<|MV (.one R R R) q R R (AP.spec (BS R (.inl R)<|.inl R) _)<|sQ R (CN R iL iL)<|mM R<|vF CF AI R R<|AG ao λr8 aq ar=>vL (λhg=>Sy<|Ad aq hg) R<|vQ R (BB R<|iR R)<|vQ R (AL R<|iR R)<|wQ R (fB R HG iL fR R)<|wQ R (Ab (a:=qf n1.Draw) R Hd (iR R) R R)<|wQ R (Dl R E0.slice<|iR R)<|wQ R (BU R (iR R) iL)<|vQ R (BS R (iR R)<|iR R)<|xO R<|Zh<|C _ _ wk<|J1 _ (AH [(A+1)]) (Zf ar).symm
  ·have M:=EM w E
   exact JS (.one R R R) w R R<|JS (.one R R R) w R R<|MV (.one R R R) q R R (AP.spec (BS R (.inl R)<|iR R) _)<|sQ R (CN R iL iL)<|mM R<|vF CF AI R R<|AG M λr9 au av=>vL (λhg=>Sy<|Ad au hg) R<|vQ R (BB R<|iR R)<|vQ R (AL R<|iR R)<|wQ R (fB R HG iL fR R)<|wQ R (Ab (a:=qf n1.Draw) R Hd (iR R) R R)<|wQ R (Dl R E0.slice<|iR R)<|wQ R (BU R (iR R) iL)<|vQ R (BS R (iR R)<|iR R)<|xO R<|Zh<|C _ _ wk<|J1 _ (AH [(A+1)]) (Zf av).symm
 ·have E:=EM q T
  exact JS (.two R R R) (Y7 q) R R<|JS (.two R R R) (Y7 q) R R<|JS (.one R R R) q R R<|xO R<|mM R<|vF CF AI R R<|AG E λax U aw=>vL (λhg=>Sy<|Ad U hg) R<|vQ R (BB R<|iR R)<|vQ R (AL R<|iR R)<|wQ R (fB R HG iL fR R)<|wQ R (Ab (a:=qf n1.Draw) R Hd (iR R) R R)<|wQ R (Dl R E0.slice<|iR R)<|wQ R (BU R (iR R) iL)<|vQ R (BS R (iR R)<|iR R)<|xO R<|Zh<|C _ _ wk<|J1 _ (AH [(A+1)]) (Zf aw).symm
theorem eL{q r}(h:Jj q=some r):AS prog 123 [qe q] (.r<|.sl<|r.map<|As .i64):=by
 unfold Jj at h
 refine mF func123 ntmps123 R λF=>aU<|mA R<|aZ<|aU<|mA R<|aZ<|aS λK3 c3 M=>aU<|mM R<|xL CZ R<|mM R<|aZ<|Zg<|Bd h λo1 C O=>?_
 have J1:∀(j:List Int) (I:NN),o1=j→K3 ⟨[(3,.own 5003<|I 0)],[(5003,some<|.arr (I 0) 3 1<|j.map<|As .i64)],(I 1),22⟩:=by
  intro j I e
  have h1:=O _ e
  exact c3 _<|aU<|mM R<|mA R<|aZ<|Zj<|Cb (P:=prog) (λ(r:(List Int))=>.r<|.sl<|r.map<|As .i64) h1 iL<|.t<|.one<|.own R
 refine Cw (λ(J:Int) (l:List Int) w=>⟨[(3,.own 5003<|w 0),(6,qe q),(7,rL q),(8,rI J)],[(5003,some<|.arr (w 0) 3 1<|l.map<|As .i64)],(w 1),22⟩) (AH [F,(F+1)]) C (Zw (Zw (IT 3 5003 3 1 (by decide) R)<|by exact Ah.cv (e':=[(0,qe q),(2,cZ),(3,.own 5003 F),(6,qe q),(7,rL q),(8,rI 0)]) (h':=[(5003,some<|.arr F 3 1<|([]:List Int).map<|As .i64)]) ⟨jL,jL,jL,jL,jL,jL,Za⟩ ⟨.inl R,Za⟩ nL) wk) ?_
 intro J l w v1 T U
 have h2:FK q J l=some v1:=T;unfold FK at h2
 refine aU<|xS R<|aZ<|aT λc7=>cI R h2 (λV=>?_) λV=>?_
 ·refine Zc<|c7 _<|aS λK8 c8 E=>Zg<|Bd V λp1 X Z=>?_
  have J2:∀(m:List Int) (B:NN),p1=m→K8 ⟨[(3,.own 5003<|B 0),(6,qe q),(7,rL q),(8,rI J)],[(5003,some<|.arr (B 0) 3 1<|m.map<|As .i64)],(B 1),22⟩:=by
   intro m B e
   have h4:=Z _ e
   exact c8 _<|aR<|AG h4 λx4 a0 h5=>xA R a0<|mM R<|Zh<|CU.mk h5 (AH [(B 0),(B 1)]) wk
  refine aU<|AG X λx5 a1 h6=>xI CZ R a1<|xB ((Di x5)) LK R<|sS R (BN (cs:=Rq) 5 R PM R R)<|Zl R R (A6 (ds:=(Di x5)) R Mn iL R iL R R R R)<|aZ<|aU<|lF Du AI R R<|xU R<|aZ<|cI R h6 (λh7=>?_) λh7=>?_
  ·exact aR<|mM R<|lF Du AI R R<|sS R (CG 18 R B3 (f:=(As .i64)) (l:=([x5.Ref]:List Int)) ⟨R,⟨_,iL,R⟩,Za⟩ R (λ_=>R) R)<|AG h7 λa2 A h8=>sS R (Dp R B3 iL R (.inr<|.inl ⟨_,_,iL,R⟩) A)<|mA R<|Zh<|E _ _ wk<|J2 _ (AH [((w 1)+2),((w 1)+3)]) (Zf h8).symm
  exact Zc<|E _ _ wk<|J2 _ (AH [(w 0),((w 1)+1)]) (Zf h7).symm
 exact Zm<|M _ _ wk<|J1 _ (AH [(w 0),(w 1)])<|xH U V
theorem fM{w r}(h:Kx w=some r):BH prog 123 1 [qe w] [] (λM h'=>∃(i:Nat→Nat),M=.own 1000 (i 0)∧h'=[(1000,some<|.arr (i 0) 3 1<|r.map<|As .i64)]):=by
 unfold Kx at h
 refine Em func123 R R ntmps123 (Zt R) λI=>aU<|mA R<|aZ<|aU<|mA R<|aZ<|aS λK3 c3 O=>aU<|mM R<|xL CZ R<|mM R<|aZ<|Zg<|Bd h λo1 E T=>?_
 have J1:∀(j:List Int) (l:NN),o1=j→K3 ⟨[(3,.own 5003<|l 0)],[(5003,some<|.arr (l 0) 3 1<|j.map<|As .i64)],(l 1),22⟩:=by
  intro j l e
  have h1:=T _ e
  refine c3 _<|aU<|mM R<|mA R<|aZ ?_
  exact Zj<|B9.mk (s':=⟨[(2,.own 1000<|l 1)],[(1000,some<|.arr (l 1) 3 1<|j.map<|As .i64)],((l 1)+1),22⟩) (Zw (Zw (Ah.ren 2 5003 1000 R R R)<|by exact Ah.cv (e':=[(2,.own 1000<|l 1)]) (h':=[(1000,some<|.arr (l 1) 3 1<|j.map<|As .i64)]) ⟨jL,Za⟩ ⟨.inl R,Za⟩ nL) wk)<|CX (λ(r:(List Int)) M h'=>∃(i:Nat→Nat),M=.own 1000 (i 0)∧h'=[(1000,some<|.arr (i 0) 3 1<|r.map<|As .i64)]) h1<|by exact⟨.own 1000<|l 1,[(1000,some<|.arr (l 1) 3 1<|j.map<|As .i64)],R,⟨.inr R,Za⟩,R,R,AH [(l 1)],R,R⟩
 refine Cw (λ(J:Int) (m:List Int) A=>⟨[(3,.own 5003<|A 0),(6,qe w),(7,rL w),(8,rI J)],[(5003,some<|.arr (A 0) 3 1<|m.map<|As .i64)],(A 1),22⟩) (AH [I,(I+1)]) E (Zw (Zw (IT 3 5003 3 1 (by decide) R)<|by exact Ah.cv (e':=[(0,qe w),(2,cZ),(3,.own 5003 I),(6,qe w),(7,rL w),(8,rI 0)]) (h':=[(5003,some<|.arr I 3 1<|([]:List Int).map<|As .i64)]) ⟨jL,jL,jL,jL,jL,jL,Za⟩ ⟨.inl R,Za⟩ nL) wk) ?_
 intro J m A v1 U V
 have h2:HA w J m=some v1:=U;unfold HA at h2
 refine aU<|xS R<|aZ<|aT λc7=>cI R h2 (λX=>?_) λX=>?_
 ·refine Zc<|c7 _<|aS λK8 c8 F=>Zg<|Bd X λp1 Z a0=>?_
  have J2:∀(q:List Int) (C:NN),p1=q→K8 ⟨[(3,.own 5003<|C 0),(6,qe w),(7,rL w),(8,rI J)],[(5003,some<|.arr (C 0) 3 1<|q.map<|As .i64)],(C 1),22⟩:=by
   intro q C e
   have h4:=a0 _ e
   exact c8 _<|aR<|AG h4 λx4 a1 h5=>xA R a1<|mM R<|Zh<|CU.mk h5 (AH [(C 0),(C 1)]) wk
  refine aU<|AG Z λx5 a2 h6=>xI CZ R a2<|xB ((Di x5)) LK R<|sS R (BN (cs:=Rq) 5 R PM R R)<|Zl R R (A6 (ds:=(Di x5)) R Mn iL R iL R R R R)<|aZ<|aU<|lF Du AI R R<|xU R<|aZ<|cI R h6 (λh7=>?_) λh7=>?_
  ·exact aR<|mM R<|lF Du AI R R<|sS R (CG 18 R B3 (f:=(As .i64)) (l:=([x5.Ref]:List Int)) ⟨R,⟨_,iL,R⟩,Za⟩ R (λ_=>R) R)<|AG h7 λa6 B h8=>sS R (Dp R B3 iL R (.inr<|.inl ⟨_,_,iL,R⟩) B)<|mA R<|Zh<|F _ _ wk<|J2 _ (AH [((A 1)+2),((A 1)+3)]) (Zf h8).symm
  exact Zc<|F _ _ wk<|J2 _ (AH [(A 0),((A 1)+1)]) (Zf h7).symm
 exact Zm<|O _ _ wk<|J1 _ (AH [(A 0),(A 1)])<|xH V X
theorem na{n1 r}(h:H1 n1=some r):AS prog 88 (JP n1) (.r<|.sl<|r.map<|As .i64):=by
 unfold H1 at h
 refine mF func88 ntmps88 R λn0=>aU<|sS R (BC (cs:=(A5 n1)) 1 R iL R R)<|mA R<|aZ<|aT λc2=>aR<|lF FI FP R R<|AG h λw1 I h1=>?_
 refine ZA [8] (hc:=[]) (bs:=[qe n1.Flow]) (caps:=[]) R R R R iL R ⟨.inl ⟨iL,R⟩,Za⟩ Za (by decide) (fM I) ?_
 intro i1 n2
 refine Bm [0,1,2,6,7,8] [1,8] ?_
 refine mA R<|aZ<|c2 _<|aS λK3 c3 J=>aU<|sQ R (fB R EU iL fR R)<|lF EF EH R R<|xL B2 R<|mM R<|aZ<|Zg<|Bd h1 λo1 B M=>?_
 have J1:∀(j:List Int) (E:NN),o1=j→K3 ⟨[(3,.own 8<|E 0)],[(8,some<|.arr (E 0) 3 1<|j.map<|As .i64)],(E 1),27⟩:=by
  intro j E e
  have h2:=M _ e
  exact c3 _<|aU<|mM R<|mA R<|aZ<|Zj<|Cb (P:=prog) (λ(r:(List Int))=>.r<|.sl<|r.map<|As .i64) h2 iL<|.t<|.one<|.own R
 refine Cw (λ(F:Int) (l:List Int) q=>⟨[(3,.own 8<|q 0),(11,qc n1.Grid.Cells),(12,rL n1.Grid.Cells),(13,rI F)],[(8,some<|.arr (q 0) 3 1<|l.map<|As .i64)],(q 1),27⟩) (AH [(i1 0),n2]) B wk ?_
 intro F l q v1 O T
 have h3:Ee n1 F l=some v1:=O;unfold Ee at h3
 refine aU<|xS R<|aZ<|aT λc7=>cI R h3 (λU=>?_) λU=>?_
 ·refine Zc<|c7 _<|aS λK8 c8 C=>Zg<|Bd U λp1 V X=>?_
  have J2:∀(m:List Int) (A:NN),p1=m→K8 ⟨[(3,.own 8<|A 0),(11,qc n1.Grid.Cells),(12,rL n1.Grid.Cells),(13,rI F)],[(8,some<|.arr (A 0) 3 1<|m.map<|As .i64)],(A 1),27⟩:=by
   intro m A e
   have h5:=X _ e
   exact c8 _<|aR<|AG h5 λx4 Z h6=>xA R Z<|mM R<|Zh<|CU.mk h6 (AH [(A 0),(A 1)]) wk
  refine aU<|AG V λx5 a0 h7=>xI B2 R a0<|xB ((Bg x5)) E7 R<|sS R (BN (cs:=IA) 5 R Hg R R)<|Zl R R (A6 (ds:=(Bg x5)) R IN iL R iL R R R R)<|aZ<|aU<|lF EO AI R R<|xU R<|aZ<|cI R h7 (λh8=>?_) λh8=>?_
  ·exact aR<|mM R<|lF EO AI R R<|sS R (CG 23 R B3 (f:=(As .i64)) (l:=([x5.Ref]:List Int)) ⟨R,⟨_,iL,R⟩,Za⟩ R (λ_=>R) R)<|AG h8 λa1 w h9=>sS R (Dp R B3 iL R (.inr<|.inl ⟨_,_,iL,R⟩) w)<|mA R<|Zh<|C _ _ wk<|J2 _ (AH [((q 1)+2),((q 1)+3)]) (Zf h9).symm
  exact Zc<|C _ _ wk<|J2 _ (AH [(q 0),((q 1)+1)]) (Zf h8).symm
 exact Zm<|J _ _ wk<|J1 _ (AH [(q 0),(q 1)])<|xH T U
theorem eE{j v1 r}(h:RR j v1=some r):AS prog 166 [.r<|.sl<|j.map<|As .i64,rI v1] (rI r):=by
 unfold RR at h
 refine mF func166 ntmps166 R λX=>aU<|mA R<|aZ<|aS λZ c2 w=>aU<|mM R<|xL B3 R<|mM R<|aZ<|Zg<|BV h λo1 l A B=>?_
 have J1:∀(T:Unit) (U:NN),o1=.nrm T→Z ⟨[],[],(U 0),19⟩:=by
  intro T U e
  have h1:=A _ e
  exact c2 _<|zI h1 R id
 refine Zu (λ(C:Int) q=>⟨[(0,.r<|.sl<|j.map<|As .i64),(1,rI v1),(7,rL j),(8,rI C)],[],(q 0),19⟩) (AH [X]) l wk ?_
 intro C q v2 E m
 have V:OK j v1 C=some v2:=E;unfold OK at V
 refine aU<|xS R<|aZ<|aT λc6=>cI R V (λF=>?_) λF=>?_
 ·refine Zc<|c6 _<|aT λc7=>Zg<|aU<|mM R<|mA R<|aZ<|aU<|mM R<|mM R<|mM R<|AG F λx4 I h4=>xI B3 R I<|xV (.int .i64 x4) AI R<|xQ R<|aZ<|cI R h4 (λJ=>?_) λJ=>?_
  ·refine aT λM=>aF [5] ?_
   exact aR<|mM R<|mA R<|aZ<|M _<|Zj<|yI (B _<|xH m J) R
  refine Zc<|c7 _<|aF [0,1,7,8] ?_
  exact aR<|AG J λx5 O h6=>xA R O<|mM R<|Zh<|Zr h6 (AH [(q 0)]) wk
 exact Zm<|w _ _ wk<|J1 _ (AH [(q 0)])<|xH m F
theorem o9{l v1 r}(h:L8 l v1=some r):AS prog 107 [.r<|.sl<|l.map<|As .i64,rI v1] (rB r):=by
 unfold L8 at h
 exact mF func107 ntmps107 R λq=>aU<|mA R<|aZ<|aU<|mM R<|mM R<|AG h λw j m=>cL (eE<|j) R<|sQ R (Cq R iL iL)<|mA R<|aZ<|Zj<|yB m R
theorem gG{p k r}(h:OH p k=some r):AS prog 145 [rI p,rI k] (rB r):=by
 unfold OH at h
 refine mF func145 ntmps145 R λC=>aU<|mA R<|aZ<|aU<|mA R<|aZ<|aS λK3 c3 j=>aU<|mM R<|aZ<|Zg<|Bd h λp1 E J=>?_
 have l:∀(M:List Int) (i1:NN),p1=M→K3 ⟨[(1,rI k),(5,.r<|.sl<|M.map<|As .i64)],[],(i1 0),29⟩:=by
  intro M i1 e
  have h1:=J _ e
  exact c3 _<|aU<|mM R<|mM R<|AG h1 λr1 O h2=>cL (o9<|O) R<|mA R<|aZ<|Zj<|yB h2 R
 refine aU<|xQ R<|mA R<|aZ<|aC R (λm=>?_) λm=>?_
 ·have T:=EQ m E
  refine aR<|sS R (CG 9 R B3 (f:=(As .i64)) (l:=([1,6,7,10,11,12]:List Int)) ⟨R,⟨_,iL,R⟩,R,⟨_,iL,R⟩,R,⟨_,iL,R⟩,R,⟨_,iL,R⟩,R,⟨_,iL,R⟩,R,⟨_,iL,R⟩,Za⟩ R (λ_=>R) R)<|mA R<|Zh ?_
  exact j _ _ (Zw (by exact Ah.frz (e':=[(0,rI p),(1,rI k),(4,rB false),(5,.r<|.sl<|[1,6,7,10,11,12].map<|As .i64),(6,rI p),(7,rB<|(decide<|p=0)),(8,rB<|(decide<|p=0)),(9,.r<|.sl<|[1,6,7,10,11,12].map<|As .i64)]) (h':=[]) 9 R ⟨jL,jL,jL,.inl<|.inr<|.inr ⟨R,R⟩,jL,jL,jL,.inl<|.inr<|.inr ⟨R,R⟩,Za⟩ Za) wk)<|l _ (AH [(C+1)]) (Zf T).symm
 ·have T:=EM m E
  refine aU<|xQ R<|mA R<|aZ<|cI R T (λU=>?_) λU=>?_
  ·refine aR<|sS R (CG 12 R B3 (f:=(As .i64)) (l:=([2,4,5,10]:List Int)) ⟨R,⟨_,iL,R⟩,R,⟨_,iL,R⟩,R,⟨_,iL,R⟩,R,⟨_,iL,R⟩,Za⟩ R (λ_=>R) R)<|mA R<|Zh ?_
   exact j _ _ (Zw (by exact Ah.frz (e':=[(0,rI p),(1,rI k),(4,rB false),(5,.r<|.sl<|[2,4,5,10].map<|As .i64),(6,rI p),(7,rB<|(decide<|p=0)),(8,rB<|(decide<|p=0)),(10,rB<|(decide<|p=1)),(11,rB<|(decide<|p=1)),(12,.r<|.sl<|[2,4,5,10].map<|As .i64)]) (h':=[]) 12 R ⟨jL,jL,jL,.inl<|.inr<|.inr ⟨R,R⟩,jL,jL,jL,jL,jL,.inl<|.inr<|.inr ⟨R,R⟩,Za⟩ Za) wk)<|l _ (AH [(C+1)]) (Zf U).symm
  refine aU<|xQ R<|mA R<|aZ<|cI R U (λV=>?_) λV=>?_
  ·refine aF [1] ?_
   refine aR<|sS R (CG 15 R B3 (f:=(As .i64)) (l:=([4,5,10]:List Int)) ⟨R,⟨_,iL,R⟩,R,⟨_,iL,R⟩,R,⟨_,iL,R⟩,Za⟩ R (λ_=>R) R)<|mA R<|Zh ?_
   exact j _ _ (Zw (by exact Ah.frz (e':=[(1,rI k),(5,.r<|.sl<|[4,5,10].map<|As .i64),(15,.r<|.sl<|[4,5,10].map<|As .i64)]) (h':=[]) 15 R ⟨jL,.inl<|.inr<|.inr ⟨R,R⟩,.inl<|.inr<|.inr ⟨R,R⟩,Za⟩ Za) wk)<|l _ (AH [(C+1)]) (Zf V).symm
  refine aS λK9 c9 F=>aU<|xQ R<|mA R<|aZ<|Bd V λp2 I X=>?_
  have J2:∀(A:Bool) (B:NN),p2=A→K9 ⟨[(1,rI k),(5,cZ),(6,rI p),(16,rB A)],[],(B 0),29⟩:=by
   intro A B e
   have h6:=X _ e
   refine c9 _<|cI R h6 (λZ=>?_) λZ=>?_
   ·refine aR<|sS R (CG 19 R B3 (f:=(As .i64)) (l:=([5]:List Int)) ⟨R,⟨_,iL,R⟩,Za⟩ R (λ_=>R) R)<|mA R<|Zh ?_
    exact j _ _ (Zw (by exact Ah.frz (e':=[(1,rI k),(5,.r<|.sl<|[5].map<|As .i64),(6,rI p),(16,rB A),(19,.r<|.sl<|[5].map<|As .i64)]) (h':=[]) 19 R ⟨jL,.inl<|.inr<|.inr ⟨R,R⟩,jL,jL,.inl<|.inr<|.inr ⟨R,R⟩,Za⟩ Za) wk)<|l _ (AH [((B 0)+1)]) (Zf Z).symm
   refine aU<|xQ R<|mA R<|aZ<|cI R Z (λh8=>?_) λh8=>?_
   ·refine aR<|sS R (CG 22 R B3 (f:=(As .i64)) (l:=([3]:List Int)) ⟨R,⟨_,iL,R⟩,Za⟩ R (λ_=>R) R)<|mA R<|Zh ?_
    exact j _ _ (Zw (by exact Ah.frz (e':=[(1,rI k),(5,.r<|.sl<|[3].map<|As .i64),(6,rI p),(16,rB A),(20,rB<|(decide<|p=2)),(21,rB<|(decide<|p=2)),(22,.r<|.sl<|[3].map<|As .i64)]) (h':=[]) 22 R ⟨jL,.inl<|.inr<|.inr ⟨R,R⟩,jL,jL,jL,jL,.inl<|.inr<|.inr ⟨R,R⟩,Za⟩ Za) wk)<|l _ (AH [((B 0)+1)]) (Zf h8).symm
   refine aU<|xQ R<|mA R<|aZ<|cI R h8 (λh9=>?_) λh9=>?_
   ·refine aR<|sS R (CG 25 R B3 (f:=(As .i64)) (l:=([8,9]:List Int)) ⟨R,⟨_,iL,R⟩,R,⟨_,iL,R⟩,Za⟩ R (λ_=>R) R)<|mA R<|Zh ?_
    exact j _ _ (Zw (by exact Ah.frz (e':=[(1,rI k),(5,.r<|.sl<|[8,9].map<|As .i64),(6,rI p),(16,rB A),(20,rB<|(decide<|p=2)),(21,rB<|(decide<|p=2)),(23,rB<|(decide<|p=7)),(24,rB<|(decide<|p=7)),(25,.r<|.sl<|[8,9].map<|As .i64)]) (h':=[]) 25 R ⟨jL,.inl<|.inr<|.inr ⟨R,R⟩,jL,jL,jL,jL,jL,jL,.inl<|.inr<|.inr ⟨R,R⟩,Za⟩ Za) wk)<|l _ (AH [((B 0)+1)]) (Zf h9).symm
   refine Zc ?_
   exact j _ _ ((by exact Ah.cv ⟨jL,.inl<|.inr<|.inr ⟨R,R⟩,Za⟩ Za nL))<|l _ (AH [(B 0)]) (Zf h9).symm
  refine aC R (λq=>?_) λq=>?_
  ·have w:=EQ q I
   exact Zc<|F _ _ wk<|J2 _ (AH [C]) (Zf w).symm
  ·have w:=EM q I
   refine aF [1,5,6] ?_
   exact aR<|xQ R<|mA R<|Zh<|F _ _ wk<|J2 _ (AH [C]) (Zf w).symm
theorem hO{d1 k a r}(h:Hb d1 k a=some r):AS prog 87 [.agg [qb d1.Nodes],rI k,.r<|.sl<|a.map<|As .i64] (rI r):=by
 unfold Hb at h
 refine mF func87 ntmps87 R λw=>aU<|sS R (BC (cs:=[qb d1.Nodes]) 3 R iL R R)<|mA R<|aZ<|aS λK2 c2 A=>aU<|mM R<|xL B3 R<|mM R<|aZ<|Zg<|BV h λo1 l B m=>?_
 have J1:∀(u2:Unit) (i5:NN),o1=.nrm u2→K2 ⟨[],[],(i5 0),35⟩:=by
  intro u2 i5 e
  have h1:=B _ e
  exact c2 _<|zI h1 R id
 refine Zu (λ(C:Int) q=>⟨[(1,rI k),(3,.ptr 3 w 0 0),(11,.r<|.sl<|a.map<|As .i64),(12,rL a),(13,rI C)],[(3,some<|.box w 24 [qb d1.Nodes])],(q 0),35⟩) (AH [(w+1)]) l wk ?_
 intro C q v1 E j
 have h2:IL d1 k a C=some v1:=E;unfold IL at h2
 refine aU<|xS R<|aZ<|aT λc6=>cI R h2 (λF=>?_) λF=>?_
 ·refine Zc<|c6 _<|aT λc7=>Zg<|aU<|AG F λx4 I h4=>xI B3 R I<|xV (.int .i64 x4) AI R<|mA R<|aZ<|aU<|xC CV R<|mM R<|FY h4 λr1 r2 J h5=>cL (QD<|J) R<|mM R<|xX R<|xX R<|mA R<|mA R<|aZ<|aT λM=>aT λO=>aG [1,3,9,10,11,12,13] [3] ?_
  refine aR<|mM R<|sQ R (BB R iL)<|aZ<|O _<|cI R h5 (λT=>?_) λT=>?_
  ·exact zI (m _<|xH j T) R id
  refine Zc<|M _<|aU<|mM R<|lF CD CJ R R<|mM R<|AG T λx5 U h7=>xI Bs R U<|sQ R (BI R CF iL)<|xV (.int .i64 x5.Kind) AI R<|AG h7 λr3 V h8=>cL (gG<|V) R<|sQ R (BB R iL)<|aZ<|cI R h8 (λX=>?_) λX=>?_
  ·exact zI (m _<|xH j X) R id
  refine Zc<|c7 _<|aG [1,3,11,12,13] [3] ?_
  exact aR<|AG X λx6 Z a0=>xA R Z<|mM R<|Zh<|Zr a0 (AH [(q 0)]) wk
 exact Zm<|A _ _ wk<|J1 _ (AH [(q 0)])<|xH j F
theorem fX{d1 r}(h:E9 d1=some r):AS prog 48 [.agg [qb d1.Nodes]] (rI r):=by
 unfold E9 at h
 refine mF func48 ntmps48 R λl=>aU<|sS R (BC (cs:=[qb d1.Nodes]) 1 R iL R R)<|mA R<|aZ<|aT λc2=>aU<|lF CD CJ R R<|xL Bs R<|xQ R<|aZ<|cI R h (λX=>?_) λX=>?_
 ·exact zI X R id
 refine Zc<|c2 _<|aS λK5 c5 Z=>aU<|lF CD CJ R R<|xL Bs R<|mM R<|aZ<|Zg<|BV X λo1 B a0 C=>?_
 have J1:∀(u2:Unit) (i5:NN),o1=.nrm u2→K5 ⟨[(1,.ptr 1 l 0 0)],[(1,some<|.box l 24 [qb d1.Nodes])],(i5 0),67⟩:=by
  intro u2 i5 e
  have h2:=a0 _ e
  refine c5 _<|aS λK7 c7 a1=>aU<|lF CD CJ R R<|xL Bs R<|mM R<|aZ<|Zg<|BV h2 λo2 E a2 a6=>?_
  have J2:∀(u4:Unit) (F:NN),o2=.nrm u4→K7 ⟨[],[],(F 0),67⟩:=by
   intro u4 F e
   have h3:=a2 _ e
   exact c7 _<|zI h3 R id
  refine Zu (λ(x5:Int) i8=>⟨[(1,.ptr 1 l 0 0),(51,qb d1.Nodes),(52,rL d1.Nodes),(53,rI x5)],[(1,some<|.box l 24 [qb d1.Nodes])],(i8 0),67⟩) (AH [(i5 0)]) E wk ?_
  intro x5 i8 v1 a7 I
  have h4:Gr d1 x5=some v1:=a7;unfold Gr at h4
  refine aU<|xS R<|aZ<|aT λa8=>cI R h4 (λh5=>?_) λh5=>?_
  ·refine Zc<|a8 _<|aT λaa=>Zg<|aU<|AG h5 λj ab h6=>xI Bs R ab<|xB ((A5 j)) ER R<|sS R (BN (cs:=FF) 7 R I2 R R)<|Zl R R (A6 (ds:=(A5 j)) R IM iL R iL R R R R)<|aZ<|aT λac=>AG h6 λr1 ad h7=>?_
   refine rP 5 [pO 57<|.agg [qb d1.Nodes],pO 58<|.ptr 7 (i8 0) 0 1,pO 59<|rI j.Kind,pO 60<|.agg<|A5 j,pO 61<|.r<|.sl<|r1.map<|As .i64] BZ R (by exact⟨oB [(1,.ptr 1 l 0 0)] [(1,some<|.box l 24 [qb d1.Nodes])]<|Dr R CV (.inl R) R R,oB [(7,.ptr 7 (i8 0) 0 0)] [(7,some<|.box (i8 0) 40<|A5 j)]<|fB R CF (.inl R) (λ_=>R) R,oB [(58,.ptr 7 (i8 0) 0 1)] [(7,some<|.box (i8 0) 40<|A5 j)]<|Ab (a:=rI j.Kind) R AI (.inl R) R R,oB [(7,.ptr 7 (i8 0) 0 0)] [(7,some<|.box (i8 0) 40<|A5 j)]<|Dr R ER (.inl R) R R,oD (λ_=>[(60,.agg<|A5 j)]) (λ_=>[]) λG1 e h' n=>EA (r:=.r<|.sl<|r1.map<|As .i64) (caps:=[]) (bs:=(JP j)) R (.inl R) R ⟨.inl ⟨(.inl R),R⟩,Za⟩ λ_=>na<|ad,Za⟩) λG1 n1=>?_
   refine Bm [1,7,51,52,53,54,55,56,57,58,59,60,61] [1,7] ?_
   refine AG h7 λe1 ae h8=>cL (hO<|ae) R<|mA R<|aZ<|ac _<|aT λaf=>aG [1,8,51,52,53] [1] ?_
   refine aR<|mM R<|xU R<|aZ<|af _<|cI R h8 (λh9=>?_) λh9=>?_
   ·exact aU<|mM R<|mA R<|aZ<|Zj<|yI (a6 _<|xH I h9) R
   exact Zc<|aa _<|aR<|AG h9 λx8 ag ah=>xA R ag<|mM R<|Zh<|Zr ah (AH [n1]) wk
  exact Zm<|a1 _ _ wk<|J2 _ (AH [(i8 0)])<|xH I h5
 refine Zu (λ(x2:Int) U=>⟨[(1,.ptr 1 l 0 0),(14,qb d1.Nodes),(15,rL d1.Nodes),(16,rI x2)],[(1,some<|.box l 24 [qb d1.Nodes])],(U 0),67⟩) (AH [(l+1)]) B wk ?_
 intro x2 U v2 ai m
 have J:Ez d1 x2=some v2:=ai;unfold Ez at J
 refine aU<|xS R<|aZ<|aT λaj=>cI R J (λq=>?_) λq=>?_
 ·refine Zc<|aj _<|aT λak=>Zg<|aU<|mM R<|AG q λV al an=>xI Bs R al<|xB ((A5 V)) ER R<|sS R (BN (cs:=FF) 4 R I2 R R)<|mA R<|Zl R R (A6 (ds:=(A5 V)) R IM iL R iL R R R R)<|aZ<|aT λao=>aU<|xC ER R<|AG an λe2 aq ar=>cL (iJ<|aq) R<|mA R<|aZ<|aU<|mM R<|xU R<|aZ<|cI R ar (λw=>?_) λw=>?_
  ·refine aT λau=>aF [5] ?_
   exact aR<|mM R<|mA R<|aZ<|au _<|Zj<|yI (C _<|xH m w) R
  refine Zc<|ao _<|aT λav=>aG [1,3,4,14,15,16] [1,4] ?_
  refine Zz BZ (by kernel_rfl) ?_
  refine qP R (AL R iL)<|qP R (BE R iL iL)<|qP R (AL R iL)<|qO R (fB R En iL fR R)<|qO R (Ab (a:=rI V.ID) R AI (iR R) R R)<|qO R (C0 R (iR R) iL)<|qP R (BS R iL<|iR R)<|qP R (AL R iL)<|qO R (AL R iL)<|qO R (BU R (iR R) iL)<|qO R (AL R<|iR R)<|qT R (fB R En iL fR R)<|qT R (Ab (a:=rI V.ID) R AI (iR R) R R)<|qT R (fB R CD iL fR R)<|qT R (Ab (a:=qb d1.Nodes) R CJ (iR R) R R)<|qT R (AL R iL)<|AG w λb0 M aw=>qT R (CS R (iR R) iL<|Ad M)<|AG aw λax O ay=>qT R (BK R Bs.slice (iR R) (iR R) (λ_=>R)<|Ad O)<|qT R (BI R En<|iR R)<|qT R (Bj (d:=.int .i64 ax.ID) R AI (iR R) R)<|qT R (Ei R (iR R)<|iR R)<|qO R (BS R (iR R)<|iR R)<|qP R (CN R iL<|iR R)<|AQ.nil<|av _<|cI R ay (λA=>?_) λA=>?_
  ·exact zI (C _<|xH m A) R id
  exact Zc<|ak _<|aR<|AG A λb1 T az=>xA R T<|mM R<|Zh<|Zr az (AH [((U 0)+1)]) wk
 exact Zm<|Z _ _ wk<|J1 _ (AH [(U 0)])<|xH m q
theorem fW{B:List (List RV)→Option Bool}{m:List (List RV)}{v1:Am}{r:Bool × (List<|List RV)}{l:Nat}{j:Nat}{q:Ej}(h:F9 B m v1=some r)(C:q.P=prog∧q.A=B):BH prog 71 2 [.agg<|FC v1,.ptr 1000 l 0 0] [(1000,some<|.box l 141 [.yld 1001 j]),(1001,some<|.cal j q m)] (λw h'=>∃(i:Nat→Nat),w=rB r.1∧h'=[(1000,some<|.box l 141 [.yld 1001 j]),(1001,some<|.cal j q r.2)]):=by
 unfold F9 at h
 refine Em func71 R R ntmps71 (Zt R) λF=>aU<|sS R (BC (cs:=(FC v1)) 2 R iL R R)<|mA R<|aZ<|aT λI=>aV<|BR.step R R R (AP.spec (Ab (a:=.yld 1001 j) R gI (.inl R) R R) _)<|BR.step R R R (AP.spec (fB R Kp (.inl R) fR R) _)<|BR.step R R R (AP.spec (Ab (a:=rI v1.id) R AI (.inl R) R R) _)<|BR.step R R R (AP.spec (fB R eS (.inl R) fR R) _)<|BR.step R R R (AP.spec (Ab (a:=rI v1.parent) R AI (.inl R) R R) _)<|AG h λE A J=>?_
 refine BR.stepC (W:=q) (y:=[.int .i64 v1.id,.int .i64 v1.parent]) C.1 R R R R (.inl R) ⟨(.inl R),(.inl R),Za⟩ R R (by rw[C.2];exact A) ?_
 refine BR.step R R R (AP.spec (D7 R<|.inl R) _)<|BR.nil<|I _ ?_
 exact Zj<|B9.mk (s':=⟨[(3,rB E)],[(1000,some<|.box l 141 [.yld 1001 j]),(1001,some<|.cal j q<|m++[[.int .i64 v1.id,.int .i64 v1.parent]])],(F+1),10⟩) wk<|CX (λ(r:Bool × (List<|List RV)) w h'=>∃(i:Nat→Nat),w=rB r.1∧h'=[(1000,some<|.box l 141 [.yld 1001 j]),(1001,some<|.cal j q r.2)]) J<|by exact⟨rB E,[(1000,some<|.box l 141 [.yld 1001 j]),(1001,some<|.cal j q<|m++[[.int .i64 v1.id,.int .i64 v1.parent]])],R,⟨.inr R,.inr R,Za⟩,R,R,AH [],R,R⟩
theorem em{m b c r}(h:HR m b c=some r):AS prog 124 [.agg<|CR m,rI b,rI c] (.agg<|Ay r):=by
 unfold HR at h
 refine mF func124 ntmps124 R λj=>aU<|sS R (BC (cs:=(CR m)) 3 R iL R R)<|sS R (BN (cs:=Fd) 6 R II R R)<|aZ<|aT λc2=>aR<|mM R<|mM R ?_
 refine sQ R (DL R Xj (q:=[(0,_),(1,_),(2,_),(3,_)]) (by exact⟨R,R,R,iL,R,R,R,iL,R,R,R,iL,R,R,R,iL,Za⟩) (cs:=[rI b,rI c,rI 1,rI 1])<|by rfl) ?_
 refine sS R (BN (cs:=Fd) 7 R II R R)<|Zl R R (A6 (ds:=[rI b,rI c,rI 1,rI 1]) R GG iL R iL R R R R)<|aZ<|c2 _<|aS λK3 c3 B=>aU<|lF EN Eb R R<|xL DD R<|mM R<|aZ<|Zg<|BV h λo1 q C E=>?_
 have J1:∀(u2:Unit) (i5:NN),o1=.nrm u2→K3 ⟨[(6,.ptr 6 (j+1) 0 0),(7,.ptr 7 (j+2) 0 0)],[(6,some<|.box (j+1) 154 Fd),(7,some<|.box (j+2) 154 [rI b,rI c,rI 1,rI 1])],(i5 0),51⟩:=by
  intro u2 i5 e
  have h1:=C _ e
  exact c3 _<|aU<|xC DP R<|Zl R R (A6 (ds:=[rI b,rI c,rI 1,rI 1]) R GG iL R iL R R R R)<|aZ<|Zj<|Cb (P:=prog) (λ(r:Ak)=>.agg<|Ay r) h1 iL<|.a DP R R R<|.g (cs:=[.int .i64 b,.int .i64 c,.int .i64 1,.int .i64 1]) R R
 refine Zu (λ(F:Int) A=>⟨[(1,rI b),(2,rI c),(6,.ptr 6 (j+1) 0 0),(7,.ptr 7 (j+2) 0 0),(14,qd m.Merges),(15,rL m.Merges),(16,rI F)],[(6,some<|.box (j+1) 154 Fd),(7,some<|.box (j+2) 154 [rI b,rI c,rI 1,rI 1])],(A 0),51⟩) (AH [(j+3)]) q wk ?_
 intro F A v1 I w
 have h2:It m b c F=some v1:=I;unfold It at h2
 refine aU<|xS R<|aZ<|aT λc7=>cI R h2 (λJ=>?_) λJ=>?_
 ·refine Zc<|c7 _<|aT λc8=>Zg<|aU<|AG J λl M h4=>xI DD R M<|xB ((Ay l)) DP R<|sS R (BN (cs:=Fd) 9 R II R R)<|Zl R R (A6 (ds:=(Ay l)) R GG iL R iL R R R R)<|aZ<|aT λO=>aR<|mM R<|lF Ca AI R R<|sQ R (Cq R iL iL)<|mM R<|vM R<|vF Ca AI R R<|AG h4 λx5 T h5=>vQ R (CS R (iR R) (iR R)<|Ad T)<|vF Gg AI R R<|vQ R (Bu R (iR R)<|iR R)<|xN R<|mM R<|vM R<|vF DG AI R R<|vQ R (Cq R (iR R)<|iR R)<|xN R<|mM R<|vM R<|vF DG AI R R<|AG h5 λx6 U h6=>vQ R (CS R (iR R) (iR R)<|Ad U)<|vF F7 AI R R<|vQ R (Bu R (iR R)<|iR R)<|xN R<|aZ<|O _<|cI R h6 (λV=>?_) λV=>?_
  ·refine aT λX=>aG [6,9] [6,9] ?_
   exact aR<|xC DP R<|Zl R R (A6 (ds:=(Ay l)) R GG iL R iL R R R R)<|aZ<|X _<|Zj<|Cb (P:=prog) (λ(r:Ak)=>.agg<|Ay r) (E _<|xH w V) iL<|.a DP R R R<|.g (cs:=[.int .i64 l.Row,.int .i64 l.Col,.int .i64 l.H,.int .i64 l.W]) R R
  refine Zc<|c8 _<|aG [1,2,6,7,14,15,16] [6,7] ?_
  exact aR<|AG V λx7 Z h8=>xA R Z<|mM R<|Zh<|Zr h8 (AH [((A 0)+1)]) wk
 exact Zm<|B _ _ wk<|J1 _ (AH [(A 0)])<|xH w J
theorem Tj{w:List AE}{A:AE}{B:AE}{r:(List AE)}{j:Nat}{l:Nat}(h:Kf w A B=some r):BH prog 184 2 [.agg<|B6 A,.agg<|B6 B,.ptr 1000 j 0 0] [(1000,some<|.box j 32 [.own 1001 l]),(1001,some<|.arr l 91 2<|w.map AE.row)] (λq h'=>∃(i:Nat→Nat),q=.tup []∧h'=[(1000,some<|.box j 32 [.own 1001<|i 0]),(1001,some<|.arr (i 0) 91 2<|r.map AE.row)]):=by
 unfold Kf at h
 refine Em func184 R R ntmps184 (Zt R) λm=>aU<|sS R (BC (cs:=(B6 A)) 3 R iL R R)<|sS R (BC (cs:=(B6 B)) 4 R iL R R)<|aZ<|Zg<|aU<|lF ES A9 R R<|sQ R (D3 R iL iL)<|mA R<|aZ<|cI R h (λC=>?_) λC=>?_
 ·refine aR<|sQ R (Ab (a:=.own 1001 l) R Ci iL R R)<|xC Ec R<|sS R (CG 11 R BD (f:=AE.row) (l:=([A]:List AE)) ⟨R,⟨_,iL,R⟩,Za⟩ R (λ_=>R) R)<|AG C λJ E O=>sS R (Dp R BD iL R (.inr<|.inl ⟨_,_,iL,R⟩) E)<|Zl R R (A6 (ds:=[.own 1001<|m+3]) R Ks iL R iL R R R R)<|Zh ?_
  exact B9.mk (s':=⟨[],[(1000,some<|.box j 32 [.own 1001<|m+3]),(1001,some<|.arr (m+3) 91 2<|J.map AE.row)],(m+4),21⟩) wk<|CX (λ(r:(List AE)) q h'=>∃(i:Nat→Nat),q=.tup []∧h'=[(1000,some<|.box j 32 [.own 1001<|i 0]),(1001,some<|.arr (i 0) 91 2<|r.map AE.row)]) O<|by exact⟨.tup [],[(1000,some<|.box j 32 [.own 1001<|m+3]),(1001,some<|.arr (m+3) 91 2<|J.map AE.row)],⟨_,R,Za⟩,⟨.inr R,.inr R,Za⟩,R,R,AH [(m+3)],R,R⟩
 refine aU<|lF JD A9 R R<|sQ R (Dt R iL iL)<|mA R<|aZ<|cI R C (λF=>?_) λF=>?_
 ·refine aG [2,4] [4,1000,1001] ?_
  refine aR<|sQ R (Ab (a:=.own 1001 l) R Ci iL R R)<|xC Ec R<|sS R (CG 19 R BD (f:=AE.row) (l:=([B]:List AE)) ⟨R,⟨_,iL,R⟩,Za⟩ R (λ_=>R) R)<|AG F λM I T=>sS R (Dp R BD iL R (.inr<|.inl ⟨_,_,iL,R⟩) I)<|Zl R R (A6 (ds:=[.own 1001<|m+3]) R Ks iL R iL R R R R)<|Zh ?_
  exact B9.mk (s':=⟨[],[(1000,some<|.box j 32 [.own 1001<|m+3]),(1001,some<|.arr (m+3) 91 2<|M.map AE.row)],(m+4),21⟩) wk<|CX (λ(r:(List AE)) q h'=>∃(i:Nat→Nat),q=.tup []∧h'=[(1000,some<|.box j 32 [.own 1001<|i 0]),(1001,some<|.arr (i 0) 91 2<|r.map AE.row)]) T<|by exact⟨.tup [],[(1000,some<|.box j 32 [.own 1001<|m+3]),(1001,some<|.arr (m+3) 91 2<|M.map AE.row)],⟨_,R,Za⟩,⟨.inr R,.inr R,Za⟩,R,R,AH [(m+3)],R,R⟩
 refine Zc ?_
 exact B9.mk (s':=⟨[],[(1000,some<|.box j 32 [.own 1001 l]),(1001,some<|.arr l 91 2<|w.map AE.row)],(m+2),21⟩) wk<|CX (λ(r:(List AE)) q h'=>∃(i:Nat→Nat),q=.tup []∧h'=[(1000,some<|.box j 32 [.own 1001<|i 0]),(1001,some<|.arr (i 0) 91 2<|r.map AE.row)]) F<|by exact⟨.tup [],[(1000,some<|.box j 32 [.own 1001 l]),(1001,some<|.arr l 91 2<|w.map AE.row)],⟨_,R,Za⟩,⟨.inr R,.inr R,Za⟩,R,R,AH [l],R,R⟩
theorem io{c1:List AE}{B:List AE}{C:List AE}{r:(List AE)}{j:Nat}{l:Nat}(h:Nh c1 B C=some r):BH prog 183 2 [qa B,qa C,.fn 184 [.ptr 1000 j 0 0]] [(1000,some<|.box j 32 [.own 1001 l]),(1001,some<|.arr l 91 2<|c1.map AE.row)] (λE h'=>∃(i:Nat→Nat),E=.tup []∧h'=[(1000,some<|.box j 32 [.own 1001<|i 0]),(1001,some<|.arr (i 0) 91 2<|r.map AE.row)]):=by
 unfold Nh at h
 refine Em func183 R R ntmps183 (Zt R) λn0=>aU<|mA R<|mA R<|aZ<|Zg<|BV h λo4 w av F=>JU (λ(I:Int) (J:Int) (o2:List AE) m=>⟨[(0,qa B),(1,qa C),(2,.fn 184 [.ptr 1000 j 0 0]),(6,rI I),(7,rI J)],[(1000,some<|.box j 32 [.own 1001<|m 0]),(1001,some<|.arr (m 0) 91 2<|o2.map AE.row)],(m 1),92⟩) (AH [l,n0]) w wk ?_
 intro I J o2 m v1 M O
 have h1:OZ B C I J o2=some v1:=M;unfold OZ at h1
 refine aT λC2=>aU<|mM R<|mM R<|xL BD R<|xS R<|mM R<|vM R<|vM R<|vQ R (Dl R BD.slice<|iR R)<|vQ R (Bu R (iR R)<|iR R)<|xO R<|aZ<|cI R h1 (λT=>?_) λT=>?_
 ·refine Zc<|C2 _<|Zg<|Zg<|aT λC4=>?_
  refine Zz BZ (by kernel_rfl) ?_
  refine qP R (AL R iL)<|qP R (AL R iL)<|qP R (Dl R BD.slice iL)<|qP R (BE R iL iL)<|qP R (AL R iL)<|qO R (AL R iL)<|qO R (AL R iL)<|qO R (Dl R BD.slice<|iR R)<|qO R (Bu R (iR R)<|iR R)<|qO R (AL R<|iR R)<|qT R (AL R iL)<|qT R (AL R iL)<|AG T λx1 U h3=>qT R (BK R BD.slice (iR R) (iR R) (λ_=>R)<|Ad U)<|qT R (BI R ES<|iR R)<|qT R (Bj (d:=.str x1.Name) R A9 (iR R) R)<|qT R (AL R iL)<|qT R (AL R iL)<|AG h3 λx2 V h4=>qT R (BK R BD.slice (iR R) (iR R) (λ_=>R)<|Ad V)<|qT R (BI R ES<|iR R)<|qT R (Bj (d:=.str x2.Name) R A9 (iR R) R)<|qT R (ME R (iR R)<|iR R)<|qO R (BS R (iR R)<|iR R)<|qP R (CN R iL<|iR R)<|qP R (D7 R iL)<|AQ.nil<|C4 _<|cI R h4 (λX=>?_) λX=>?_
  ·refine aT λC5=>aG [0,1,2,6,7] [1000,1001] ?_
   refine aR<|mM R<|mM R<|mM R<|AG X λx3 Z h6=>xI BD R Z<|xB ((B6 x3)) Ec R ?_
   refine sQ R (DL R QL (q:=[]) (by exact Za) (cs:=[.r<|.str [],.r<|.str []])<|by rfl) ?_
   refine AG h6 λw1 a0 h7=>?_
   refine ZA [1000,1001] (hc:=[(1000,some<|.box j 32 [.own 1001<|m 0]),(1001,some<|.arr (m 0) 91 2<|o2.map AE.row)]) (bs:=[.agg<|B6 x3,.agg [.r<|.str [],.r<|.str []]]) (caps:=[.ptr 1000 j 0 0]) R R R R iL R ⟨.inl ⟨iL,R⟩,.inl ⟨iL,R⟩,Za⟩ ⟨R,R,R,R,R,R,Za⟩ (by decide) (Tj a0) ?_
   intro i8 n1
   refine Bm [0,1,2,6,7,56,57,58,59,60,61,62] [1000,1001] ?_
   exact aZ<|C5 _<|aR<|mM R<|AG h7 λi9 a2 h8=>xA R a2<|mA R<|Zh<|FX.mk h8 (AH [(i8 0),n1]) wk
  refine aT λC6=>aG [0,1,2,6,7] [1000,1001] ?_
  refine Zz BZ (by kernel_rfl) ?_
  refine qP R (AL R iL)<|qP R (AL R iL)<|qP R (Dl R BD.slice iL)<|qP R (BE R iL iL)<|qP R (AL R iL)<|qO R (AL R iL)<|qO R (AL R iL)<|AG X λx4 a6 h9=>qO R (BK R BD.slice (iR R) (iR R) (λ_=>R)<|Ad a6)<|qO R (BI R ES<|iR R)<|qO R (Bj (d:=.str x4.Name) R A9 (iR R) R)<|qO R (AL R iL)<|qO R (AL R iL)<|AG h9 λx5 a7 a8=>qO R (BK R BD.slice (iR R) (iR R) (λ_=>R)<|Ad a7)<|qO R (BI R ES<|iR R)<|qO R (Bj (d:=.str x5.Name) R A9 (iR R) R)<|qO R (ME R (iR R)<|iR R)<|qP R (CN R iL<|iR R)<|qP R (D7 R iL)<|AQ.nil<|C6 _<|cI R a8 (λq=>?_) λq=>?_
  ·refine aT λC7=>aR<|mM R ?_
   refine sQ R (DL R QL (q:=[]) (by exact Za) (cs:=[.r<|.str [],.r<|.str []])<|by rfl) ?_
   refine mM R<|mM R<|AG q λx6 aa ab=>xI BD R aa<|xB ((B6 x6)) Ec R<|AG ab λw2 ac ad=>?_
   refine ZA [1000,1001] (hc:=[(1000,some<|.box j 32 [.own 1001<|m 0]),(1001,some<|.arr (m 0) 91 2<|o2.map AE.row)]) (bs:=[.agg [.r<|.str [],.r<|.str []],.agg<|B6 x6]) (caps:=[.ptr 1000 j 0 0]) R R R R iL R ⟨.inl ⟨iL,R⟩,.inl ⟨iL,R⟩,Za⟩ ⟨R,R,R,R,R,R,Za⟩ (by decide) (Tj ac) ?_
   intro ae n2
   refine Bm [0,1,2,6,7,65,66,67,68,69,70,82,83,84,85,86,87,88,89] [1000,1001] ?_
   refine aZ<|C7 _<|aG [0,1,2,6,7] [1000,1001] ?_
   exact aR<|mM R<|AG ad λj4 af ag=>xA R af<|mA R<|Zh<|FX.mk ag (AH [(ae 0),n2]) wk
  refine aT λC8=>?_
  refine bC 9 BZ (by kernel_rfl) R R ?_
  refine AT.step R R R (AL R iL)<|AT.step R R R (AL R iL)<|AT.step R R R (AL R iL)<|AG q λx7 ah ai=>AT.step R R R (BK R BD.slice iL iL (λ_=>R) λ_=>ah)<|AT.step R R R (ET (cs:=(B6 x7)) R Ec iL R R)<|AT.step R R R (AL R iL)<|AT.step R R R (AL R iL)<|AG ai λx8 aj ak=>AT.step R R R (BK R BD.slice iL iL (λ_=>R) λ_=>aj)<|AT.step R R R (ET (cs:=(B6 x8)) R Ec iL R R)<|AT.nil<|AG ak λw3 al an=>?_
  refine ZA [1000,1001] (hc:=[(1000,some<|.box j 32 [.own 1001<|m 0]),(1001,some<|.arr (m 0) 91 2<|o2.map AE.row)]) (bs:=[.agg<|B6 x7,.agg<|B6 x8]) (caps:=[.ptr 1000 j 0 0]) R R R R iL R ⟨.inl ⟨iL,R⟩,.inl ⟨iL,R⟩,Za⟩ ⟨R,R,R,R,R,R,Za⟩ (by decide) (Tj al) ?_
  intro ao n3
  refine Bm [0,1,2,6,7,18,19,20,21,22,23,24,25,26,27,65,66,67,68,69,70,82] [1000,1001] ?_
  refine aZ<|C8 _<|aG [0,1,2,6,7] [1000,1001] ?_
  exact aR<|mM R<|AG an λaw A aq=>xA R A<|mM R<|AG aq λj5 ar au=>xA R ar<|mA R<|mA R<|Zh<|FX.mk au (AH [(ao 0),n3]) wk
 refine Zm ?_
 exact B9.mk (s':=⟨[],[(1000,some<|.box j 32 [.own 1001<|m 0]),(1001,some<|.arr (m 0) 91 2<|o2.map AE.row)],(m 1),92⟩) wk<|CX (λ(r:(List AE)) E h'=>∃(i:Nat→Nat),E=.tup []∧h'=[(1000,some<|.box j 32 [.own 1001<|i 0]),(1001,some<|.arr (i 0) 91 2<|r.map AE.row)]) (F _<|xH O T)<|by exact⟨.tup [],[(1000,some<|.box j 32 [.own 1001<|m 0]),(1001,some<|.arr (m 0) 91 2<|o2.map AE.row)],⟨_,R,Za⟩,⟨.inr R,.inr R,Za⟩,R,R,AH [(m 0)],R,R⟩
theorem lg{l c r}(h:Lx l c=some r):AS prog 115 [qa l,qa c] (qa r):=by
 unfold Lx at h
 refine mF func115 ntmps115 R λj=>aU<|mA R<|aZ<|aU<|sS R (BN (cs:=[cZ]) 5 R SC R R)<|aZ<|aT λq=>aR<|mM R<|mM R ?_
 refine sQ R (JW (bs:=[.ptr 5 j 0 0]) R<|by exact⟨iL,Za⟩) ?_
 refine AK.weak (Zw (bJ 5 0 3050 91 2 (by decide) R R<|by decide)<|by exact Ah.cv (e':=[(0,qa l),(1,qa c),(4,cZ),(5,.ptr 5 j 0 0),(6,qa l),(7,qa c),(8,.fn 184 [.ptr 5 j 0 0])]) (h':=[(5,some<|.box j 32 [.own 3050<|j+1]),(3050,some<|.arr (j+1) 91 2<|([]:List AE).map AE.row)]) ⟨jL,jL,jL,jL,jL,jL,jL,Za⟩ ⟨.inl R,.inl R,Za⟩ nL) ?_
 refine AG h λB m w=>?_
 refine ZA [5,3050] (hc:=[(1000,some<|.box j 32 [.own 1001<|j+1]),(1001,some<|.arr (j+1) 91 2<|([]:List AE).map AE.row)]) (bs:=[qa l,qa c,.fn 184 [.ptr 1000 j 0 0]]) (caps:=[]) R R R R iL R ⟨.inl ⟨iL,R⟩,.inl ⟨iL,R⟩,.inl ⟨iL,R⟩,Za⟩ ⟨R,R,R,R,R,R,Za⟩ (by decide) (io m) ?_
 intro A C
 refine Bm [0,1,4,5,6,7,8,9] [5,3050] ?_
 exact aZ<|q _<|aU<|sQ R (Ab (a:=.own 3050<|A 0) R Ci iL R R)<|mA R<|aZ<|Zj<|Cb (P:=prog) (λ(r:(List AE))=>qa r) w iL<|.t<|.one<|.own R
theorem kl{A:List (Int × AB)}{m2:List (Int × (List AE))}{E:Int}{C:Int}{r:Bool}{q:Nat}{j:Nat}{w:Nat}{m:Nat}(h:Oz A m2 E C=some r):BH prog 275 3 [.ptr 1000 q 0 0,rI E,rI C] [(1000,some<|.box q 272 [.mref 1001 j,.mref 1002 m]),(1001,some<|.mb j w 121<|AJ AB.row A),(1002,some<|.md m<|AJ (λ(l:List AE)=>RV.sl<|l.map AE.row) m2)] (λF h'=>∃(i:Nat→Nat),F=rB r∧h'=[(1000,some<|.box q 272 [.mref 1001 j,.mref 1002 m]),(1001,some<|.mb j w 121<|AJ AB.row A),(1002,some<|.md m<|AJ (λ(l:List AE)=>RV.sl<|l.map AE.row) m2)]):=by
 unfold Oz at h
 refine Em func275 R R ntmps275 (Zt R) λn0=>aU<|mA R<|aZ<|aS λK2 c2 U=>Zg<|BV h λo1 O V T=>?_
 have J1:∀(u2:Unit) (X:NN),o1=.nrm u2→K2 ⟨[],[(1000,some<|.box q 272 [.mref 1001 j,.mref 1002 m]),(1001,some<|.mb j w 121<|AJ AB.row A),(1002,some<|.md m<|AJ (λ(l:List AE)=>RV.sl<|l.map AE.row) m2)],(X 0),29⟩:=by
  intro u2 X e
  have h1:=V _ e
  refine c2 _<|aU<|mA R<|aZ ?_
  exact Zj<|B9.mk (s':=⟨[(6,rB false)],[(1000,some<|.box q 272 [.mref 1001 j,.mref 1002 m]),(1001,some<|.mb j w 121<|AJ AB.row A),(1002,some<|.md m<|AJ (λ(l:List AE)=>RV.sl<|l.map AE.row) m2)],(X 0),29⟩) wk<|CX (λ(r:Bool) F h'=>∃(i:Nat→Nat),F=rB r∧h'=[(1000,some<|.box q 272 [.mref 1001 j,.mref 1002 m]),(1001,some<|.mb j w 121<|AJ AB.row A),(1002,some<|.md m<|AJ (λ(l:List AE)=>RV.sl<|l.map AE.row) m2)]) h1<|by exact⟨rB false,[(1000,some<|.box q 272 [.mref 1001 j,.mref 1002 m]),(1001,some<|.mb j w 121<|AJ AB.row A),(1002,some<|.md m<|AJ (λ(l:List AE)=>RV.sl<|l.map AE.row) m2)],R,⟨.inr R,.inr R,.inr R,Za⟩,R,R,AH [],R,R⟩
 refine Zu (λ(B:Int) M=>⟨[(0,.ptr 1000 q 0 0),(1,rI B),(2,rI C)],[(1000,some<|.box q 272 [.mref 1001 j,.mref 1002 m]),(1001,some<|.mb j w 121<|AJ AB.row A),(1002,some<|.md m<|AJ (λ(l:List AE)=>RV.sl<|l.map AE.row) m2)],(M 0),29⟩) (AH [n0]) O wk ?_
 intro B M v1 Z I
 have h2:GI A C B=some v1:=Z;unfold GI at h2
 refine aT λc4=>aU<|mM R<|sQ R (BU R iL iL)<|aZ<|cI R h2 (λh3=>?_) λh3=>?_
 ·refine Zc<|c4 _<|Zg<|aT λc6=>aU<|mM R<|mM R<|xQ R<|aZ<|cI R h3 (λh4=>?_) λh4=>?_
  ·refine aU<|mA R<|aZ ?_
   exact Zj<|B9.mk (s':=⟨[(6,rB true)],[(1000,some<|.box q 272 [.mref 1001 j,.mref 1002 m]),(1001,some<|.mb j w 121<|AJ AB.row A),(1002,some<|.md m<|AJ (λ(l:List AE)=>RV.sl<|l.map AE.row) m2)],(M 0),29⟩) wk<|CX (λ(r:Bool) F h'=>∃(i:Nat→Nat),F=rB r∧h'=[(1000,some<|.box q 272 [.mref 1001 j,.mref 1002 m]),(1001,some<|.mb j w 121<|AJ AB.row A),(1002,some<|.md m<|AJ (λ(l:List AE)=>RV.sl<|l.map AE.row) m2)]) (T _<|xH I h4)<|by exact⟨rB true,[(1000,some<|.box q 272 [.mref 1001 j,.mref 1002 m]),(1001,some<|.mb j w 121<|AJ AB.row A),(1002,some<|.md m<|AJ (λ(l:List AE)=>RV.sl<|l.map AE.row) m2)],R,⟨.inr R,.inr R,.inr R,Za⟩,R,R,AH [],R,R⟩
  refine Zc<|c6 _<|aU<|mM R<|sQ R (KX (ob:=.box _ _ _) R iL fR R)<|lF US Sq R R<|mM R<|sQ R (dI true R underlying269 underlying3 (Hw eD) (.inl R) (.inl R) R)<|mM R<|xX R<|xX R<|mA R<|mA R<|aZ<|aT λa0=>aT λa1=>aG [0,2,7,8] [1000,1001,1002] ?_
  refine aR<|mM R<|sQ R (BB R iL)<|aZ<|a1 _<|cI R h4 (λh5=>?_) λh5=>?_
  ·refine aU<|mA R<|aZ ?_
   exact Zj<|B9.mk (s':=⟨[(6,rB false)],[(1000,some<|.box q 272 [.mref 1001 j,.mref 1002 m]),(1001,some<|.mb j w 121<|AJ AB.row A),(1002,some<|.md m<|AJ (λ(l:List AE)=>RV.sl<|l.map AE.row) m2)],(M 0),29⟩) wk<|CX (λ(r:Bool) F h'=>∃(i:Nat→Nat),F=rB r∧h'=[(1000,some<|.box q 272 [.mref 1001 j,.mref 1002 m]),(1001,some<|.mb j w 121<|AJ AB.row A),(1002,some<|.md m<|AJ (λ(l:List AE)=>RV.sl<|l.map AE.row) m2)]) (T _<|xH I h5)<|by exact⟨rB false,[(1000,some<|.box q 272 [.mref 1001 j,.mref 1002 m]),(1001,some<|.mb j w 121<|AJ AB.row A),(1002,some<|.md m<|AJ (λ(l:List AE)=>RV.sl<|l.map AE.row) m2)],R,⟨.inr R,.inr R,.inr R,Za⟩,R,R,AH [],R,R⟩
  exact Zc<|a0 _<|aR<|mM R<|AG h5 λx1 J h6=>sQ R (MD R iL R R λ_=>J)<|sQ R (Re R Lg iL R R λ_=>J)<|sQ R (Ui (a:=x1) (d:=.int .i64 x1.Parent) R AI iL R R (λ_=>J) R)<|mA R<|Zh<|Zr h6 (AH [(M 0)]) wk
 exact Zm<|U _ _ wk<|J1 _ (AH [(M 0)])<|xH I h3
theorem ga{w r}(h:Kz w=some r):BH prog 214 3 [qf w] [] (λZ h'=>∃(i:Nat→Nat),Z=.ptr 1000 (i 0) 0 0∧h'=[(1000,some<|.box (i 0) 272 [.mref 1001<|i 1,.mref 1002<|i 3]),(1001,some<|.mb (i 1) (i 2) 121<|AJ AB.row r.1),(1002,some<|.md (i 3)<|AJ (λ(l:List AE)=>RV.sl<|l.map AE.row) r.2)]):=by
 unfold Kz at h
 refine Em func214 R R ntmps214 (Zt R) λj=>aU<|mA R<|aZ<|aT λc2=>aR<|sS R (ka AB.row 1001 121 R)<|sS R (Rh (λ(l:List AE)=>RV.sl<|l.map AE.row) 1002 R) ?_
 refine sQ R (DL R kv (q:=[(0,_),(1,_)]) (by exact⟨R,R,R,iL,R,R,R,iL,Za⟩) (cs:=[.mref 1001 j,.mref 1002<|j+1])<|by rfl) ?_
 refine sS R (BC (cs:=[.mref 1001 j,.mref 1002<|j+1]) 1000 R iL R R)<|mA R<|aZ<|c2 _<|aS λK3 c3 a0=>aU<|mM R<|xL E0 R<|mM R<|aZ<|Zg<|Hi h λo1 I a1=>?_
 have J1:∀(J:List (Int × AB)) (M:List (Int × (List AE))) (B:NN),o1=(J,M)→K3 ⟨[(3,.ptr 1000 (j+2) 0 0)],[(1000,some<|.box (j+2) 272 [.mref 1001 j,.mref 1002<|j+1]),(1001,some<|.mb j (B 0) 121<|AJ AB.row J),(1002,some<|.md (j+1)<|AJ (λ(l:List AE)=>RV.sl<|l.map AE.row) M)],(B 1),64⟩:=by
  intro J M B e
  have h1:=a1 _ _ e
  refine c3 _<|aU<|mM R<|mA R<|aZ ?_
  exact Zj<|B9.mk (s':=⟨[(2,.ptr 1000 (j+2) 0 0)],[(1000,some<|.box (j+2) 272 [.mref 1001 j,.mref 1002<|j+1]),(1001,some<|.mb j (B 0) 121<|AJ AB.row J),(1002,some<|.md (j+1)<|AJ (λ(l:List AE)=>RV.sl<|l.map AE.row) M)],(B 1),64⟩) wk<|CX (λ(r:(List<|Int × AB) × (List<|Int × (List AE))) Z h'=>∃(i:Nat→Nat),Z=.ptr 1000 (i 0) 0 0∧h'=[(1000,some<|.box (i 0) 272 [.mref 1001<|i 1,.mref 1002<|i 3]),(1001,some<|.mb (i 1) (i 2) 121<|AJ AB.row r.1),(1002,some<|.md (i 3)<|AJ (λ(l:List AE)=>RV.sl<|l.map AE.row) r.2)]) h1<|by exact⟨.ptr 1000 (j+2) 0 0,[(1000,some<|.box (j+2) 272 [.mref 1001 j,.mref 1002<|j+1]),(1001,some<|.mb j (B 0) 121<|AJ AB.row J),(1002,some<|.md (j+1)<|AJ (λ(l:List AE)=>RV.sl<|l.map AE.row) M)],R,⟨.inr R,.inr R,.inr R,Za⟩,R,R,AH [(j+2),j,(B 0),(j+1)],R,R⟩
 refine JU (λ(O:Int) (T:List (Int × AB)) (A:List (Int × (List AE))) q=>⟨[(3,.ptr 1000 (j+2) 0 0),(10,qf w),(11,rL w),(12,rI O)],[(1000,some<|.box (j+2) 272 [.mref 1001 j,.mref 1002<|j+1]),(1001,some<|.mb j (q 0) 121<|AJ AB.row T),(1002,some<|.md (j+1)<|AJ (λ(l:List AE)=>RV.sl<|l.map AE.row) A)],(q 1),64⟩) (AH [j,(j+3)]) I wk ?_
 intro O T A q v1 a2 a6
 have h2:He w O T A=some v1:=a2;unfold He at h2
 refine aU<|xS R<|aZ<|aT λc7=>cI R h2 (λh3=>?_) λh3=>?_
 ·refine Zc<|c7 _<|aS λK8 c8 C=>Zg<|Hi h3 λp1 a7 a8=>?_
  have J2:∀(m9:List (Int × AB)) (E:List (Int × (List AE))) (U:NN),p1=(m9,E)→K8 ⟨[(3,.ptr 1000 (j+2) 0 0),(10,qf w),(11,rL w),(12,rI O)],[(1000,some<|.box (j+2) 272 [.mref 1001 j,.mref 1002<|j+1]),(1001,some<|.mb j (U 0) 121<|AJ AB.row m9),(1002,some<|.md (j+1)<|AJ (λ(l:List AE)=>RV.sl<|l.map AE.row) E)],(U 1),64⟩:=by
   intro m9 E U e
   have h4:=a8 _ _ e
   exact c8 _<|aR<|AG h4 λx4 aa h5=>xA R aa<|mM R<|Zh<|FX.mk h5 (AH [(U 0),(U 1)]) wk
  refine aU<|AG a7 λm ab h6=>xI E0 R ab<|xB ((Bc m)) HV R<|sS R (BN (cs:=Q6) 5 R Qv R R)<|Zl R R (A6 (ds:=(Bc m)) R Pg iL R iL R R R R)<|aZ<|Zg<|aU<|lF FZ AI R R<|xQ R<|mA R<|aZ<|cI R h6 (λh7=>?_) λh7=>?_
  ·refine AG h7 λr1 ac h8=>?_
   refine rP 20 [pO 20<|.ptr 1000 (j+2) 0 0,pO 21<|.ptr 1000 (j+2) 0 0,pO 22<|.ptr 1000 (j+2) 0 1,pO 23<|.mref 1002<|j+1,pO 24<|.ptr 5 (q 1) 0 3,pO 25<|rI m.Item,pO 26<|.ptr 1000 (j+2) 0 0,pO 27<|.ptr 1000 (j+2) 0 0,pO 28<|.ptr 1000 (j+2) 0 1,pO 29<|.mref 1002<|j+1,pO 30<|.ptr 5 (q 1) 0 3,pO 31<|rI m.Item,pO 32<|.r<|.sl<|((AR A m.Item).getD []).map AE.row,pO 33<|.ptr 5 (q 1) 0 6,pO 34<|rS m.Name,pO 35<|.ptr 5 (q 1) 0 7,pO 36<|rS m.Value,pO 37<|.agg [rS m.Name,rS m.Value],⟨some 38,(λ_=>.r<|.sl<|[(AE.mk m.Name m.Value)].map AE.row),some (38,(λ_=>none)),[]⟩,pO 39<|qa r1] BZ R (by exact⟨oB [(3,.ptr 1000 (j+2) 0 0)] [(1000,some<|.box (j+2) 272 [.mref 1001 j,.mref 1002<|j+1])]<|AL R<|.inl R,oB [(20,.ptr 1000 (j+2) 0 0)] [(1000,some<|.box (j+2) 272 [.mref 1001 j,.mref 1002<|j+1])]<|KX (ob:=.box _ _ _) R (.inl R) (λ_=>R) R,oB [(21,.ptr 1000 (j+2) 0 0)] [(1000,some<|.box (j+2) 272 [.mref 1001 j,.mref 1002<|j+1])]<|fB R T3 (.inl R) (λ_=>R) R,oB [(22,.ptr 1000 (j+2) 0 1)] [(1000,some<|.box (j+2) 272 [.mref 1001 j,.mref 1002<|j+1])]<|Ab (a:=.mref 1002<|j+1) R ST (.inl R) R R,oB [(5,.ptr 5 (q 1) 0 0)] [(5,some<|.box (q 1) 119<|Bc m)]<|fB R FL (.inl R) (λ_=>R) R,oB [(24,.ptr 5 (q 1) 0 3)] [(5,some<|.box (q 1) 119<|Bc m)]<|Ab (a:=rI m.Item) R AI (.inl R) R R,oB [(3,.ptr 1000 (j+2) 0 0)] [(1000,some<|.box (j+2) 272 [.mref 1001 j,.mref 1002<|j+1])]<|AL R<|.inl R,oB [(26,.ptr 1000 (j+2) 0 0)] [(1000,some<|.box (j+2) 272 [.mref 1001 j,.mref 1002<|j+1])]<|KX (ob:=.box _ _ _) R (.inl R) (λ_=>R) R,oB [(27,.ptr 1000 (j+2) 0 0)] [(1000,some<|.box (j+2) 272 [.mref 1001 j,.mref 1002<|j+1])]<|fB R T3 (.inl R) (λ_=>R) R,oB [(28,.ptr 1000 (j+2) 0 1)] [(1000,some<|.box (j+2) 272 [.mref 1001 j,.mref 1002<|j+1])]<|Ab (a:=.mref 1002<|j+1) R ST (.inl R) R R,oB [(5,.ptr 5 (q 1) 0 0)] [(5,some<|.box (q 1) 119<|Bc m)]<|fB R FL (.inl R) (λ_=>R) R,oB [(30,.ptr 5 (q 1) 0 3)] [(5,some<|.box (q 1) 119<|Bc m)]<|Ab (a:=rI m.Item) R AI (.inl R) R R,oB [(29,.mref 1002<|j+1),(31,rI m.Item)] [(1002,some<|.md (j+1)<|AJ (λ(l:List AE)=>RV.sl<|l.map AE.row) A)]<|Ou (rd:=(λ(l:List AE)=>RV.sl<|l.map AE.row)) false (.slice none 0 0) [] R underlying270 underlying3 (Hw SC) (λ_ _=>.snil) (.inl R) (.inl R) R,oB [(5,.ptr 5 (q 1) 0 0)] [(5,some<|.box (q 1) 119<|Bc m)]<|fB R Ln (.inl R) (λ_=>R) R,oB [(33,.ptr 5 (q 1) 0 6)] [(5,some<|.box (q 1) 119<|Bc m)]<|Ab (a:=rS m.Name) R A9 (.inl R) R R,oB [(5,.ptr 5 (q 1) 0 0)] [(5,some<|.box (q 1) 119<|Bc m)]<|fB R Ih (.inl R) (λ_=>R) R,oB [(35,.ptr 5 (q 1) 0 7)] [(5,some<|.box (q 1) 119<|Bc m)]<|Ab (a:=rS m.Value) R A9 (.inl R) R R,oB [(34,rS m.Name),(36,rS m.Value)] []<|DL R QL (q:=[(0,_),(1,_)]) (by exact⟨R,R,R,(.inl R),R,R,R,(.inl R),Za⟩) (cs:=[rS m.Name,rS m.Value])<|by rfl,bD R R (by intro d h;cases h;rfl) R (λ_=>[(37,.agg [rS m.Name,rS m.Value])]) (λ_=>[]) (λD X hr=>⟨YG hr 17 R R (by kernel_rfl) R R,Za⟩) (λD X hr=>Za) λX e h' n=>Fv.frz<|Aw.toN<|CG 38 R BD (f:=AE.row) (l:=([(AE.mk m.Name m.Value)]:List AE)) ⟨R,⟨_,(.inl R),R⟩,Za⟩ R (λ_=>R) R,oD (λ_=>[(32,.r<|.sl<|((AR A m.Item).getD []).map AE.row),(38,.r<|.sl<|[(AE.mk m.Name m.Value)].map AE.row)]) (λ_=>[]) λX e h' n=>EA (r:=qa r1) (caps:=[]) (bs:=[.r<|.sl<|((AR A m.Item).getD []).map AE.row,.r<|.sl<|[(AE.mk m.Name m.Value)].map AE.row]) R (.inl R) R ⟨.inl ⟨(.inl R),R⟩,.inl ⟨(.inl R),R⟩,Za⟩ λ_=>lg<|ac,Za⟩) λX n1=>?_
   refine Bm [3,5,10,11,12,13,14,15,16,17,18,19,20,21,22,23,24,25,26,27,28,29,30,31,32,33,34,35,36,37,38,39] [5,1000,1001,1002] ?_
   exact Zl R R (Mz (rd:=(λ(l:List AE)=>RV.sl<|l.map AE.row)) (a:=r1) iL underlying270 underlying3 iL iL iL R)<|Zh<|C _ _ wk<|J2 _ _ (AH [(q 0),n1]) (Zf h8).symm
  refine aT λad=>aR<|mM R<|lF GC AI R R<|lF FL AI R R<|AG h7 λr2 ae h9=>?_
  refine ZA [1000,1001,1002] (hc:=[(1000,some<|.box (j+2) 272 [.mref 1001 j,.mref 1002<|j+1]),(1001,some<|.mb j (q 0) 121<|AJ AB.row T),(1002,some<|.md (j+1)<|AJ (λ(l:List AE)=>RV.sl<|l.map AE.row) A)]) (bs:=[.ptr 1000 (j+2) 0 0,rI m.Parent,rI m.Item]) (caps:=[]) R R R R iL R ⟨.inl ⟨iL,R⟩,.inl ⟨iL,R⟩,.inl ⟨iL,R⟩,Za⟩ ⟨R,R,R,R,R,R,R,R,R,Za⟩ (by decide) (kl ae) ?_
  intro i7 V
  refine Bm [3,5,10,11,12,13,14,15,16,17,18,19,41,42,43,44,45,46] [5,1000,1001,1002] ?_
  refine sQ R (BB R iL)<|mA R<|aZ<|ad _<|cI R h9 (λF=>?_) λF=>?_
  ·refine aG [3,5,10,11,12] [5,1000,1001,1002] ?_
   refine aX [] [0,1,2,3,4,5,6,7,8,9,10,11,12] [13] 14 BZ (by kernel_rfl) R R R R R ?_
   refine GE.nil<|AF.step R R R (AL R iL)<|AF.step R R R (KX (ob:=.box _ _ _) R iL fR R)<|AF.step R R R (fB R US iL fR R)<|AF.step R R R (Ab (a:=.mref 1001 j) R Sq iL R R)<|AF.step R R R (fB R FL iL fR R)<|AF.step R R R (Ab (a:=rI m.Item) R AI iL R R)<|AF.step R R R (fB R FL iL fR R)<|AF.step R R R (Ab (a:=rI m.Item) R AI iL R R)<|AF.step R R R (fB R GC iL fR R)<|AF.step R R R (Ab (a:=rI m.Parent) R AI iL R R)<|AF.step R R R (fB R MN iL fR R)<|AF.step R R R (Ab (a:=rS m.Place) R A9 iL R R) ?_
   refine AF.step R R R (DL R Qt (q:=[(0,_),(1,_),(2,_)]) (by exact⟨R,R,R,iL,R,R,R,iL,R,R,R,iL,Za⟩) (cs:=[rI m.Item,rI m.Parent,rS m.Place,cZ])<|by rfl) ?_
   refine AF.nil<|AA.step R R R (fL (cs:=[rI m.Item,rI m.Parent,rS m.Place,cZ]) 61 R iL R R)<|AA.nil ?_
   refine AK.weak (by exact Ah.cv (e':=[(3,.ptr 1000 (j+2) 0 0),(5,.ptr 5 (q 1) 0 0),(10,qf w),(11,rL w),(12,rI O),(48,.ptr 1000 (j+2) 0 0),(49,.ptr 1000 (j+2) 0 0),(50,.ptr 1000 (j+2) 0 0),(51,.mref 1001 j),(52,.ptr 5 (q 1) 0 3),(53,rI m.Item),(54,.ptr 5 (q 1) 0 3),(55,rI m.Item),(56,.ptr 5 (q 1) 0 4),(57,rI m.Parent),(58,.ptr 5 (q 1) 0 5),(59,rS m.Place),(60,.agg [rI m.Item,rI m.Parent,rS m.Place,cZ]),(61,.ptr 61 V 0 0)]) (h':=[(5,some<|.box (q 1) 119<|Bc m),(61,some<|.box V 121 [rI m.Item,rI m.Parent,rS m.Place,.r<|.sl []]),(1000,some<|.box (j+2) 272 [.mref 1001 j,.mref 1002<|j+1]),(1001,some<|.mb j (q 0) 121<|AJ AB.row T),(1002,some<|.md (j+1)<|AJ (λ(l:List AE)=>RV.sl<|l.map AE.row) A)]) ⟨jL,jL,jL,jL,jL,jL,jL,jL,jL,jL,jL,jL,jL,jL,jL,jL,jL,jL,jL,Za⟩ ⟨.inl R,.inr<|.inr ⟨_,_,_,_,R,R,⟨.inl R,.inl R,.inl R,.inr<|.inr ⟨R,R⟩,Za⟩⟩,.inl R,.inl R,.inl R,Za⟩ nL) ?_
   exact Zl R R (mN (a:=(AB.mk m.Item m.Parent m.Place [])) iL underlying269 underlying3 iL iL iL R R)<|Zh<|C _ _ wk<|J2 _ _ (AH [(V+1),(V+2)]) (Zf F).symm
  exact Zc<|C _ _ wk<|J2 _ _ (AH [(q 0),V]) (Zf F).symm
 exact Zm<|a0 _ _ wk<|J1 _ _ (AH [(q 0),(q 1)])<|xH a6 h3
theorem Zi{j r}(h:N4 j=some r):AS prog 278 [rS j] (rB r):=by
 unfold N4 at h
 exact mF func278 ntmps278 R λl=>aU<|mA R<|aZ<|aU<|mM R<|mM R<|sQ R (Dt R iL iL)<|mA R<|aZ<|Zj<|yB h R
theorem fy{O T r}(h:No O T=some r):AS prog 219 [rS O,rS T] (rI r):=by
 unfold No at h
 refine mF func219 ntmps219 R λn0=>aU<|mA R<|aZ<|aU<|mM R<|AG h λm j U=>cL (Zi<|j) R<|mA R<|aZ<|aU<|mM R<|AG U λq l V=>cL (Zi<|l) R<|mA R<|aZ<|aT λX=>aU<|mM R<|aZ<|cI R V (λw=>?_) λw=>?_
 ·refine aT λZ=>aT λc7=>aF [6] ?_
  refine aR<|mM R<|aZ<|c7 _<|cI R w (λA=>?_) λA=>?_
  ·exact zI A R id
  exact Zc<|Z _<|zI A R id
 refine Zc<|X _<|aT λB=>aU<|mM R<|aZ<|cI R w (λC=>?_) λC=>?_
 ·exact zI C R id
 refine Zc<|B _<|aT λE=>aT λF=>aF [0,1] ?_
 refine aR<|mM R<|mM R<|sQ R (ME R iL iL)<|aZ<|F _<|cI R C (λI=>?_) λI=>?_
 ·exact zI I R id
 refine Zc<|E _<|aT λJ=>aU<|mM R<|mM R<|sQ R (Xh R iL iL)<|aZ<|cI R I (λM=>?_) λM=>?_
 ·exact zI M R id
 exact Zc<|J _<|zI M R id
theorem gf{l m r}(h:KM l m=some r):AS prog 217 [.agg<|B4 l,.agg<|B4 m] (rI r):=by
 unfold KM at h
 refine mF func217 ntmps217 R λj=>aU<|sS R (BC (cs:=(B4 l)) 2 R iL R R)<|sS R (BC (cs:=(B4 m)) 3 R iL R R)<|mA R<|aZ<|aT λC=>AG h λq w E=>?_
 refine rP 9 [pO 5<|.ptr 2 j 0 2,pO 6<|rS l.Place,pO 7<|.ptr 3 (j+1) 0 2,pO 8<|rS m.Place,pO 9<|rI q,pO 10<|.ptr 2 j 0 0,pO 11<|rI l.Item,pO 12<|.ptr 3 (j+1) 0 0,pO 13<|rI m.Item] BZ R (by exact⟨oB [(2,.ptr 2 j 0 0)] [(2,some<|.box j 121<|B4 l)]<|fB R Hj (.inl R) (λ_=>R) R,oB [(5,.ptr 2 j 0 2)] [(2,some<|.box j 121<|B4 l)]<|Ab (a:=rS l.Place) R A9 (.inl R) R R,oB [(3,.ptr 3 (j+1) 0 0)] [(3,some<|.box (j+1) 121<|B4 m)]<|fB R Hj (.inl R) (λ_=>R) R,oB [(7,.ptr 3 (j+1) 0 2)] [(3,some<|.box (j+1) 121<|B4 m)]<|Ab (a:=rS m.Place) R A9 (.inl R) R R,oD (λ_=>[(6,rS l.Place),(8,rS m.Place)]) (λ_=>[]) λF e O n=>Dz (r:=rI q) (caps:=[]) (bs:=[rS l.Place,rS m.Place]) R (.inl R) R ⟨⟨_,(.inl R),.d R⟩,⟨_,(.inl R),.d R⟩,Za⟩ (λ_=>fy<|w) R,oB [(2,.ptr 2 j 0 0)] [(2,some<|.box j 121<|B4 l)]<|fB R EX (.inl R) (λ_=>R) R,oB [(10,.ptr 2 j 0 0)] [(2,some<|.box j 121<|B4 l)]<|Ab (a:=rI l.Item) R AI (.inl R) R R,oB [(3,.ptr 3 (j+1) 0 0)] [(3,some<|.box (j+1) 121<|B4 m)]<|fB R EX (.inl R) (λ_=>R) R,oB [(12,.ptr 3 (j+1) 0 0)] [(3,some<|.box (j+1) 121<|B4 m)]<|Ab (a:=rI m.Item) R AI (.inl R) R R,Za⟩) λF T=>?_
 refine Bm [0,1,2,3,4,5,6,7,8,9,10,11,12,13] [2,3] ?_
 exact AG E λI A J=>cL (L0<|A) R<|sS R (CG 15 R B3 (f:=(As .i64)) (l:=([q,I]:List Int)) ⟨R,⟨_,iL,R⟩,R,⟨_,iL,R⟩,Za⟩ R (λ_=>R) R)<|AG J λU B M=>cL (T7<|B) R<|mA R<|aZ<|C _<|Zj<|yI M R
theorem cW{self:(List<|Int × (List AB))→(List AB)→(List<|Int × Bool)→Int→Option ((List<|Int × (List AB)) × (List AB) × (List<|Int × Bool))}(O:∀ {T:List (Int × (List AB))} {X:List AB} {m2:List (Int × Bool)} {E:Int} {r:(List<|Int × (List AB)) × (List AB) × (List<|Int × Bool)} {A:Nat} {q:Nat} {C:Nat} {j:Nat} {F:Nat} {m:Nat} {B:Nat} {w:Nat},self T X m2 E=some r→BH prog 215 7 [rI E,.ptr 1000 A 0 0,.ptr 1002 j 0 0,.ptr 1004 m 0 0,.ptr 1006 w 0 0] [(1000,some<|.box A 268 [.mref 1001 q]),(1001,some<|.mr q C 121 4 none<|AJ (λ(l:List AB)=>l.map AB.row) T),(1002,some<|.box j 115 [.own 1003 F]),(1003,some<|.arr F 121 4<|X.map AB.row),(1004,some<|.box m 192 [.mref 1005 B]),(1005,some<|.md B<|AJ RV.bool m2),(1006,some<|.box w 274 [.fn 215 [.ptr 1000 A 0 0,.ptr 1002 j 0 0,.ptr 1004 m 0 0,.ptr 1006 w 0 0]])] (λZ h'=>∃(i:Nat→Nat),Z=.tup []∧h'=[(1000,some<|.box A 268 [.mref 1001 q]),(1001,some<|.mr q C 121 4 none<|AJ (λ(l:List AB)=>l.map AB.row) r.1),(1002,some<|.box j 115 [.own 1003<|i 0]),(1003,some<|.arr (i 0) 121 4<|r.2.1.map AB.row),(1004,some<|.box m 192 [.mref 1005 B]),(1005,some<|.md B<|AJ RV.bool r.2.2),(1006,some<|.box w 274 [.fn 215 [.ptr 1000 A 0 0,.ptr 1002 j 0 0,.ptr 1004 m 0 0,.ptr 1006 w 0 0]])])){T:List (Int × (List AB))}{X:List AB}{m2:List (Int × Bool)}{E:Int}{r:(List<|Int × (List AB)) × (List AB) × (List<|Int × Bool)}{A:Nat}{q:Nat}{C:Nat}{j:Nat}{F:Nat}{m:Nat}{B:Nat}{w:Nat}(h:Ii self T X m2 E=some r):BH prog 215 7 [rI E,.ptr 1000 A 0 0,.ptr 1002 j 0 0,.ptr 1004 m 0 0,.ptr 1006 w 0 0] [(1000,some<|.box A 268 [.mref 1001 q]),(1001,some<|.mr q C 121 4 none<|AJ (λ(l:List AB)=>l.map AB.row) T),(1002,some<|.box j 115 [.own 1003 F]),(1003,some<|.arr F 121 4<|X.map AB.row),(1004,some<|.box m 192 [.mref 1005 B]),(1005,some<|.md B<|AJ RV.bool m2),(1006,some<|.box w 274 [.fn 215 [.ptr 1000 A 0 0,.ptr 1002 j 0 0,.ptr 1004 m 0 0,.ptr 1006 w 0 0]])] (λZ h'=>∃(i:Nat→Nat),Z=.tup []∧h'=[(1000,some<|.box A 268 [.mref 1001 q]),(1001,some<|.mr q C 121 4 none<|AJ (λ(l:List AB)=>l.map AB.row) r.1),(1002,some<|.box j 115 [.own 1003<|i 0]),(1003,some<|.arr (i 0) 121 4<|r.2.1.map AB.row),(1004,some<|.box m 192 [.mref 1005 B]),(1005,some<|.md B<|AJ RV.bool r.2.2),(1006,some<|.box w 274 [.fn 215 [.ptr 1000 A 0 0,.ptr 1002 j 0 0,.ptr 1004 m 0 0,.ptr 1006 w 0 0]])]):=by
 unfold Ii at h
 refine Em func215 R R ntmps215 (Zt R) λn0=>aT λC1=>aR<|sQ R (Ab (a:=.mref 1001 q) R Qw iL R R)<|mM R<|sQ R (VG R underlying268 underlying3 (Hw Qr) (.inl R) (.inl R) R)<|AG h λw1 a2 h1=>?_
 refine ZA [1001] (hc:=[(1000,some<|.mr q C 121 4 none<|AJ (λ(l:List AB)=>l.map AB.row) T)]) (bs:=[.fo 1000 q C E,.fn 217 []]) (caps:=[]) R R R R iL R ⟨.inl ⟨iL,R⟩,.inl ⟨iL,R⟩,Za⟩ ⟨R,R,R,Za⟩ (by decide) ((qI (row:=AB.row) Yd (by decide) (λ_=>R) ⟨_,func217,R,R⟩ λ_ _ _ h=>gf h) a2) ?_
 intro i1 n1
 refine Bm [0,1,2,3,4,8,9,10,11] [1000,1001,1002,1003,1004,1005,1006] ?_
 refine aZ<|C1 _<|aU<|sQ R (Ab (a:=.mref 1001 q) R Qw iL R R)<|mM R<|sQ R (VG R underlying268 underlying3 (Hw Qr) (.inl R) (.inl R) R)<|sQ R (mC R BM.slice iL R)<|mM R<|aZ<|Zg<|BV h1 λo4 a0 ad a6=>qS (λ(x2:Int) (o2:List AB) (U:List (Int × (List AB))) (V:List (Int × Bool)) J=>⟨[(2,.ptr 1002 j 0 0),(3,.ptr 1004 m 0 0),(4,.ptr 1006 w 0 0),(14,.fo 1001 q C E),(15,rI<|(((AR w1 E).getD []).length:Int)),(16,rI x2)],[(1000,some<|.box A 268 [.mref 1001 q]),(1001,some<|.mr q C 121 4 none<|AJ (λ(l:List AB)=>l.map AB.row) U),(1002,some<|.box j 115 [.own 1003<|J 0]),(1003,some<|.arr (J 0) 121 4<|o2.map AB.row),(1004,some<|.box m 192 [.mref 1005 B]),(1005,some<|.md B<|AJ RV.bool V),(1006,some<|.box w 274 [.fn 215 [.ptr 1000 A 0 0,.ptr 1002 j 0 0,.ptr 1004 m 0 0,.ptr 1006 w 0 0]])],(J 1),32⟩) (AH [F,n1]) a0 wk ?_
 intro x2 o2 U V J v1 a7 a8
 have h2:Fu E self w1 x2 o2 U V=some v1:=a7;unfold Fu at h2
 refine aU<|xS R<|aZ<|aT λC4=>cI R h2 (λh3=>?_) λh3=>?_
 ·refine Zc<|C4 _<|aT λC5=>Zg<|aU<|AG h3 λM a1 h4=>sQ R (iP (f:=AB.row) R BM.slice iL R iL λ_=>a1)<|sQ R (eW (f:=AB.row) (cs:=(B4 M)) R GK iL R (λ_=>a1) R)<|sS R (BN (cs:=Lf) 7 R M1 R R)<|Zl R R (A6 (ds:=(B4 M)) R LX iL R iL R R R R)<|aZ<|aT λC7=>AG h4 λl1 aa h5=>?_
  refine JT 8 [pO 20<|.mref 1005 B,pO 21<|.ptr 7 (J 1) 0 0,pO 22<|rI M.Item,pO 23<|.own 1003<|J 0,pO 24<|.agg<|B4 M,⟨some 25,(λI=>.own 25<|I 5),some (25,(λI=>some<|.arr (I 5) 121 4<|[M].map AB.row)),[5]⟩,⟨some 26,(λI=>.own 1003<|I 6),some (1003,(λI=>some<|.arr (I 6) 121 4<|l1.map AB.row)),[6]⟩,⟨none,(λ_=>.any),some (1002,(λI=>some<|.box j 115 [.own 1003<|I 6])),[6]⟩] BZ (by kernel_rfl) (by exact⟨λ_ _ h=>⟨R,λ_ _ e=>by cases e⟩,λ_ _ h=>⟨R,λ_ _ e=>by cases e⟩,λ_ _ h=>⟨R,λ_ _ e=>by cases e⟩,λ_ _ h=>⟨R,λ_ _ e=>by cases e⟩,λ_ _ h=>⟨R,λ_ _ e=>by cases e⟩,λ_ _ h=>⟨by simp only[h 5 R],λ_ _ e=>by cases e;simp only[h 5 R]⟩,λ_ _ h=>⟨by simp only[h 6 R],λ_ _ e=>by cases e;simp only[h 6 R]⟩,λ_ _ h=>⟨R,λ_ _ e=>by cases e;simp only[h 6 R]⟩,Za⟩) R (by exact⟨oB [(3,.ptr 1004 m 0 0)] [(1004,some<|.box m 192 [.mref 1005 B])]<|Ab (a:=.mref 1005 B) R Pn (.inl R) R R,oB [(7,.ptr 7 (J 1) 0 0)] [(7,some<|.box (J 1) 121<|B4 M)]<|fB R EX (.inl R) (λ_=>R) R,oB [(21,.ptr 7 (J 1) 0 0)] [(7,some<|.box (J 1) 121<|B4 M)]<|Ab (a:=rI M.Item) R AI (.inl R) R R,oB [(2,.ptr 1002 j 0 0)] [(1002,some<|.box j 115 [.own 1003<|J 0])]<|Ab (a:=.own 1003<|J 0) R Us (.inl R) R R,oB [(7,.ptr 7 (J 1) 0 0)] [(7,some<|.box (J 1) 121<|B4 M)]<|Dr R GK (.inl R) R R,oM (λ_=>[(24,.agg<|B4 M)]) (λ_=>[]) R λI e h' n=>CG 25 R BM (f:=AB.row) (l:=([M]:List AB)) ⟨R,⟨_,(.inl R),R⟩,Za⟩ R (λ_=>R) R,oM (λI=>[(23,.own 1003<|J 0),(25,.own 25<|I 5)]) (λI=>[(25,some<|.arr (I 5) 121 4<|[M].map AB.row),(1003,some<|.arr (J 0) 121 4<|o2.map AB.row)]) R λI e h' n=>Dp R BM (.inl R) R (.inr<|.inl ⟨_,_,(.inl R),R⟩) aa,oM (λI=>[(2,.ptr 1002 j 0 0),(26,.own 1003<|I 6)]) (λI=>[(1002,some<|.box j 115 [.own 1003<|J 0]),(1003,some<|.arr (I 6) 121 4<|l1.map AB.row)]) R λI e h' n=>A6 (ds:=[.own 1003<|I 6]) R Z1 (.inl R) R (.inl R) R R R R,Za⟩) λI n2=>?_
  refine Bm [2,3,4,7,14,15,16,17,18,19,20,21,22,24,25,26] [7,25,1000,1001,1002,1003,1004,1005,1006] ?_
  refine Zl R R (Mz (rd:=RV.bool) (a:=true) iL underlying192 underlying3 iL iL iL R)<|aZ<|C7 _<|aG [2,3,4,7,14,15,16] [7,1000,1001,1002,1003,1004,1005,1006] ?_
  refine aR<|sQ R (Ab (a:=.fn 215 [.ptr 1000 A 0 0,.ptr 1002 j 0 0,.ptr 1004 m 0 0,.ptr 1006 w 0 0]) R W6 iL R R)<|lF EX AI R R<|LZ h5 λw2 w3 w4 ab h6=>?_
  refine ZA [1000,1001,1002,1003,1004,1005,1006] (hc:=[(1000,some<|.box A 268 [.mref 1001 q]),(1001,some<|.mr q C 121 4 none<|AJ (λ(l:List AB)=>l.map AB.row) U),(1002,some<|.box j 115 [.own 1003<|I 6]),(1003,some<|.arr (I 6) 121 4<|l1.map AB.row),(1004,some<|.box m 192 [.mref 1005 B]),(1005,some<|.md B<|AJ RV.bool<|Ag V M.Item true),(1006,some<|.box w 274 [.fn 215 [.ptr 1000 A 0 0,.ptr 1002 j 0 0,.ptr 1004 m 0 0,.ptr 1006 w 0 0]])]) (bs:=[rI M.Item]) (caps:=[.ptr 1000 A 0 0,.ptr 1002 j 0 0,.ptr 1004 m 0 0,.ptr 1006 w 0 0]) R R R R iL R ⟨.inl ⟨iL,R⟩,Za⟩ ⟨R,R,R,R,R,R,R,R,R,R,R,R,R,R,R,R,R,R,R,R,R,Za⟩ (by decide) (O ab) ?_
  intro i6 n3
  refine Bm [2,3,4,7,14,15,16,27,28,29,30] [7,1000,1001,1002,1003,1004,1005,1006] ?_
  exact aZ<|C5 _<|aR<|AG h6 λx5 ac h7=>xA R ac<|mM R<|Zh<|RU.mk h7 (AH [(i6 0),n3]) wk
 refine Zm ?_
 exact B9.mk (s':=⟨[],[(1000,some<|.box A 268 [.mref 1001 q]),(1001,some<|.mr q C 121 4 none<|AJ (λ(l:List AB)=>l.map AB.row) U),(1002,some<|.box j 115 [.own 1003<|J 0]),(1003,some<|.arr (J 0) 121 4<|o2.map AB.row),(1004,some<|.box m 192 [.mref 1005 B]),(1005,some<|.md B<|AJ RV.bool V),(1006,some<|.box w 274 [.fn 215 [.ptr 1000 A 0 0,.ptr 1002 j 0 0,.ptr 1004 m 0 0,.ptr 1006 w 0 0]])],(J 1),32⟩) wk<|CX (λ(r:(List<|Int × (List AB)) × (List AB) × (List<|Int × Bool)) Z h'=>∃(i:Nat→Nat),Z=.tup []∧h'=[(1000,some<|.box A 268 [.mref 1001 q]),(1001,some<|.mr q C 121 4 none<|AJ (λ(l:List AB)=>l.map AB.row) r.1),(1002,some<|.box j 115 [.own 1003<|i 0]),(1003,some<|.arr (i 0) 121 4<|r.2.1.map AB.row),(1004,some<|.box m 192 [.mref 1005 B]),(1005,some<|.md B<|AJ RV.bool r.2.2),(1006,some<|.box w 274 [.fn 215 [.ptr 1000 A 0 0,.ptr 1002 j 0 0,.ptr 1004 m 0 0,.ptr 1006 w 0 0]])]) (a6 _<|xH a8 h3)<|by exact⟨.tup [],[(1000,some<|.box A 268 [.mref 1001 q]),(1001,some<|.mr q C 121 4 none<|AJ (λ(l:List AB)=>l.map AB.row) U),(1002,some<|.box j 115 [.own 1003<|J 0]),(1003,some<|.arr (J 0) 121 4<|o2.map AB.row),(1004,some<|.box m 192 [.mref 1005 B]),(1005,some<|.md B<|AJ RV.bool V),(1006,some<|.box w 274 [.fn 215 [.ptr 1000 A 0 0,.ptr 1002 j 0 0,.ptr 1004 m 0 0,.ptr 1006 w 0 0]])],⟨_,R,Za⟩,⟨.inr R,.inr R,.inr R,.inr R,.inr R,.inr R,.inr R,Za⟩,R,R,AH [(J 0)],R,R⟩
theorem lX(n:Nat):∀ {I:List (Int × (List AB))} {J:List AB} {m2:List (Int × Bool)} {j:Int} {r:(List<|Int × (List AB)) × (List AB) × (List<|Int × Bool)} {m:Nat} {B:Nat} {E:Nat} {q:Nat} {F:Nat} {w:Nat} {C:Nat} {A:Nat},DW n I J m2 j=some r→BH prog 215 7 [rI j,.ptr 1000 m 0 0,.ptr 1002 q 0 0,.ptr 1004 w 0 0,.ptr 1006 A 0 0] [(1000,some<|.box m 268 [.mref 1001 B]),(1001,some<|.mr B E 121 4 none<|AJ (λ(l:List AB)=>l.map AB.row) I),(1002,some<|.box q 115 [.own 1003 F]),(1003,some<|.arr F 121 4<|J.map AB.row),(1004,some<|.box w 192 [.mref 1005 C]),(1005,some<|.md C<|AJ RV.bool m2),(1006,some<|.box A 274 [.fn 215 [.ptr 1000 m 0 0,.ptr 1002 q 0 0,.ptr 1004 w 0 0,.ptr 1006 A 0 0]])] (λM h'=>∃(i:Nat→Nat),M=.tup []∧h'=[(1000,some<|.box m 268 [.mref 1001 B]),(1001,some<|.mr B E 121 4 none<|AJ (λ(l:List AB)=>l.map AB.row) r.1),(1002,some<|.box q 115 [.own 1003<|i 0]),(1003,some<|.arr (i 0) 121 4<|r.2.1.map AB.row),(1004,some<|.box w 192 [.mref 1005 C]),(1005,some<|.md C<|AJ RV.bool r.2.2),(1006,some<|.box A 274 [.fn 215 [.ptr 1000 m 0 0,.ptr 1002 q 0 0,.ptr 1004 w 0 0,.ptr 1006 A 0 0]])]):=by
 induction n with
 | zero=>intro I J m2 j r m B E q F w C A h;exact absurd (show(none:Option ((List<|Int × (List AB)) × (List AB) × (List<|Int × Bool)))=some r from h)<|by simp
 | succ n O=>intro I J m2 j r m B E q F w C A h;exact cW (self:=λI J m2 j=>DW n I J m2 j) (λT=>O T) h
theorem ff{I:List (Int × (List AB))}{J:List AB}{m2:List (Int × Bool)}{C:Int}{r:(List<|Int × (List AB)) × (List AB) × (List<|Int × Bool)}{j:Nat}{A:Nat}{E:Nat}{m:Nat}{F:Nat}{q:Nat}{B:Nat}{w:Nat}(h:N2 I J m2 C=some r):BH prog 215 7 [rI C,.ptr 1000 j 0 0,.ptr 1002 m 0 0,.ptr 1004 q 0 0,.ptr 1006 w 0 0] [(1000,some<|.box j 268 [.mref 1001 A]),(1001,some<|.mr A E 121 4 none<|AJ (λ(l:List AB)=>l.map AB.row) I),(1002,some<|.box m 115 [.own 1003 F]),(1003,some<|.arr F 121 4<|J.map AB.row),(1004,some<|.box q 192 [.mref 1005 B]),(1005,some<|.md B<|AJ RV.bool m2),(1006,some<|.box w 274 [.fn 215 [.ptr 1000 j 0 0,.ptr 1002 m 0 0,.ptr 1004 q 0 0,.ptr 1006 w 0 0]])] (λO h'=>∃(i:Nat→Nat),O=.tup []∧h'=[(1000,some<|.box j 268 [.mref 1001 A]),(1001,some<|.mr A E 121 4 none<|AJ (λ(l:List AB)=>l.map AB.row) r.1),(1002,some<|.box m 115 [.own 1003<|i 0]),(1003,some<|.arr (i 0) 121 4<|r.2.1.map AB.row),(1004,some<|.box q 192 [.mref 1005 B]),(1005,some<|.md B<|AJ RV.bool r.2.2),(1006,some<|.box w 274 [.fn 215 [.ptr 1000 j 0 0,.ptr 1002 m 0 0,.ptr 1004 q 0 0,.ptr 1006 w 0 0]])]):=by
 unfold N2 at h
 by_cases M:∃n r,DW n I J m2 C=some r
 ·rw[tv M] at h;exact lX _ h
 ·rw[dif_neg M] at h;cases h
theorem lv{j l r}(h:ND j l=some r):AS prog 221 [.agg<|B4 j,.agg<|B4 l] (rI r):=by
 unfold ND at h
 exact mF func221 ntmps221 R λw=>aU<|sS R (BC (cs:=(B4 j)) 2 R iL R R)<|sS R (BC (cs:=(B4 l)) 3 R iL R R)<|mA R<|aZ<|aU<|lF EX AI R R<|lF EX AI R R<|AG h λA m q=>cL (L0<|m) R<|mA R<|aZ<|Zj<|yI q R
theorem fU{l1 r}(h:OV l1=some r):AS prog 151 [qf l1] (qg r):=by
 unfold OV at h
 refine mF func151 ntmps151 R λn0=>aU<|mA R<|aZ<|aT λc2=>aR<|mM R<|FY h λw1 B af h1=>?_
 refine ZA [14,8225,8226] (hc:=[]) (bs:=[qf l1]) (caps:=[]) R R R R iL R ⟨.inl ⟨iL,R⟩,Za⟩ Za (by decide) (ga af) ?_
 intro m A
 refine Bm [0,2,13,14] [14,8225,8226] ?_
 refine mA R<|aZ<|c2 _<|aT λc3=>aR ?_
 refine sS R (lh AB.row 15 121 4 R<|by decide) ?_
 refine sS R (BN (cs:=[.cst<|.map none]) 4 R eT R R)<|Zl R R (A6 (ds:=[.mref 15 A]) R fb iL R iL R R R R)<|aZ<|c3 _<|aU<|mA R<|aZ<|aT λc5=>aU<|mM R<|sQ R (KX (ob:=.box _ _ _) R iL fR R)<|lF US Sq R R<|sS R (mz (ob:=.mb (m 1) (m 2) 121<|AJ AB.row w1) 20 R underlying269 iL R (Uu _ _ _ _ _) R)<|aZ ?_
 refine AW.weak (s':=⟨[(3,.ptr 14 (m 0) 0 0),(4,.ptr 4 (A+1) 0 0),(5,.own 5005<|A+3),(20,.ptr 20 (A+2) 0 0)],[(4,some<|.box (A+1) 268 [.mref 15 A]),(14,some<|.box (m 0) 272 [.mref 8225<|m 1,.mref 8226<|m 3]),(15,some<|.mr A A 121 4 none<|AJ (λ(l:List AB)=>l.map AB.row) ([]:List (Int × (List AB)))),(20,some (.mj (A+2) 8225 (m 1) ((w1.map (·.1)).length) [])),(5005,some<|.arr (A+3) 121 4<|([]:List AB).map AB.row),(8225,some<|.mb (m 1) (m 2) 121<|AJ AB.row w1),(8226,some<|.md (m 3)<|AJ (λ(l:List AE)=>RV.sl<|l.map AE.row) B)],(A+4),80⟩) (Zw (Zw (IT 5 5005 121 4 (by decide) R) (by exact Ah.cv (e':=[(0,qf l1),(2,cZ),(3,.ptr 14 (m 0) 0 0),(4,.ptr 4 (A+1) 0 0),(5,.own 5005<|A+3),(13,qf l1),(14,.ptr 14 (m 0) 0 0),(15,.mref 15 A),(16,.ptr 14 (m 0) 0 0),(17,.ptr 14 (m 0) 0 0),(18,.ptr 14 (m 0) 0 0),(19,.mref 8225<|m 1),(20,.ptr 20 (A+2) 0 0)]) (h':=[(4,some<|.box (A+1) 268 [.mref 15 A]),(14,some<|.box (m 0) 272 [.mref 8225<|m 1,.mref 8226<|m 3]),(15,some<|.mr A A 121 4 none<|AJ (λ(l:List AB)=>l.map AB.row) ([]:List (Int × (List AB)))),(20,some (.mj (A+2) 8225 (m 1) ((w1.map (·.1)).length) [])),(5005,some<|.arr (A+3) 121 4<|([]:List AB).map AB.row),(8225,some<|.mb (m 1) (m 2) 121<|AJ AB.row w1),(8226,some<|.md (m 3)<|AJ (λ(l:List AE)=>RV.sl<|l.map AE.row) B)]) ⟨jL,jL,jL,jL,jL,jL,jL,jL,jL,jL,jL,jL,jL,Za⟩ ⟨.inl R,.inl R,.inl R,.inl R,.inl R,.inl R,.inl R,Za⟩ nL)) wk) ?_
 refine qj (mid:=8225) (mg:=(m 1)) (key:=λ(a:(List AB) × (List<|Int × AB) × (List<|Int × (List AB)))=>a.2.1.map (·.1)) (F:=λ(a:(List AB) × (List<|Int × AB) × (List<|Int × (List AB))) (q:Int)=>HM B a.1 a.2.1 a.2.2 q) (st0:=([],w1,[])) 20 (λ(a:(List AB) × (List<|Int × AB) × (List<|Int × (List AB))) w=>[(3,.ptr 14 (m 0) 0 0),(4,.ptr 4 (A+1) 0 0),(5,.own 5005<|w 0),(20,.ptr 20 (A+2) 0 0)]) (λ(a:(List AB) × (List<|Int × AB) × (List<|Int × (List AB))) w=>[(4,some<|.box (A+1) 268 [.mref 15 A]),(14,some<|.box (m 0) 272 [.mref 8225<|m 1,.mref 8226<|m 3]),(15,some<|.mr A (w 1) 121 4 none<|AJ (λ(l:List AB)=>l.map AB.row) a.2.2),(5005,some<|.arr (w 0) 121 4<|a.1.map AB.row),(8225,some<|.mb (m 1) (m 2) 121<|AJ AB.row a.2.1),(8226,some<|.md (m 3)<|AJ (λ(l:List AE)=>RV.sl<|l.map AE.row) B)]) (λw=>w 2) h1 ⟨(AH [(A+3),A,(A+4)]),wk⟩ R R R R R R R R (λ_ _=>.inl R) (λ_ _=>R) (λ_ _=>R) (λ_ _=>⟨_,R,R,Uu _ _ _ _ _⟩) R (λ_ _=>R) ?_ ?_
 ·intro a0 q j1 ag ah w ai aj a7 ak
  obtain⟨J,C,X⟩:=a0
  have h2:HM B J C X q=some ah:=ai;unfold HM at h2
  refine aG [3,4,5,20] [4,14,15,20,5005,8225,8226] ?_
  refine Zg<|aU<|sQ R (cG R (.inl R) R R ak aj a7)<|xX R<|xX R<|mA R<|mA R<|aZ<|aU<|mM R<|mM R<|sQ R (KX (ob:=.box _ _ _) R iL fR R)<|lF T3 ST R R<|mM R<|sQ R (Ou (rd:=(λ(l:List AE)=>RV.sl<|l.map AE.row)) false (.slice none 0 0) [] R underlying270 underlying3 (Hw SC) (λ_ _=>.snil) (.inl R) (.inl R) R)<|AG h2 λj E h3=>sQ R (MD R iL R R λ_=>E)<|sQ R (Re R KP iL R R λ_=>E)<|Zl R R (co (a:=j) (a':=(AB.mk j.Item j.Parent j.Place<|(AR B q).getD [])) R Ks iL R R E iL R R)<|aZ<|aT λc9=>aG [3,4,5,7,20] [4,14,15,20,5005,8225,8226] ?_
  refine AG h3 λl2 al h4=>?_
  refine JT 16 [pO 35<|.mref 15 A,pO 36<|.pk 8225 (m 1) (m 2) (Aq C q) 0,pO 37<|.pk 8225 (m 1) (m 2) (Aq C q) 0,pO 38<|.pk 8225 (m 1) (m 2) (Aq C q) 1,pO 39<|rI<|((AB.mk j.Item j.Parent j.Place<|(AR B q).getD []).Parent),pO 40<|.mref 15 A,pO 41<|.pk 8225 (m 1) (m 2) (Aq C q) 0,pO 42<|.pk 8225 (m 1) (m 2) (Aq C q) 0,pO 43<|.pk 8225 (m 1) (m 2) (Aq C q) 1,pO 44<|rI<|((AB.mk j.Item j.Parent j.Place<|(AR B q).getD []).Parent),pO 45<|.fo 15 A (w 1)<|(AB.mk j.Item j.Parent j.Place<|(AR B q).getD []).Parent,pO 46<|.pk 8225 (m 1) (m 2) (Aq C q) 0,pO 47<|.pk 8225 (m 1) (m 2) (Aq C q) 0,pO 48<|.agg [rI<|((AB.mk j.Item j.Parent j.Place<|(AR B q).getD []).Item),rI<|((AB.mk j.Item j.Parent j.Place<|(AR B q).getD []).Parent),.r<|.str<|(AB.mk j.Item j.Parent j.Place<|(AR B q).getD []).Place,.r<|.sl<|((AB.mk j.Item j.Parent j.Place<|(AR B q).getD []).Attrs).map AE.row],⟨some 49,(λI=>.own 49<|I 14),some (49,(λI=>some<|.arr (I 14) 121 4<|[(AB.mk j.Item j.Parent j.Place<|(AR B q).getD [])].map AB.row)),[14]⟩,⟨some 50,(λI=>.fo 15 A (I 15)<|(AB.mk j.Item j.Parent j.Place<|(AR B q).getD []).Parent),some (15,(λI=>some<|.mr A (I 15) 121 4 (some (Aq X<|(AB.mk j.Item j.Parent j.Place<|(AR B q).getD []).Parent,(AR X<|(AB.mk j.Item j.Parent j.Place<|(AR B q).getD []).Parent).isNone))<|AJ (λ(l:List AB)=>l.map AB.row)<|Ag X ((AB.mk j.Item j.Parent j.Place<|(AR B q).getD []).Parent) l2)),[15]⟩] BZ (by kernel_rfl) (by exact⟨λ_ _ h=>⟨R,λ_ _ e=>by cases e⟩,λ_ _ h=>⟨R,λ_ _ e=>by cases e⟩,λ_ _ h=>⟨R,λ_ _ e=>by cases e⟩,λ_ _ h=>⟨R,λ_ _ e=>by cases e⟩,λ_ _ h=>⟨R,λ_ _ e=>by cases e⟩,λ_ _ h=>⟨R,λ_ _ e=>by cases e⟩,λ_ _ h=>⟨R,λ_ _ e=>by cases e⟩,λ_ _ h=>⟨R,λ_ _ e=>by cases e⟩,λ_ _ h=>⟨R,λ_ _ e=>by cases e⟩,λ_ _ h=>⟨R,λ_ _ e=>by cases e⟩,λ_ _ h=>⟨R,λ_ _ e=>by cases e⟩,λ_ _ h=>⟨R,λ_ _ e=>by cases e⟩,λ_ _ h=>⟨R,λ_ _ e=>by cases e⟩,λ_ _ h=>⟨R,λ_ _ e=>by cases e⟩,λ_ _ h=>⟨by simp only[h 14 R],λ_ _ e=>by cases e;simp only[h 14 R]⟩,λ_ _ h=>⟨by simp only[h 15 R],λ_ _ e=>by cases e;simp only[h 15 R]⟩,Za⟩) R (by exact⟨oB [(4,.ptr 4 (A+1) 0 0)] [(4,some<|.box (A+1) 268 [.mref 15 A])]<|Ab (a:=.mref 15 A) R Qw (.inl R) R R,oB [(7,.pk 8225 (m 1) (m 2) (Aq C q) 0)] [(8225,some<|.mb (m 1) (m 2) 121<|AJ AB.row<|Ag C q<|AB.mk j.Item j.Parent j.Place<|(AR B q).getD [])]<|AL R<|.inl R,oB [(36,.pk 8225 (m 1) (m 2) (Aq C q) 0)] [(8225,some<|.mb (m 1) (m 2) 121<|AJ AB.row<|Ag C q<|AB.mk j.Item j.Parent j.Place<|(AR B q).getD [])]<|MD R (.inl R) R (by rw[HS E]) λ_=>Gc _ _ _,oB [(37,.pk 8225 (m 1) (m 2) (Aq C q) 0)] [(8225,some<|.mb (m 1) (m 2) 121<|AJ AB.row<|Ag C q<|AB.mk j.Item j.Parent j.Place<|(AR B q).getD [])]<|Re R Lg (.inl R) R (by rw[HS E]) λ_=>Gc _ _ _,oB [(38,.pk 8225 (m 1) (m 2) (Aq C q) 1)] [(8225,some<|.mb (m 1) (m 2) 121<|AJ AB.row<|Ag C q<|AB.mk j.Item j.Parent j.Place<|(AR B q).getD [])]<|Ui (a:=(AB.mk j.Item j.Parent j.Place<|(AR B q).getD [])) (d:=.int .i64<|(AB.mk j.Item j.Parent j.Place<|(AR B q).getD []).Parent) R AI (.inl R) R (by rw[HS E]) (λ_=>Gc _ _ _) R,oB [(4,.ptr 4 (A+1) 0 0)] [(4,some<|.box (A+1) 268 [.mref 15 A])]<|Ab (a:=.mref 15 A) R Qw (.inl R) R R,oB [(7,.pk 8225 (m 1) (m 2) (Aq C q) 0)] [(8225,some<|.mb (m 1) (m 2) 121<|AJ AB.row<|Ag C q<|AB.mk j.Item j.Parent j.Place<|(AR B q).getD [])]<|AL R<|.inl R,oB [(41,.pk 8225 (m 1) (m 2) (Aq C q) 0)] [(8225,some<|.mb (m 1) (m 2) 121<|AJ AB.row<|Ag C q<|AB.mk j.Item j.Parent j.Place<|(AR B q).getD [])]<|MD R (.inl R) R (by rw[HS E]) λ_=>Gc _ _ _,oB [(42,.pk 8225 (m 1) (m 2) (Aq C q) 0)] [(8225,some<|.mb (m 1) (m 2) 121<|AJ AB.row<|Ag C q<|AB.mk j.Item j.Parent j.Place<|(AR B q).getD [])]<|Re R Lg (.inl R) R (by rw[HS E]) λ_=>Gc _ _ _,oB [(43,.pk 8225 (m 1) (m 2) (Aq C q) 1)] [(8225,some<|.mb (m 1) (m 2) 121<|AJ AB.row<|Ag C q<|AB.mk j.Item j.Parent j.Place<|(AR B q).getD [])]<|Ui (a:=(AB.mk j.Item j.Parent j.Place<|(AR B q).getD [])) (d:=.int .i64<|(AB.mk j.Item j.Parent j.Place<|(AR B q).getD []).Parent) R AI (.inl R) R (by rw[HS E]) (λ_=>Gc _ _ _) R,oB [(40,.mref 15 A),(44,rI<|((AB.mk j.Item j.Parent j.Place<|(AR B q).getD []).Parent))] [(15,some<|.mr A (w 1) 121 4 none<|AJ (λ(l:List AB)=>l.map AB.row) X)]<|VG R underlying268 underlying3 (Hw Qr) (.inl R) (.inl R) R,oB [(7,.pk 8225 (m 1) (m 2) (Aq C q) 0)] [(8225,some<|.mb (m 1) (m 2) 121<|AJ AB.row<|Ag C q<|AB.mk j.Item j.Parent j.Place<|(AR B q).getD [])]<|AL R<|.inl R,oB [(46,.pk 8225 (m 1) (m 2) (Aq C q) 0)] [(8225,some<|.mb (m 1) (m 2) 121<|AJ AB.row<|Ag C q<|AB.mk j.Item j.Parent j.Place<|(AR B q).getD [])]<|MD R (.inl R) R (by rw[HS E]) λ_=>Gc _ _ _,oB [(47,.pk 8225 (m 1) (m 2) (Aq C q) 0)] [(8225,some<|.mb (m 1) (m 2) 121<|AJ AB.row<|Ag C q<|AB.mk j.Item j.Parent j.Place<|(AR B q).getD [])]<|XL (a:=(AB.mk j.Item j.Parent j.Place<|(AR B q).getD [])) (cs:=[rI<|((AB.mk j.Item j.Parent j.Place<|(AR B q).getD []).Item),rI<|((AB.mk j.Item j.Parent j.Place<|(AR B q).getD []).Parent),.r<|.str<|(AB.mk j.Item j.Parent j.Place<|(AR B q).getD []).Place,.r<|.sl<|((AB.mk j.Item j.Parent j.Place<|(AR B q).getD []).Attrs).map AE.row]) R GK (.inl R) R (by rw[HS E]) (λ_=>Gc _ _ _) R R,oM (λ_=>[(48,.agg [rI<|((AB.mk j.Item j.Parent j.Place<|(AR B q).getD []).Item),rI<|((AB.mk j.Item j.Parent j.Place<|(AR B q).getD []).Parent),.r<|.str<|(AB.mk j.Item j.Parent j.Place<|(AR B q).getD []).Place,.r<|.sl<|((AB.mk j.Item j.Parent j.Place<|(AR B q).getD []).Attrs).map AE.row])]) (λ_=>[]) R λI e h' n=>CG 49 R BM (f:=AB.row) (l:=([(AB.mk j.Item j.Parent j.Place<|(AR B q).getD [])]:List AB)) ⟨R,⟨_,(.inl R),R⟩,Za⟩ R (λ_=>R) R,oM (λI=>[(45,.fo 15 A (w 1)<|(AB.mk j.Item j.Parent j.Place<|(AR B q).getD []).Parent),(49,.own 49<|I 14)]) (λI=>[(15,some<|.mr A (w 1) 121 4 none<|AJ (λ(l:List AB)=>l.map AB.row) X),(49,some<|.arr (I 14) 121 4<|[(AB.mk j.Item j.Parent j.Place<|(AR B q).getD [])].map AB.row)]) R λI e h' n=>jK (ys:=[(AB.mk j.Item j.Parent j.Place<|(AR B q).getD [])]) R BM (.inl R) R (.inr<|.inl ⟨_,_,_,(.inl R),R⟩) R al,Za⟩) λI n2=>?_
  refine Bm [3,4,5,7,20,35,36,37,38,39,40,41,42,43,44,46,47,48,49,50] [4,14,15,20,49,5005,8225,8226] ?_
  refine Zl R R (iS iL underlying268 underlying3 iL iL iL R)<|aZ<|c9 _<|aG [3,4,5,7,20] [4,14,15,20,5005,8225,8226] ?_
  refine aR<|mM R<|mM R ?_
  refine sQ R (MD R iL R (by rw[HS E]) λ_=>Gc _ _ _) ?_
  refine sQ R (XL (a:=(AB.mk j.Item j.Parent j.Place<|(AR B q).getD [])) (cs:=[rI<|((AB.mk j.Item j.Parent j.Place<|(AR B q).getD []).Item),rI<|((AB.mk j.Item j.Parent j.Place<|(AR B q).getD []).Parent),.r<|.str<|(AB.mk j.Item j.Parent j.Place<|(AR B q).getD []).Place,.r<|.sl<|((AB.mk j.Item j.Parent j.Place<|(AR B q).getD []).Attrs).map AE.row]) R GK iL R (by rw[HS E]) (λ_=>Gc _ _ _) R R) ?_
  refine sS R (CG 55 R BM (f:=AB.row) (l:=([(AB.mk j.Item j.Parent j.Place<|(AR B q).getD [])]:List AB)) ⟨R,⟨_,iL,R⟩,Za⟩ R (λ_=>R) R)<|AG h4 λa8 a1 h5=>sS R (Dp R BM iL R (.inr<|.inl ⟨_,_,iL,R⟩) a1)<|mA R<|Zh ?_
  show Exit.normal=Exit.normal∧∃i':Nat→Nat,Ah _ _
  have aa:=Zf h5;subst aa
  exact⟨R,(AH [(n2+1),(I 15),(n2+2)]),(Zw (show Ah _ ⟨[(3,.ptr 14 (m 0) 0 0),(4,.ptr 4 (A+1) 0 0),(5,.own 5005<|n2+1),(20,.ptr 20 (A+2) 0 0)],[(4,some<|.box (A+1) 268 [.mref 15 A]),(14,some<|.box (m 0) 272 [.mref 8225<|m 1,.mref 8226<|m 3]),(15,some<|.mr A (I 15) 121 4 none<|AJ (λ(l:List AB)=>l.map AB.row)<|Ag X ((AB.mk j.Item j.Parent j.Place<|(AR B q).getD []).Parent) l2),(20,some (.mj (A+2) 8225 (m 1) ((w1.map (·.1)).length)<|ag++[j1])),(5005,some<|.arr (n2+1) 121 4<|a8.map AB.row),(8225,some<|.mb (m 1) (m 2) 121<|AJ AB.row<|Ag C q<|AB.mk j.Item j.Parent j.Place<|(AR B q).getD []),(8226,some<|.md (m 3)<|AJ (λ(l:List AE)=>RV.sl<|l.map AE.row) B)],(n2+2),80⟩ from wk) wk)⟩
 intro a0 w an
 obtain⟨J,C,X⟩:=a0
 have h6:=ku an
 refine c5 _<|aU<|sS R (BN (cs:=[cZ]) 8 R Qr R R)<|aZ<|aU<|sS R (Rh RV.bool 57 R)<|sS R (BN (cs:=[.cst<|.map none]) 9 R Wr R R)<|Zl R R (A6 (ds:=[.mref 57<|(w 2)+1]) R WL iL R iL R R R R)<|aZ<|aU<|sS R (BN (cs:=[.cst<|.nilFunc]) 10 R pL R R)<|aZ<|aT λao=>aR ?_
 refine sQ R (JW (bs:=[.ptr 4 (A+1) 0 0,.ptr 8 (w 2) 0 0,.ptr 9 ((w 2)+2) 0 0,.ptr 10 ((w 2)+3) 0 0]) R<|by exact⟨iL,iL,iL,iL,Za⟩) ?_
 refine Zl R R (A6 (ds:=[.fn 215 [.ptr 4 (A+1) 0 0,.ptr 8 (w 2) 0 0,.ptr 9 ((w 2)+2) 0 0,.ptr 10 ((w 2)+3) 0 0]]) R oK iL R iL R R R R)<|aZ<|ao _<|aT λaq=>aR<|sQ R (Ab (a:=.fn 215 [.ptr 4 (A+1) 0 0,.ptr 8 (w 2) 0 0,.ptr 9 ((w 2)+2) 0 0,.ptr 10 ((w 2)+3) 0 0]) R W6 iL R R) ?_
 refine AK.weak (Zw (bJ 8 0 3080 121 4 (by decide) R R<|by decide)<|by exact Ah.cv (e':=[(3,.ptr 14 (m 0) 0 0),(4,.ptr 4 (A+1) 0 0),(5,.own 5005<|w 0),(8,.ptr 8 (w 2) 0 0),(9,.ptr 9 ((w 2)+2) 0 0),(10,.ptr 10 ((w 2)+3) 0 0),(57,.mref 57<|(w 2)+1),(58,.fn 215 [.ptr 4 (A+1) 0 0,.ptr 8 (w 2) 0 0,.ptr 9 ((w 2)+2) 0 0,.ptr 10 ((w 2)+3) 0 0]),(59,.fn 215 [.ptr 4 (A+1) 0 0,.ptr 8 (w 2) 0 0,.ptr 9 ((w 2)+2) 0 0,.ptr 10 ((w 2)+3) 0 0])]) (h':=[(4,some<|.box (A+1) 268 [.mref 15 A]),(8,some<|.box (w 2) 115 [.own 3080<|(w 2)+4]),(9,some<|.box ((w 2)+2) 192 [.mref 57<|(w 2)+1]),(10,some<|.box ((w 2)+3) 274 [.fn 215 [.ptr 4 (A+1) 0 0,.ptr 8 (w 2) 0 0,.ptr 9 ((w 2)+2) 0 0,.ptr 10 ((w 2)+3) 0 0]]),(14,some<|.box (m 0) 272 [.mref 8225<|m 1,.mref 8226<|m 3]),(15,some<|.mr A (w 1) 121 4 none<|AJ (λ(l:List AB)=>l.map AB.row) X),(57,some<|.md ((w 2)+1)<|AJ RV.bool ([]:List (Int × Bool))),(3080,some<|.arr ((w 2)+4) 121 4<|([]:List AB).map AB.row),(5005,some<|.arr (w 0) 121 4<|J.map AB.row),(8225,some<|.mb (m 1) (m 2) 121<|AJ AB.row C),(8226,some<|.md (m 3)<|AJ (λ(l:List AE)=>RV.sl<|l.map AE.row) B)]) ⟨jL,jL,jL,jL,jL,jL,jL,jL,jL,Za⟩ ⟨.inl R,.inl R,.inl R,.inl R,.inl R,.inl R,.inl R,.inl R,.inl R,.inl R,.inl R,Za⟩ nL) ?_
 refine LZ h6 λw3 w4 w5 ar h7=>?_
 refine ZA [4,15,8,3080,9,57,10] (hc:=[(1000,some<|.box (A+1) 268 [.mref 1001 A]),(1001,some<|.mr A (w 1) 121 4 none<|AJ (λ(l:List AB)=>l.map AB.row) X),(1002,some<|.box (w 2) 115 [.own 1003<|(w 2)+4]),(1003,some<|.arr ((w 2)+4) 121 4<|([]:List AB).map AB.row),(1004,some<|.box ((w 2)+2) 192 [.mref 1005<|(w 2)+1]),(1005,some<|.md ((w 2)+1)<|AJ RV.bool ([]:List (Int × Bool))),(1006,some<|.box ((w 2)+3) 274 [.fn 215 [.ptr 1000 (A+1) 0 0,.ptr 1002 (w 2) 0 0,.ptr 1004 ((w 2)+2) 0 0,.ptr 1006 ((w 2)+3) 0 0]])]) (bs:=[rI 0]) (caps:=[.ptr 1000 (A+1) 0 0,.ptr 1002 (w 2) 0 0,.ptr 1004 ((w 2)+2) 0 0,.ptr 1006 ((w 2)+3) 0 0]) R R R R iL R ⟨.inl ⟨iL,R⟩,Za⟩ ⟨R,R,R,R,R,R,R,R,R,R,R,R,R,R,R,R,R,R,R,R,R,Za⟩ (by decide) (ff ar) ?_
 intro i6 n3
 refine Bm [3,4,5,8,9,10,57,58,59,60] [4,8,9,10,14,15,57,3080,5005,8225,8226] ?_
 refine aZ<|aq _<|aT λau=>aR<|mM R<|AG h7 λw6 av h8=>?_
 refine ZA [5005] (hc:=[(1000,some<|.arr (w 0) 121 4<|J.map AB.row)]) (bs:=[.own 1000<|w 0,.fn 221 []]) (caps:=[]) R R R R iL R ⟨.inl ⟨iL,R⟩,.inl ⟨iL,R⟩,Za⟩ ⟨R,R,R,Za⟩ (by decide) ((qm (row:=AB.row) Yd (by decide) (λ_=>R) ⟨_,func221,R,R⟩ λ_ _ _ h=>lv h) av) ?_
 intro i7 n4
 refine Bm [3,4,5,8,9,10,57,58,59,60,61,62] [4,8,9,10,14,15,57,3080,5005,8225,8226] ?_
 refine aZ<|au _<|aS λaw ax ab=>aT λay=>aG [5,8,9] [8,9,57,3080,5005] ?_
 refine aR<|mM R<|sQ R (LF R BM.slice iL R)<|mM R<|aZ<|ay _<|Zg<|Bd h8 λo1 ac az=>?_
 have J1:∀(O:List AB) (T:NN),o1=O→aw ⟨[(8,.ptr 8 (w 2) 0 0)],[(8,some<|.box (w 2) 115 [.own 3080<|T 0]),(3080,some<|.arr (T 0) 121 4<|O.map AB.row)],(T 1),80⟩:=by
  intro O T e
  have h9:=az _ e
  exact ax _<|aU<|sQ R (Ab (a:=.own 3080<|T 0) R Us iL R R)<|mA R<|aZ<|Zj<|Cb (P:=prog) (λ(r:(List AB))=>qg r) h9 iL<|.t<|.one<|.own R
 refine Cw (λ(x3:Int) (U:List AB) F=>⟨[(8,.ptr 8 (w 2) 0 0),(9,.ptr 9 ((w 2)+2) 0 0),(63,.own 5005<|w 0),(64,rL w6),(65,rI x3)],[(8,some<|.box (w 2) 115 [.own 3080<|F 0]),(9,some<|.box ((w 2)+2) 192 [.mref 57<|(w 2)+1]),(57,some<|.md ((w 2)+1)<|AJ RV.bool w5),(3080,some<|.arr (F 0) 121 4<|U.map AB.row),(5005,some<|.arr (w 0) 121 4<|w6.map AB.row)],(F 1),80⟩) (AH [(i6 0),n4]) ac wk ?_
 intro x3 U F v1 b0 b1
 have ad:IS w5 w6 x3 U=some v1:=b0;unfold IS at ad
 refine aU<|xS R<|aZ<|aT λb2=>cI R ad (λa2=>?_) λa2=>?_
 ·refine Zc<|b2 _<|aS λb3 b4 Z=>Zg<|Bd a2 λp1 b5 b6=>?_
  have J2:∀(V:List AB) (M:NN),p1=V→b3 ⟨[(8,.ptr 8 (w 2) 0 0),(9,.ptr 9 ((w 2)+2) 0 0),(63,.own 5005<|w 0),(64,rL w6),(65,rI x3)],[(8,some<|.box (w 2) 115 [.own 3080<|M 0]),(9,some<|.box ((w 2)+2) 192 [.mref 57<|(w 2)+1]),(57,some<|.md ((w 2)+1)<|AJ RV.bool w5),(3080,some<|.arr (M 0) 121 4<|V.map AB.row),(5005,some<|.arr (w 0) 121 4<|w6.map AB.row)],(M 1),80⟩:=by
   intro V M e
   have b7:=b6 _ e
   exact b4 _<|aR<|AG b7 λx5 b8 b9=>xA R b8<|mM R<|Zh<|CU.mk b9 (AH [(M 0),(M 1)]) wk
  refine aU<|AG b5 λx6 ae ba=>sQ R (GP R BM.slice iL R iL λ_=>ae)<|sQ R (XZ (cs:=(B4 x6)) R GK iL fR (λ_=>ae) R)<|sS R (BN (cs:=Lf) 12 R M1 R R)<|Zl R R (A6 (ds:=(B4 x6)) R LX iL R iL R R R R)<|aZ<|aU<|sQ R (Ab (a:=.mref 57<|(w 2)+1) R Pn iL R R)<|lF EX AI R R<|sQ R (Ou (rd:=RV.bool) false (.bool false) false R underlying192 underlying3 (Hw Sb) (λ_ _=>.bool _) (.inl R) (.inl R) R)<|sQ R (BB R iL)<|aZ<|cI R ba (λa6=>?_) λa6=>?_
  ·exact aR<|sQ R (Ab (a:=.own 3080<|F 0) R Us iL R R)<|xC GK R<|sS R (CG 76 R BM (f:=AB.row) (l:=([x6]:List AB)) ⟨R,⟨_,iL,R⟩,Za⟩ R (λ_=>R) R)<|AG a6 λl3 bb bc=>sS R (Dp R BM iL R (.inr<|.inl ⟨_,_,iL,R⟩) bb)<|Zl R R (A6 (ds:=[.own 3080<|(F 1)+2]) R Z1 iL R iL R R R R)<|Zh<|Z _ _ wk<|J2 _ (AH [((F 1)+2),((F 1)+3)]) (Zf bc).symm
  exact Zc<|Z _ _ wk<|J2 _ (AH [(F 0),((F 1)+1)]) (Zf a6).symm
 exact Zm<|ab _ _ wk<|J1 _ (AH [(F 0),(F 1)])<|xH b1 a2
theorem pI{i r}(h:Mq i=some r):AS prog 193 [qg i] (rI r):=by
 unfold Mq at h
 refine mF func193 ntmps193 R λq=>aU<|mA R<|aZ<|aU<|sS R (Rh RV.bool 6 R)<|Zl R R (Mz (rd:=RV.bool) (a:=true) (.inr R) underlying192 underlying3 iL iL iL R)<|mM R<|mA R<|aZ<|aS λK3 c3 w=>aU<|mM R<|xL BM R<|mM R<|aZ<|Zg<|BV h λo1 j A B=>?_
 have J1:∀(U:Unit) (V:NN),o1=.nrm U→K3 ⟨[(0,qg i)],[],(V 0),27⟩:=by
  intro U V e
  have h1:=A _ e
  exact c3 _<|aU<|mM R<|xL BM R<|mA R<|aZ<|Zj<|yI h1 R
 refine Cw (λ(C:Int) (m2:List (Int × Bool)) m=>⟨[(0,qg i),(3,.mref 6 q),(8,qg i),(9,rL i),(10,rI C)],[(6,some<|.md q<|AJ RV.bool m2)],(m 0),27⟩) (AH [(q+1)]) j wk ?_
 intro C m2 m v1 E l
 have X:JE i C m2=some v1:=E;unfold JE at X
 refine aU<|xS R<|aZ<|aT λc7=>cI R X (λF=>?_) λF=>?_
 ·refine Zc<|c7 _<|aT λc8=>Zg<|aU<|mM R<|AG F λZ I h4=>xI BM R I<|xB ((B4 Z)) GK R<|sS R (BN (cs:=Lf) 5 R M1 R R)<|mA R<|Zl R R (A6 (ds:=(B4 Z)) R LX iL R iL R R R R)<|aZ<|aT λJ=>aU<|mM R<|lF Lg AI R R<|sQ R (Ou (rd:=RV.bool) false (.bool false) false R underlying192 underlying3 (Hw Sb) (λ_ _=>.bool _) (.inl R) (.inl R) R)<|sQ R (BB R iL)<|aZ<|cI R h4 (λM=>?_) λM=>?_
  ·refine aT λO=>aF [4] ?_
   exact aR<|mM R<|mA R<|aZ<|O _<|Zj<|yI (B _<|xH l M) R
  refine Zc<|J _<|aG [0,3,5,8,9,10] [5,6] ?_
  exact aR<|mM R<|lF EX AI R R<|Zl R R (Mz (rd:=RV.bool) (a:=true) iL underlying192 underlying3 iL iL iL R)<|aZ<|c8 _<|aR<|AG M λx5 T h6=>xA R T<|mM R<|Zh<|CU.mk h6 (AH [((m 0)+1)]) wk
 exact Zm<|w _ _ wk<|J1 _ (AH [(m 0)])<|xH l F
theorem ny{j r}(h:RG j=some r):AS prog 61 [rS j] (.tup [rI r.1,.ifc r.2]):=by
 unfold RG at h
 exact AS.atoiS gh R R R ⟨_,func61,R,R⟩ h
theorem jq{n1 r}(h:strconv_Itoa n1=some r):AS prog 62 [rI n1] (rS r):=by
 unfold strconv_Itoa at h
 exact AS.itoaS (g:=X7) gw R (by kernel_rfl) R ⟨_,func62,R,R⟩ h
theorem nH{d1 n1 r}(h:F0 d1 n1=some r):AS prog 125 [.agg [qb d1.Nodes],.agg<|A5 n1] (.r<|.sl<|r.map<|As .i64):=by
 unfold F0 at h
 refine mF func125 ntmps125 R λj=>aU<|sS R (BC (cs:=[qb d1.Nodes]) 2 R iL R R)<|sS R (BC (cs:=(A5 n1)) 3 R iL R R)<|mA R<|aZ<|aU<|mA R<|aZ<|aU<|lF HG Hd R R<|AG h λJ U h1=>sS R (EA (r:=qg J) (caps:=[]) (bs:=[qf n1.Draw]) R iL R ⟨.inl ⟨iL,R⟩,Za⟩ λ_=>fU<|U)<|mA R<|aZ<|aS λK4 c4 V=>aT λc5=>aR<|mM R<|mM R<|AG h1 λr1 X h2=>cL (pI<|X) R<|AG h2 λA Z h3=>?_
 refine sQ R (Vn R BM.slice iL (by exact R) (by exact⟨_,iL⟩) (λ_=>R) λ_=>Z) ?_
 refine xL BM R<|mM R<|aZ<|c5 _<|Zg<|Bd h3 λo1 M a0=>?_
 have J1:∀(m:List Int) (O:NN),o1=m→K4 ⟨[(5,.own 5005<|O 0)],[(5005,some<|.arr (O 0) 3 1<|m.map<|As .i64)],(O 1),64⟩:=by
  intro m O e
  have h4:=a0 _ e
  exact c4 _<|aU<|mM R<|mA R<|aZ<|Zj<|Cb (P:=prog) (λ(r:(List Int))=>.r<|.sl<|r.map<|As .i64) h4 iL<|.t<|.one<|.own R
 refine Cw (λ(T:Int) (q:List Int) l=>⟨[(2,.ptr 2 j 0 0),(5,.own 5005<|l 0),(20,qg A),(21,rL A),(22,rI T)],[(2,some<|.box j 24 [qb d1.Nodes]),(5005,some<|.arr (l 0) 3 1<|q.map<|As .i64)],(l 1),64⟩) (AH [(j+2),(j+3)]) M (Zw (Zw (IT 5 5005 3 1 (by decide) R)<|by exact Ah.cv (e':=[(0,.agg [qb d1.Nodes]),(1,.agg<|A5 n1),(2,.ptr 2 j 0 0),(3,.ptr 3 (j+1) 0 0),(4,cZ),(5,.own 5005<|j+2),(6,qg J),(14,.ptr 3 (j+1) 0 8),(15,qf n1.Draw),(16,qg J),(17,qg J),(18,qg J),(19,rI r1),(20,qg A),(21,rL A),(22,rI 0)]) (h':=[(2,some<|.box j 24 [qb d1.Nodes]),(3,some<|.box (j+1) 40<|A5 n1),(5005,some<|.arr (j+2) 3 1<|([]:List Int).map<|As .i64)]) ⟨jL,jL,jL,jL,jL,jL,jL,jL,jL,jL,jL,jL,jL,jL,jL,jL,Za⟩ ⟨.inl R,.inl R,.inl R,Za⟩ nL) wk) ?_
 intro T q l v1 a1 a2
 have h5:IR d1 A T q=some v1:=a1;unfold IR at h5
 refine aU<|xS R<|aZ<|aT λc8=>cI R h5 (λh6=>?_) λh6=>?_
 ·refine Zc<|c8 _<|aS λK9 c9 B=>Zg<|Bd h6 λp1 a6 a7=>?_
  have J2:∀(w:List Int) (I:NN),p1=w→K9 ⟨[(2,.ptr 2 j 0 0),(5,.own 5005<|I 0),(20,qg A),(21,rL A),(22,rI T)],[(2,some<|.box j 24 [qb d1.Nodes]),(5005,some<|.arr (I 0) 3 1<|w.map<|As .i64)],(I 1),64⟩:=by
   intro w I e
   have h7:=a7 _ e
   exact c9 _<|aR<|AG h7 λx4 a8 h8=>xA R a8<|mM R<|Zh<|CU.mk h8 (AH [(I 0),(I 1)]) wk
  refine aU<|AG a6 λx5 aa h9=>xI BM R aa<|xB ((B4 x5)) GK R<|sS R (BN (cs:=Lf) 8 R M1 R R)<|Zl R R (A6 (ds:=(B4 x5)) R LX iL R iL R R R R)<|aZ<|aU<|lF KP Ci R R<|AG h9 λs1 ab ac=>cL (Uy<|ab) R<|mA R<|aZ<|aU<|mM R<|FY ac λr2 r3 ad ae=>cL (ny<|ad) R<|mM R<|xX R<|xX R<|mA R<|mA R<|aZ<|aT λaf=>aT λag=>aG [2,5,9,10,11,20,21,22] [2,5005] ?_
  refine aR<|mM R<|sQ R (lH R ge iL)<|mM R<|vM R<|AG ae λr4 ah ai=>vL (λhg=>jq<|Ad ah hg) R<|vM R<|vQ R (Dt R (iR R)<|iR R)<|xO R<|aZ<|ag _<|cI R ai (λC=>?_) λC=>?_
  ·exact Zm<|B _ _ wk<|J2 _ (AH [(l 0),((l 1)+1)]) (Zf C).symm
  refine Zc<|af _<|aU<|xC CV R<|mM R<|FY C λr5 r6 aj ak=>cL (QD<|aj) R<|mM R<|xX R<|xX R<|mA R<|mA R<|aZ<|aT λal=>aG [2,5,10,12,13,20,21,22] [2,5005] ?_
  refine aR<|mM R<|mM R<|vF CD CJ R R<|vM R<|AG ak λx6 an ao=>vQ R (BK R Bs.slice (iR R) (iR R) (λ_=>R)<|Ad an)<|vQ R (BI R CF<|iR R)<|vQ R (Bj (d:=.int .i64 x6.Kind) R AI (iR R) R)<|vQ R (BE R (iR R) iL)<|xN R<|aZ<|al _<|cI R ao (λE=>?_) λE=>?_
  ·exact aR<|mM R<|mM R<|sS R (CG 60 R B3 (f:=(As .i64)) (l:=([r2]:List Int)) ⟨R,⟨_,iL,R⟩,Za⟩ R (λ_=>R) R)<|AG E λar F aq=>sS R (Dp R B3 iL R (.inr<|.inl ⟨_,_,iL,R⟩) F)<|mA R<|Zh<|B _ _ wk<|J2 _ (AH [((l 1)+2),((l 1)+3)]) (Zf aq).symm
  exact Zc<|B _ _ wk<|J2 _ (AH [(l 0),((l 1)+1)]) (Zf E).symm
 exact Zm<|V _ _ wk<|J1 _ (AH [(l 0),(l 1)])<|xH a2 h6
theorem nV{self:(List (List RV)→Option Bool)→(List<|Int × Bool)→(List<|List RV)→Aa→Am→Option (Bool × (List<|Int × Bool) × (List<|List RV))}(X:∀ {A1:List (List RV)→Option Bool} {m1:List (Int × Bool)} {M:List (List RV)} {E:Aa} {v1:Am} {r:Bool × (List<|Int × Bool) × (List<|List RV)} {m:Nat} {A:Nat} {q:Nat} {w:Nat} {B:Nat} {l:Nat} {j:Nat} {F:Ej},self A1 m1 M E v1=some r→(F.P=prog∧F.A=A1)→BH prog 122 7 [.agg<|FC v1,.ptr 1000 m 0 0,.ptr 1002 q 0 0,.ptr 1005 l 0 0,.ptr 1006 j 0 0] [(1000,some<|.box m 192 [.mref 1001 A]),(1001,some<|.md A<|AJ RV.bool m1),(1002,some<|.box q 145 [.fn 71 [.ptr 1003 w 0 0]]),(1003,some<|.box w 141 [.yld 1004 B]),(1004,some<|.cal B F M),(1005,some<|.box l 24 [qb E.Nodes]),(1006,some<|.box j 145 [.fn 122 [.ptr 1000 m 0 0,.ptr 1002 q 0 0,.ptr 1005 l 0 0,.ptr 1006 j 0 0]])] (λZ h'=>∃(i:Nat→Nat),Z=rB r.1∧h'=[(1000,some<|.box m 192 [.mref 1001 A]),(1001,some<|.md A<|AJ RV.bool r.2.1),(1002,some<|.box q 145 [.fn 71 [.ptr 1003 w 0 0]]),(1003,some<|.box w 141 [.yld 1004 B]),(1004,some<|.cal B F r.2.2),(1005,some<|.box l 24 [qb E.Nodes]),(1006,some<|.box j 145 [.fn 122 [.ptr 1000 m 0 0,.ptr 1002 q 0 0,.ptr 1005 l 0 0,.ptr 1006 j 0 0]])])){A1:List (List RV)→Option Bool}{m1:List (Int × Bool)}{M:List (List RV)}{E:Aa}{v1:Am}{r:Bool × (List<|Int × Bool) × (List<|List RV)}{m:Nat}{A:Nat}{q:Nat}{w:Nat}{B:Nat}{l:Nat}{j:Nat}{F:Ej}(h:Pr self A1 m1 M E v1=some r)(hW:(F.P=prog∧F.A=A1)):BH prog 122 7 [.agg<|FC v1,.ptr 1000 m 0 0,.ptr 1002 q 0 0,.ptr 1005 l 0 0,.ptr 1006 j 0 0] [(1000,some<|.box m 192 [.mref 1001 A]),(1001,some<|.md A<|AJ RV.bool m1),(1002,some<|.box q 145 [.fn 71 [.ptr 1003 w 0 0]]),(1003,some<|.box w 141 [.yld 1004 B]),(1004,some<|.cal B F M),(1005,some<|.box l 24 [qb E.Nodes]),(1006,some<|.box j 145 [.fn 122 [.ptr 1000 m 0 0,.ptr 1002 q 0 0,.ptr 1005 l 0 0,.ptr 1006 j 0 0]])] (λZ h'=>∃(i:Nat→Nat),Z=rB r.1∧h'=[(1000,some<|.box m 192 [.mref 1001 A]),(1001,some<|.md A<|AJ RV.bool r.2.1),(1002,some<|.box q 145 [.fn 71 [.ptr 1003 w 0 0]]),(1003,some<|.box w 141 [.yld 1004 B]),(1004,some<|.cal B F r.2.2),(1005,some<|.box l 24 [qb E.Nodes]),(1006,some<|.box j 145 [.fn 122 [.ptr 1000 m 0 0,.ptr 1002 q 0 0,.ptr 1005 l 0 0,.ptr 1006 j 0 0]])]):=by
 unfold Pr at h
 refine Em func122 R R ntmps122 (Zt R) λV=>aU<|sS R (BC (cs:=(FC v1)) 5 R iL R R)<|mA R<|aZ<|aT λc2=>aU<|sQ R (Ab (a:=.mref 1001 A) R Pn iL R R)<|lF Kp AI R R<|sQ R (Ou (rd:=RV.bool) false (.bool false) false R underlying192 underlying3 (Hw Sb) (λ_ _=>.bool _) (.inl R) (.inl R) R)<|aZ<|cI R h (λh1=>?_) λh1=>?_
 ·refine aT λc4=>aG [] [1000,1001,1002,1003,1004,1005,1006] ?_
  refine aR<|mA R<|oZ c4 ?_
  exact Zj<|B9.mk (s':=⟨[(6,rB true)],[(1000,some<|.box m 192 [.mref 1001 A]),(1001,some<|.md A<|AJ RV.bool m1),(1002,some<|.box q 145 [.fn 71 [.ptr 1003 w 0 0]]),(1003,some<|.box w 141 [.yld 1004 B]),(1004,some<|.cal B F M),(1005,some<|.box l 24 [qb E.Nodes]),(1006,some<|.box j 145 [.fn 122 [.ptr 1000 m 0 0,.ptr 1002 q 0 0,.ptr 1005 l 0 0,.ptr 1006 j 0 0]])],(V+1),121⟩) wk<|CX (λ(r:Bool × (List<|Int × Bool) × (List<|List RV)) Z h'=>∃(i:Nat→Nat),Z=rB r.1∧h'=[(1000,some<|.box m 192 [.mref 1001 A]),(1001,some<|.md A<|AJ RV.bool r.2.1),(1002,some<|.box q 145 [.fn 71 [.ptr 1003 w 0 0]]),(1003,some<|.box w 141 [.yld 1004 B]),(1004,some<|.cal B F r.2.2),(1005,some<|.box l 24 [qb E.Nodes]),(1006,some<|.box j 145 [.fn 122 [.ptr 1000 m 0 0,.ptr 1002 q 0 0,.ptr 1005 l 0 0,.ptr 1006 j 0 0]])]) h1<|by exact⟨rB true,[(1000,some<|.box m 192 [.mref 1001 A]),(1001,some<|.md A<|AJ RV.bool m1),(1002,some<|.box q 145 [.fn 71 [.ptr 1003 w 0 0]]),(1003,some<|.box w 141 [.yld 1004 B]),(1004,some<|.cal B F M),(1005,some<|.box l 24 [qb E.Nodes]),(1006,some<|.box j 145 [.fn 122 [.ptr 1000 m 0 0,.ptr 1002 q 0 0,.ptr 1005 l 0 0,.ptr 1006 j 0 0]])],R,⟨.inr R,.inr R,.inr R,.inr R,.inr R,.inr R,.inr R,Za⟩,R,R,AH [],R,R⟩
 refine Zc<|c2 _<|aU<|sQ R (Ab (a:=.mref 1001 A) R Pn iL R R)<|lF Kp AI R R<|Zl R R (Mz (rd:=RV.bool) (a:=true) iL underlying192 underlying3 iL iL iL R)<|aZ<|aT λc6=>aT λc7=>aG [2,3,4,5] [5,1000,1001,1002,1003,1004,1005,1006] ?_
 refine aR<|sQ R (Ab (a:=.fn 71 [.ptr 1003 w 0 0]) R Ov iL R R)<|xC ow R<|FY h1 λr1 w2 bd h2=>?_
 refine ZA [1003,1004] (hc:=[(1000,some<|.box w 141 [.yld 1001 B]),(1001,some<|.cal B F M)]) (bs:=[.agg<|FC v1]) (caps:=[.ptr 1000 w 0 0]) R R R R iL R ⟨.inl ⟨iL,R⟩,Za⟩ ⟨R,R,R,R,R,R,Za⟩ (by decide) (fW bd hW) ?_
 intro i1 n1
 refine Bm [2,3,4,5,24,25,26] [5,1000,1001,1002,1003,1004,1005,1006] ?_
 refine sQ R (BB R iL)<|aZ<|c7 _<|cI R h2 (λh3=>?_) λh3=>?_
 ·refine aU<|mA R<|aZ ?_
  exact Zj<|B9.mk (s':=⟨[(6,rB false)],[(1000,some<|.box m 192 [.mref 1001 A]),(1001,some<|.md A<|AJ RV.bool<|Ag m1 v1.id true),(1002,some<|.box q 145 [.fn 71 [.ptr 1003 w 0 0]]),(1003,some<|.box w 141 [.yld 1004 B]),(1004,some<|.cal B F w2),(1005,some<|.box l 24 [qb E.Nodes]),(1006,some<|.box j 145 [.fn 122 [.ptr 1000 m 0 0,.ptr 1002 q 0 0,.ptr 1005 l 0 0,.ptr 1006 j 0 0]])],n1,121⟩) wk<|CX (λ(r:Bool × (List<|Int × Bool) × (List<|List RV)) Z h'=>∃(i:Nat→Nat),Z=rB r.1∧h'=[(1000,some<|.box m 192 [.mref 1001 A]),(1001,some<|.md A<|AJ RV.bool r.2.1),(1002,some<|.box q 145 [.fn 71 [.ptr 1003 w 0 0]]),(1003,some<|.box w 141 [.yld 1004 B]),(1004,some<|.cal B F r.2.2),(1005,some<|.box l 24 [qb E.Nodes]),(1006,some<|.box j 145 [.fn 122 [.ptr 1000 m 0 0,.ptr 1002 q 0 0,.ptr 1005 l 0 0,.ptr 1006 j 0 0]])]) h3<|by exact⟨rB false,[(1000,some<|.box m 192 [.mref 1001 A]),(1001,some<|.md A<|AJ RV.bool<|Ag m1 v1.id true),(1002,some<|.box q 145 [.fn 71 [.ptr 1003 w 0 0]]),(1003,some<|.box w 141 [.yld 1004 B]),(1004,some<|.cal B F w2),(1005,some<|.box l 24 [qb E.Nodes]),(1006,some<|.box j 145 [.fn 122 [.ptr 1000 m 0 0,.ptr 1002 q 0 0,.ptr 1005 l 0 0,.ptr 1006 j 0 0]])],R,⟨.inr R,.inr R,.inr R,.inr R,.inr R,.inr R,.inr R,Za⟩,R,R,AH [],R,R⟩
 refine Zc<|c6 _<|aU<|xC CV R<|lF Kp AI R R<|FY h3 λr2 r3 be h4=>cL (QD<|be) R<|mM R<|xX R<|xX R<|mA R<|mA R<|aZ<|aT λbf=>aG [3,4,5,7] [5,1000,1001,1002,1003,1004,1005,1006] ?_
 refine aR<|lF CD CJ R R<|mM R<|AG h4 λJ bg h5=>xI Bs R bg<|xB ((A5 J)) ER R<|sS R (BN (cs:=FF) 9 R I2 R R)<|Zl R R (A6 (ds:=(A5 J)) R IM iL R iL R R R R)<|aZ<|bf _<|aS λbh bi au=>aU<|lF FI FP R R<|AG h5 λr4 bj h6=>sS R (EA (r:=.r<|.sl<|r4.map<|As .i64) (caps:=[]) (bs:=[qe J.Flow]) R iL R ⟨.inl ⟨iL,R⟩,Za⟩ λ_=>eL<|bj)<|xL B3 R<|mM R<|aZ<|Zg<|Rw h6 λo1 av bk bl=>?_
 have J1:∀(m5:List (Int × Bool)) (ac:List (List RV)) (i6:NN),o1=.nrm (m5,ac)→bh ⟨[(3,.ptr 1005 l 0 0),(4,.ptr 1006 j 0 0),(5,.ptr 5 V 0 0),(9,.ptr 9 n1 0 0)],[(5,some<|.box V 144<|FC v1),(9,some<|.box n1 40<|A5 J),(1000,some<|.box m 192 [.mref 1001 A]),(1001,some<|.md A<|AJ RV.bool m5),(1002,some<|.box q 145 [.fn 71 [.ptr 1003 w 0 0]]),(1003,some<|.box w 141 [.yld 1004 B]),(1004,some<|.cal B F ac),(1005,some<|.box l 24 [qb E.Nodes]),(1006,some<|.box j 145 [.fn 122 [.ptr 1000 m 0 0,.ptr 1002 q 0 0,.ptr 1005 l 0 0,.ptr 1006 j 0 0]])],(i6 0),121⟩:=by
  intro m5 ac i6 e
  have h7:=bk _ _ e
  refine bi _<|aS λbm bn aw=>aU<|sQ R (fB R EU iL fR R)<|lF EF EH R R<|xL B2 R<|mM R<|aZ<|Zg<|Rw h7 λo2 ax bo bp=>?_
  have J2:∀(m9:List (Int × Bool)) (ad:List (List RV)) (ae:NN),o2=.nrm (m9,ad)→bm ⟨[(3,.ptr 1005 l 0 0),(4,.ptr 1006 j 0 0),(5,.ptr 5 V 0 0),(9,.ptr 9 n1 0 0)],[(5,some<|.box V 144<|FC v1),(9,some<|.box n1 40<|A5 J),(1000,some<|.box m 192 [.mref 1001 A]),(1001,some<|.md A<|AJ RV.bool m9),(1002,some<|.box q 145 [.fn 71 [.ptr 1003 w 0 0]]),(1003,some<|.box w 141 [.yld 1004 B]),(1004,some<|.cal B F ad),(1005,some<|.box l 24 [qb E.Nodes]),(1006,some<|.box j 145 [.fn 122 [.ptr 1000 m 0 0,.ptr 1002 q 0 0,.ptr 1005 l 0 0,.ptr 1006 j 0 0]])],(ae 0),121⟩:=by
   intro m9 ad ae e
   have h8:=bo _ _ e
   refine bn _<|aS λbq br ay=>aU<|xC CV R<|xC ER R<|AG h8 λr5 bs h9=>sS R (EA (r:=.r<|.sl<|r5.map<|As .i64) (caps:=[]) (bs:=[.agg [qb E.Nodes],.agg<|A5 J]) R iL R ⟨.inl ⟨iL,R⟩,.inl ⟨iL,R⟩,Za⟩ λ_=>nH<|bs)<|xL B3 R<|mM R<|aZ<|Zg<|Rw h9 λo3 az bt bu=>?_
   have J3:∀(a1:List (Int × Bool)) (O:List (List RV)) (i16:NN),o3=.nrm (a1,O)→bq ⟨[],[(1000,some<|.box m 192 [.mref 1001 A]),(1001,some<|.md A<|AJ RV.bool a1),(1002,some<|.box q 145 [.fn 71 [.ptr 1003 w 0 0]]),(1003,some<|.box w 141 [.yld 1004 B]),(1004,some<|.cal B F O),(1005,some<|.box l 24 [qb E.Nodes]),(1006,some<|.box j 145 [.fn 122 [.ptr 1000 m 0 0,.ptr 1002 q 0 0,.ptr 1005 l 0 0,.ptr 1006 j 0 0]])],(i16 0),121⟩:=by
    intro a1 O i16 e
    have bv:=bt _ _ e
    refine br _<|aU<|mA R<|aZ ?_
    exact Zj<|B9.mk (s':=⟨[(6,rB true)],[(1000,some<|.box m 192 [.mref 1001 A]),(1001,some<|.md A<|AJ RV.bool a1),(1002,some<|.box q 145 [.fn 71 [.ptr 1003 w 0 0]]),(1003,some<|.box w 141 [.yld 1004 B]),(1004,some<|.cal B F O),(1005,some<|.box l 24 [qb E.Nodes]),(1006,some<|.box j 145 [.fn 122 [.ptr 1000 m 0 0,.ptr 1002 q 0 0,.ptr 1005 l 0 0,.ptr 1006 j 0 0]])],(i16 0),121⟩) wk<|CX (λ(r:Bool × (List<|Int × Bool) × (List<|List RV)) Z h'=>∃(i:Nat→Nat),Z=rB r.1∧h'=[(1000,some<|.box m 192 [.mref 1001 A]),(1001,some<|.md A<|AJ RV.bool r.2.1),(1002,some<|.box q 145 [.fn 71 [.ptr 1003 w 0 0]]),(1003,some<|.box w 141 [.yld 1004 B]),(1004,some<|.cal B F r.2.2),(1005,some<|.box l 24 [qb E.Nodes]),(1006,some<|.box j 145 [.fn 122 [.ptr 1000 m 0 0,.ptr 1002 q 0 0,.ptr 1005 l 0 0,.ptr 1006 j 0 0]])]) bv<|by exact⟨rB true,[(1000,some<|.box m 192 [.mref 1001 A]),(1001,some<|.md A<|AJ RV.bool a1),(1002,some<|.box q 145 [.fn 71 [.ptr 1003 w 0 0]]),(1003,some<|.box w 141 [.yld 1004 B]),(1004,some<|.cal B F O),(1005,some<|.box l 24 [qb E.Nodes]),(1006,some<|.box j 145 [.fn 122 [.ptr 1000 m 0 0,.ptr 1002 q 0 0,.ptr 1005 l 0 0,.ptr 1006 j 0 0]])],R,⟨.inr R,.inr R,.inr R,.inr R,.inr R,.inr R,.inr R,Za⟩,R,R,AH [],R,R⟩
   refine JU (λ(x9:Int) (a6:List (Int × Bool)) (a0:List (List RV)) af=>⟨[(4,.ptr 1006 j 0 0),(5,.ptr 5 V 0 0),(105,.r<|.sl<|r5.map<|As .i64),(106,rL r5),(107,rI x9)],[(5,some<|.box V 144<|FC v1),(1000,some<|.box m 192 [.mref 1001 A]),(1001,some<|.md A<|AJ RV.bool a6),(1002,some<|.box q 145 [.fn 71 [.ptr 1003 w 0 0]]),(1003,some<|.box w 141 [.yld 1004 B]),(1004,some<|.cal B F a0),(1005,some<|.box l 24 [qb E.Nodes]),(1006,some<|.box j 145 [.fn 122 [.ptr 1000 m 0 0,.ptr 1002 q 0 0,.ptr 1005 l 0 0,.ptr 1006 j 0 0]])],(af 0),121⟩) (AH [(ae 0)]) az wk ?_
   intro x9 a6 a0 af v2 bw b0
   have b1:UW A1 E v1 self r5 x9 a6 a0=some v2:=bw;unfold UW at b1
   refine aU<|xS R<|aZ<|aT λbx=>cI R b1 (λag=>?_) λag=>?_
   ·refine Zc<|bx _<|aT λbz=>Zg<|aU<|AG ag λah b2 c0=>xI B3 R b2<|xV (.int .i64 ah) AI R<|mA R<|aZ<|aT λc1=>aR<|sQ R (Ab (a:=.fn 122 [.ptr 1000 m 0 0,.ptr 1002 q 0 0,.ptr 1005 l 0 0,.ptr 1006 j 0 0]) R Ov iL R R)<|mM R<|lF Kp AI R R<|lF U8 L9 R R ?_
    refine sQ R (DL R QU (q:=[(0,_),(1,_),(2,_)]) (by exact⟨R,R,R,iL,R,R,R,iL,R,R,R,iL,Za⟩) (cs:=[rI ah,rI v1.id,rB v1.visible])<|by rfl) ?_
    refine LZ c0 λr6 w3 w4 c3 c5=>?_
    refine ZA [1000,1001,1002,1003,1004,1005,1006] (hc:=[(1000,some<|.box m 192 [.mref 1001 A]),(1001,some<|.md A<|AJ RV.bool a6),(1002,some<|.box q 145 [.fn 71 [.ptr 1003 w 0 0]]),(1003,some<|.box w 141 [.yld 1004 B]),(1004,some<|.cal B F a0),(1005,some<|.box l 24 [qb E.Nodes]),(1006,some<|.box j 145 [.fn 122 [.ptr 1000 m 0 0,.ptr 1002 q 0 0,.ptr 1005 l 0 0,.ptr 1006 j 0 0]])]) (bs:=[.agg [rI ah,rI v1.id,rB v1.visible]]) (caps:=[.ptr 1000 m 0 0,.ptr 1002 q 0 0,.ptr 1005 l 0 0,.ptr 1006 j 0 0]) R R R R iL R ⟨.inl ⟨iL,R⟩,Za⟩ ⟨R,R,R,R,R,R,R,R,R,R,R,R,R,R,R,R,R,R,R,R,R,Za⟩ (by decide) (X c3 hW) ?_
    intro cz n2
    refine Bm [4,5,16,105,106,107,108,109,110,111,112,113,114,115,116,117,118] [5,1000,1001,1002,1003,1004,1005,1006] ?_
    refine sQ R (BB R iL)<|aZ<|c1 _<|cI R c5 (λai=>?_) λai=>?_
    ·refine aT λc8=>aG [] [1000,1001,1002,1003,1004,1005,1006] ?_
     refine aR<|mA R<|oZ c8 ?_
     exact Zj<|B9.mk (s':=⟨[(6,rB false)],[(1000,some<|.box m 192 [.mref 1001 A]),(1001,some<|.md A<|AJ RV.bool w3),(1002,some<|.box q 145 [.fn 71 [.ptr 1003 w 0 0]]),(1003,some<|.box w 141 [.yld 1004 B]),(1004,some<|.cal B F w4),(1005,some<|.box l 24 [qb E.Nodes]),(1006,some<|.box j 145 [.fn 122 [.ptr 1000 m 0 0,.ptr 1002 q 0 0,.ptr 1005 l 0 0,.ptr 1006 j 0 0]])],n2,121⟩) wk<|CX (λ(r:Bool × (List<|Int × Bool) × (List<|List RV)) Z h'=>∃(i:Nat→Nat),Z=rB r.1∧h'=[(1000,some<|.box m 192 [.mref 1001 A]),(1001,some<|.md A<|AJ RV.bool r.2.1),(1002,some<|.box q 145 [.fn 71 [.ptr 1003 w 0 0]]),(1003,some<|.box w 141 [.yld 1004 B]),(1004,some<|.cal B F r.2.2),(1005,some<|.box l 24 [qb E.Nodes]),(1006,some<|.box j 145 [.fn 122 [.ptr 1000 m 0 0,.ptr 1002 q 0 0,.ptr 1005 l 0 0,.ptr 1006 j 0 0]])]) (bu _<|xH b0 ai)<|by exact⟨rB false,[(1000,some<|.box m 192 [.mref 1001 A]),(1001,some<|.md A<|AJ RV.bool w3),(1002,some<|.box q 145 [.fn 71 [.ptr 1003 w 0 0]]),(1003,some<|.box w 141 [.yld 1004 B]),(1004,some<|.cal B F w4),(1005,some<|.box l 24 [qb E.Nodes]),(1006,some<|.box j 145 [.fn 122 [.ptr 1000 m 0 0,.ptr 1002 q 0 0,.ptr 1005 l 0 0,.ptr 1006 j 0 0]])],R,⟨.inr R,.inr R,.inr R,.inr R,.inr R,.inr R,.inr R,Za⟩,R,R,AH [],R,R⟩
    refine Zc<|bz _<|aG [4,5,105,106,107] [5,1000,1001,1002,1003,1004,1005,1006] ?_
    exact aR<|AG ai λd0 b3 c9=>xA R b3<|mM R<|Zh<|FX.mk c9 (AH [n2]) wk
   exact Zm<|ay _ _ wk<|J3 _ _ (AH [(af 0)])<|xH b0 ag
  refine JU (λ(x6:Int) (m7:List (Int × Bool)) (a7:List (List RV)) i9=>⟨[(3,.ptr 1005 l 0 0),(4,.ptr 1006 j 0 0),(5,.ptr 5 V 0 0),(9,.ptr 9 n1 0 0),(60,qc J.Grid.Cells),(61,rL J.Grid.Cells),(62,rI x6)],[(5,some<|.box V 144<|FC v1),(9,some<|.box n1 40<|A5 J),(1000,some<|.box m 192 [.mref 1001 A]),(1001,some<|.md A<|AJ RV.bool m7),(1002,some<|.box q 145 [.fn 71 [.ptr 1003 w 0 0]]),(1003,some<|.box w 141 [.yld 1004 B]),(1004,some<|.cal B F a7),(1005,some<|.box l 24 [qb E.Nodes]),(1006,some<|.box j 145 [.fn 122 [.ptr 1000 m 0 0,.ptr 1002 q 0 0,.ptr 1005 l 0 0,.ptr 1006 j 0 0]])],(i9 0),121⟩) (AH [(i6 0)]) ax wk ?_
  intro x6 m7 a7 i9 v3 ca b4
  have b5:Tt A1 E v1 self J x6 m7 a7=some v3:=ca;unfold Tt at b5
  refine aU<|xS R<|aZ<|aT λcb=>cI R b5 (λaj=>?_) λaj=>?_
  ·refine Zc<|cb _<|aT λcc=>Zg<|aU<|AG aj λC b6 cd=>xI B2 R b6<|xB ((Bg C)) E7 R<|sS R (BN (cs:=IA) 13 R Hg R R)<|Zl R R (A6 (ds:=(Bg C)) R IN iL R iL R R R R)<|aZ<|aU<|sQ R (fB R EU iL fR R)<|sQ R (Ja (ds:=(CR J.Grid)) R Ix iL R R R)<|lF E5 AI R R<|lF FW AI R R<|AG cd λI cf cg=>sS R (EA (r:=.agg<|Ay I) (caps:=[]) (bs:=[.agg<|CR J.Grid,rI C.Row,rI C.Col]) R iL R ⟨.inl ⟨iL,R⟩,.inl ⟨iL,R⟩,.inl ⟨iL,R⟩,Za⟩ λ_=>em<|cf)<|sS R (BN (cs:=Fd) 14 R II R R)<|Zl R R (A6 (ds:=(Ay I)) R GG iL R iL R R R R)<|aZ<|aS λch cj ab=>aG [3,4,5,9,13,14,60,61,62] [5,9,13,14,1000,1001,1002,1003,1004,1005,1006] ?_
   refine aR<|lF EO AI R R<|xU R<|mM R<|vQ R (Ab (a:=.fn 122 [.ptr 1000 m 0 0,.ptr 1002 q 0 0,.ptr 1005 l 0 0,.ptr 1006 j 0 0]) R Ov iL R R)<|vF EO AI R R<|vF Kp AI R R<|vF U8 L9 R R<|vQ R (AL R<|iR R)<|wQ R (fB R Ca iL fR R)<|wQ R (Ab (a:=rI I.Row) R AI (iR R) R R)<|wQ R (fB R E5 iL fR R)<|wQ R (Ab (a:=rI C.Row) R AI (iR R) R R)<|wQ R (BE R (iR R)<|iR R)<|vQ R (BS R (iR R)<|iR R)<|vQ R (AL R<|iR R)<|wQ R (fB R DG iL fR R)<|wQ R (Ab (a:=rI I.Col) R AI (iR R) R R)<|wQ R (fB R FW iL fR R)<|wQ R (Ab (a:=rI C.Col) R AI (iR R) R R)<|wQ R (BE R (iR R)<|iR R)<|vQ R (BS R (iR R)<|iR R) ?_
   refine vQ R (DL R QU (q:=[(0,_),(1,_),(2,_)]) (by exact⟨R,R,R,(iR R),R,R,R,(iR R),R,R,R,(iR R),Za⟩) (cs:=[rI C.Ref,rI v1.id,rB<|((v1.visible&&(I.Row=C.Row))&&(I.Col=C.Col))])<|by rfl) ?_
   refine bU cg λp1 b7 ck=>?_
   have J4:∀(ak:Bool) (a2:List (Int × Bool)) (T:List (List RV)) (a8:NN),p1=(ak,a2,T)→ch ⟨[(3,.ptr 1005 l 0 0),(4,.ptr 1006 j 0 0),(5,.ptr 5 V 0 0),(9,.ptr 9 n1 0 0),(60,qc J.Grid.Cells),(61,rL J.Grid.Cells),(62,rI x6),(101,rB ak)],[(5,some<|.box V 144<|FC v1),(9,some<|.box n1 40<|A5 J),(1000,some<|.box m 192 [.mref 1001 A]),(1001,some<|.md A<|AJ RV.bool a2),(1002,some<|.box q 145 [.fn 71 [.ptr 1003 w 0 0]]),(1003,some<|.box w 141 [.yld 1004 B]),(1004,some<|.cal B F T),(1005,some<|.box l 24 [qb E.Nodes]),(1006,some<|.box j 145 [.fn 122 [.ptr 1000 m 0 0,.ptr 1002 q 0 0,.ptr 1005 l 0 0,.ptr 1006 j 0 0]])],(a8 0),121⟩:=by
    intro ak a2 T a8 e
    have cl:=ck _ _ _ e
    refine cj _<|cI R cl (λal=>?_) λal=>?_
    ·refine aU<|mA R<|aZ ?_
     exact Zj<|B9.mk (s':=⟨[(6,rB false)],[(1000,some<|.box m 192 [.mref 1001 A]),(1001,some<|.md A<|AJ RV.bool a2),(1002,some<|.box q 145 [.fn 71 [.ptr 1003 w 0 0]]),(1003,some<|.box w 141 [.yld 1004 B]),(1004,some<|.cal B F T),(1005,some<|.box l 24 [qb E.Nodes]),(1006,some<|.box j 145 [.fn 122 [.ptr 1000 m 0 0,.ptr 1002 q 0 0,.ptr 1005 l 0 0,.ptr 1006 j 0 0]])],(a8 0),121⟩) wk<|CX (λ(r:Bool × (List<|Int × Bool) × (List<|List RV)) Z h'=>∃(i:Nat→Nat),Z=rB r.1∧h'=[(1000,some<|.box m 192 [.mref 1001 A]),(1001,some<|.md A<|AJ RV.bool r.2.1),(1002,some<|.box q 145 [.fn 71 [.ptr 1003 w 0 0]]),(1003,some<|.box w 141 [.yld 1004 B]),(1004,some<|.cal B F r.2.2),(1005,some<|.box l 24 [qb E.Nodes]),(1006,some<|.box j 145 [.fn 122 [.ptr 1000 m 0 0,.ptr 1002 q 0 0,.ptr 1005 l 0 0,.ptr 1006 j 0 0]])]) (bp _<|xH b4 al)<|by exact⟨rB false,[(1000,some<|.box m 192 [.mref 1001 A]),(1001,some<|.md A<|AJ RV.bool a2),(1002,some<|.box q 145 [.fn 71 [.ptr 1003 w 0 0]]),(1003,some<|.box w 141 [.yld 1004 B]),(1004,some<|.cal B F T),(1005,some<|.box l 24 [qb E.Nodes]),(1006,some<|.box j 145 [.fn 122 [.ptr 1000 m 0 0,.ptr 1002 q 0 0,.ptr 1005 l 0 0,.ptr 1006 j 0 0]])],R,⟨.inr R,.inr R,.inr R,.inr R,.inr R,.inr R,.inr R,Za⟩,R,R,AH [],R,R⟩
    exact Zc<|cc _<|aR<|AG al λd1 b8 cm=>xA R b8<|mM R<|Zh<|FX.mk cm (AH [(a8 0)]) wk
   refine AK.split ((!(C.Ref=0))==true) (λU=>?_) λU=>?_
   ·have an:=EQ U b7
    refine AK.weak (by exact VM (e':=[(3,.ptr 1005 l 0 0),(4,.ptr 1006 j 0 0),(5,.ptr 5 V 0 0),(9,.ptr 9 n1 0 0),(13,.ptr 13 (i9 0) 0 0),(14,.ptr 14 ((i9 0)+1) 0 0),(60,qc J.Grid.Cells),(61,rL J.Grid.Cells),(62,rI x6),(73,.ptr 13 (i9 0) 0 3),(74,rI C.Ref),(75,rB<|(!(C.Ref=0))),(76,rB<|(!(C.Ref=0))),(77,.fn 122 [.ptr 1000 m 0 0,.ptr 1002 q 0 0,.ptr 1005 l 0 0,.ptr 1006 j 0 0]),(78,.ptr 13 (i9 0) 0 3),(79,rI C.Ref),(80,.ptr 5 V 0 0),(81,rI v1.id),(82,.ptr 5 V 0 2),(83,rB v1.visible),(84,rB v1.visible),(85,.whn (v1.visible==true)<|.ptr 14 ((i9 0)+1) 0 0),(86,.whn (v1.visible==true)<|rI I.Row),(87,.whn (v1.visible==true)<|.ptr 13 (i9 0) 0 0),(88,.whn (v1.visible==true)<|rI C.Row),(89,.whn (v1.visible==true)<|rB<|(decide<|I.Row=C.Row)),(90,rB<|(v1.visible&&(I.Row=C.Row))),(91,rB<|(v1.visible&&(I.Row=C.Row))),(92,.whn ((v1.visible&&(I.Row=C.Row))==true)<|.ptr 14 ((i9 0)+1) 0 1),(93,.whn ((v1.visible&&(I.Row=C.Row))==true)<|rI I.Col),(94,.whn ((v1.visible&&(I.Row=C.Row))==true)<|.ptr 13 (i9 0) 0 1),(95,.whn ((v1.visible&&(I.Row=C.Row))==true)<|rI C.Col),(96,.whn ((v1.visible&&(I.Row=C.Row))==true)<|rB<|(decide<|I.Col=C.Col)),(97,rB<|((v1.visible&&(I.Row=C.Row))&&(I.Col=C.Col))),(98,.agg [rI C.Ref,rI v1.id,rB<|((v1.visible&&(I.Row=C.Row))&&(I.Col=C.Col))])]) U ⟨.inl R,.inl R,.inl R,.inl R,.inl R,.inl R,.inl R,.inl R,.inl R,.inl R,.inl R,.inl R,.inl R,.inr iL,.inr iL,.inr iL,.inr iL,.inr iL,.inr iL,.inr iL,.inr iL,.inr<|.inr<|.inl ⟨_,_,R,R⟩,.inr<|.inr<|.inl ⟨_,_,R,R⟩,.inr<|.inr<|.inl ⟨_,_,R,R⟩,.inr<|.inr<|.inl ⟨_,_,R,R⟩,.inr<|.inr<|.inl ⟨_,_,R,R⟩,.inr iL,.inr iL,.inr<|.inr<|.inl ⟨_,_,R,R⟩,.inr<|.inr<|.inl ⟨_,_,R,R⟩,.inr<|.inr<|.inl ⟨_,_,R,R⟩,.inr<|.inr<|.inl ⟨_,_,R,R⟩,.inr<|.inr<|.inl ⟨_,_,R,R⟩,.inr iL,.inr iL,Za⟩) ?_
    refine LZ an λr8 w5 w6 cn cp=>?_
    refine qJ (.one R R R) U [1000,1001,1002,1003,1004,1005,1006] (hc:=[(1000,some<|.box m 192 [.mref 1001 A]),(1001,some<|.md A<|AJ RV.bool m7),(1002,some<|.box q 145 [.fn 71 [.ptr 1003 w 0 0]]),(1003,some<|.box w 141 [.yld 1004 B]),(1004,some<|.cal B F a7),(1005,some<|.box l 24 [qb E.Nodes]),(1006,some<|.box j 145 [.fn 122 [.ptr 1000 m 0 0,.ptr 1002 q 0 0,.ptr 1005 l 0 0,.ptr 1006 j 0 0]])]) (bs:=[.agg [rI C.Ref,rI v1.id,rB<|((v1.visible&&(I.Row=C.Row))&&(I.Col=C.Col))]]) (caps:=[.ptr 1000 m 0 0,.ptr 1002 q 0 0,.ptr 1005 l 0 0,.ptr 1006 j 0 0]) R R R iL R ⟨.inl ⟨iL,R⟩,Za⟩ ⟨R,R,R,R,R,R,R,R,R,R,R,R,R,R,R,R,R,R,R,R,R,Za⟩ (by decide) (X cn hW) ?_
    intro d2 n3
    refine Bm [3,4,5,9,13,14,60,61,62,73,74,75,76,77,78,79,80,81,82,83,84,90,91,97,98,99] [5,9,13,14,1000,1001,1002,1003,1004,1005,1006] ?_
    exact MV (.one R R R) U R R (AP.spec (BB R<|.inl R) _)<|sQ R (BS R iL iL)<|Zh<|ab _ _ wk<|J4 _ _ _ (AH [n3]) (Zf cp).symm
   ·have an:=EM U b7
    exact JS (.one R R R) U R R<|JS (.one R R R) U R R<|xN R<|Zh<|ab _ _ wk<|J4 _ _ _ (AH [((i9 0)+2)]) (Zf an).symm
  exact Zm<|aw _ _ wk<|J2 _ _ (AH [(i9 0)])<|xH b4 aj
 refine JU (λ(x3:Int) (m3:List (Int × Bool)) (aa:List (List RV)) i4=>⟨[(3,.ptr 1005 l 0 0),(4,.ptr 1006 j 0 0),(5,.ptr 5 V 0 0),(9,.ptr 9 n1 0 0),(42,.r<|.sl<|r4.map<|As .i64),(43,rL r4),(44,rI x3)],[(5,some<|.box V 144<|FC v1),(9,some<|.box n1 40<|A5 J),(1000,some<|.box m 192 [.mref 1001 A]),(1001,some<|.md A<|AJ RV.bool m3),(1002,some<|.box q 145 [.fn 71 [.ptr 1003 w 0 0]]),(1003,some<|.box w 141 [.yld 1004 B]),(1004,some<|.cal B F aa),(1005,some<|.box l 24 [qb E.Nodes]),(1006,some<|.box j 145 [.fn 122 [.ptr 1000 m 0 0,.ptr 1002 q 0 0,.ptr 1005 l 0 0,.ptr 1006 j 0 0]])],(i4 0),121⟩) (AH [(n1+1)]) av wk ?_
 intro x3 m3 aa i4 v4 cq b9
 have ba:UP A1 E v1 self r4 x3 m3 aa=some v4:=cq;unfold UP at ba
 refine aU<|xS R<|aZ<|aT λcr=>cI R ba (λao=>?_) λao=>?_
 ·refine Zc<|cr _<|aT λcs=>Zg<|aU<|AG ao λaq bb ct=>xI B3 R bb<|xV (.int .i64 aq) AI R<|mA R<|aZ<|aT λcu=>aR<|sQ R (Ab (a:=.fn 122 [.ptr 1000 m 0 0,.ptr 1002 q 0 0,.ptr 1005 l 0 0,.ptr 1006 j 0 0]) R Ov iL R R)<|mM R<|lF Kp AI R R<|lF U8 L9 R R ?_
  refine sQ R (DL R QU (q:=[(0,_),(1,_),(2,_)]) (by exact⟨R,R,R,iL,R,R,R,iL,R,R,R,iL,Za⟩) (cs:=[rI aq,rI v1.id,rB v1.visible])<|by rfl) ?_
  refine LZ ct λr9 w7 w8 cv cw=>?_
  refine ZA [1000,1001,1002,1003,1004,1005,1006] (hc:=[(1000,some<|.box m 192 [.mref 1001 A]),(1001,some<|.md A<|AJ RV.bool m3),(1002,some<|.box q 145 [.fn 71 [.ptr 1003 w 0 0]]),(1003,some<|.box w 141 [.yld 1004 B]),(1004,some<|.cal B F aa),(1005,some<|.box l 24 [qb E.Nodes]),(1006,some<|.box j 145 [.fn 122 [.ptr 1000 m 0 0,.ptr 1002 q 0 0,.ptr 1005 l 0 0,.ptr 1006 j 0 0]])]) (bs:=[.agg [rI aq,rI v1.id,rB v1.visible]]) (caps:=[.ptr 1000 m 0 0,.ptr 1002 q 0 0,.ptr 1005 l 0 0,.ptr 1006 j 0 0]) R R R R iL R ⟨.inl ⟨iL,R⟩,Za⟩ ⟨R,R,R,R,R,R,R,R,R,R,R,R,R,R,R,R,R,R,R,R,R,Za⟩ (by decide) (X cv hW) ?_
  intro d3 n4
  refine Bm [3,4,5,9,11,42,43,44,45,46,47,48,49,50,51,52,53,54,55] [5,9,1000,1001,1002,1003,1004,1005,1006] ?_
  refine sQ R (BB R iL)<|aZ<|cu _<|cI R cw (λar=>?_) λar=>?_
  ·refine aT λcx=>aG [] [1000,1001,1002,1003,1004,1005,1006] ?_
   refine aR<|mA R<|oZ cx ?_
   exact Zj<|B9.mk (s':=⟨[(6,rB false)],[(1000,some<|.box m 192 [.mref 1001 A]),(1001,some<|.md A<|AJ RV.bool w7),(1002,some<|.box q 145 [.fn 71 [.ptr 1003 w 0 0]]),(1003,some<|.box w 141 [.yld 1004 B]),(1004,some<|.cal B F w8),(1005,some<|.box l 24 [qb E.Nodes]),(1006,some<|.box j 145 [.fn 122 [.ptr 1000 m 0 0,.ptr 1002 q 0 0,.ptr 1005 l 0 0,.ptr 1006 j 0 0]])],n4,121⟩) wk<|CX (λ(r:Bool × (List<|Int × Bool) × (List<|List RV)) Z h'=>∃(i:Nat→Nat),Z=rB r.1∧h'=[(1000,some<|.box m 192 [.mref 1001 A]),(1001,some<|.md A<|AJ RV.bool r.2.1),(1002,some<|.box q 145 [.fn 71 [.ptr 1003 w 0 0]]),(1003,some<|.box w 141 [.yld 1004 B]),(1004,some<|.cal B F r.2.2),(1005,some<|.box l 24 [qb E.Nodes]),(1006,some<|.box j 145 [.fn 122 [.ptr 1000 m 0 0,.ptr 1002 q 0 0,.ptr 1005 l 0 0,.ptr 1006 j 0 0]])]) (bl _<|xH b9 ar)<|by exact⟨rB false,[(1000,some<|.box m 192 [.mref 1001 A]),(1001,some<|.md A<|AJ RV.bool w7),(1002,some<|.box q 145 [.fn 71 [.ptr 1003 w 0 0]]),(1003,some<|.box w 141 [.yld 1004 B]),(1004,some<|.cal B F w8),(1005,some<|.box l 24 [qb E.Nodes]),(1006,some<|.box j 145 [.fn 122 [.ptr 1000 m 0 0,.ptr 1002 q 0 0,.ptr 1005 l 0 0,.ptr 1006 j 0 0]])],R,⟨.inr R,.inr R,.inr R,.inr R,.inr R,.inr R,.inr R,Za⟩,R,R,AH [],R,R⟩
  refine Zc<|cs _<|aG [3,4,5,9,42,43,44] [5,9,1000,1001,1002,1003,1004,1005,1006] ?_
  exact aR<|AG ar λd4 bc cy=>xA R bc<|mM R<|Zh<|FX.mk cy (AH [n4]) wk
 exact Zm<|au _ _ wk<|J1 _ _ (AH [(i4 0)])<|xH b9 ao
theorem lu(n:Nat):∀ {F:List (List RV)→Option Bool} {I:List (Int × Bool)} {C:List (List RV)} {E:Aa} {v1:Am} {r:Bool × (List<|Int × Bool) × (List<|List RV)} {j:Nat} {w:Nat} {l:Nat} {A:Nat} {B:Nat} {m:Nat} {q:Nat} {J:Ej},Gk n F I C E v1=some r→(J.P=prog∧J.A=F)→BH prog 122 7 [.agg<|FC v1,.ptr 1000 j 0 0,.ptr 1002 l 0 0,.ptr 1005 m 0 0,.ptr 1006 q 0 0] [(1000,some<|.box j 192 [.mref 1001 w]),(1001,some<|.md w<|AJ RV.bool I),(1002,some<|.box l 145 [.fn 71 [.ptr 1003 A 0 0]]),(1003,some<|.box A 141 [.yld 1004 B]),(1004,some<|.cal B J C),(1005,some<|.box m 24 [qb E.Nodes]),(1006,some<|.box q 145 [.fn 122 [.ptr 1000 j 0 0,.ptr 1002 l 0 0,.ptr 1005 m 0 0,.ptr 1006 q 0 0]])] (λM h'=>∃(i:Nat→Nat),M=rB r.1∧h'=[(1000,some<|.box j 192 [.mref 1001 w]),(1001,some<|.md w<|AJ RV.bool r.2.1),(1002,some<|.box l 145 [.fn 71 [.ptr 1003 A 0 0]]),(1003,some<|.box A 141 [.yld 1004 B]),(1004,some<|.cal B J r.2.2),(1005,some<|.box m 24 [qb E.Nodes]),(1006,some<|.box q 145 [.fn 122 [.ptr 1000 j 0 0,.ptr 1002 l 0 0,.ptr 1005 m 0 0,.ptr 1006 q 0 0]])]):=by
 induction n with
 | zero=>intro F I C E v1 r j w l A B m q J h;exact absurd (show(none:Option (Bool × (List<|Int × Bool) × (List<|List RV)))=some r from h)<|by simp
 | succ n O=>intro F I C E v1 r j w l A B m q J h T;exact nV (self:=λF I C E v1=>Gk n F I C E v1) (λU V=>O U V) h T
theorem ec{I:List (List RV)→Option Bool}{J:List (Int × Bool)}{C:List (List RV)}{E:Aa}{v1:Am}{r:Bool × (List<|Int × Bool) × (List<|List RV)}{j:Nat}{w:Nat}{l:Nat}{A:Nat}{B:Nat}{m:Nat}{q:Nat}{F:Ej}(h:Qe I J C E v1=some r)(O:F.P=prog∧F.A=I):BH prog 122 7 [.agg<|FC v1,.ptr 1000 j 0 0,.ptr 1002 l 0 0,.ptr 1005 m 0 0,.ptr 1006 q 0 0] [(1000,some<|.box j 192 [.mref 1001 w]),(1001,some<|.md w<|AJ RV.bool J),(1002,some<|.box l 145 [.fn 71 [.ptr 1003 A 0 0]]),(1003,some<|.box A 141 [.yld 1004 B]),(1004,some<|.cal B F C),(1005,some<|.box m 24 [qb E.Nodes]),(1006,some<|.box q 145 [.fn 122 [.ptr 1000 j 0 0,.ptr 1002 l 0 0,.ptr 1005 m 0 0,.ptr 1006 q 0 0]])] (λT h'=>∃(i:Nat→Nat),T=rB r.1∧h'=[(1000,some<|.box j 192 [.mref 1001 w]),(1001,some<|.md w<|AJ RV.bool r.2.1),(1002,some<|.box l 145 [.fn 71 [.ptr 1003 A 0 0]]),(1003,some<|.box A 141 [.yld 1004 B]),(1004,some<|.cal B F r.2.2),(1005,some<|.box m 24 [qb E.Nodes]),(1006,some<|.box q 145 [.fn 122 [.ptr 1000 j 0 0,.ptr 1002 l 0 0,.ptr 1005 m 0 0,.ptr 1006 q 0 0]])]):=by
 unfold Qe at h
 by_cases M:∃n r,Gk n I J C E v1=some r
 ·rw[tv M] at h;exact lu _ h O
 ·rw[dif_neg M] at h;cases h
theorem jW{C:List (List RV)→Option Bool}{w:List (List RV)}{d1:Aa}{r:(List<|List RV)}{l:Nat}{j:Nat}{q:Ej}(h:NP C w d1=some r)(F:q.P=prog∧q.A=C):BH prog 70 2 [.agg [qb d1.Nodes],.fn 71 [.ptr 1000 l 0 0]] [(1000,some<|.box l 141 [.yld 1001 j]),(1001,some<|.cal j q w)] (λA h'=>∃(i:Nat→Nat),A=.tup []∧h'=[(1000,some<|.box l 141 [.yld 1001 j]),(1001,some<|.cal j q r)]):=by
 unfold NP at h
 refine Em func70 R R ntmps70 (Zt R) λm=>aU<|sS R (BC (cs:=[qb d1.Nodes]) 2 R iL R R)<|sS R (BC (cs:=[.fn 71 [.ptr 1000 l 0 0]]) 3 R iL R R)<|aZ<|aU<|sS R (Rh RV.bool 6 R)<|sS R (BN (cs:=[.cst<|.map none]) 4 R Wr R R)<|Zl R R (A6 (ds:=[.mref 6<|m+2]) R WL iL R iL R R R R)<|aZ<|aU<|sS R (BN (cs:=[.cst<|.nilFunc]) 5 R px R R)<|aZ<|aT λI=>aR ?_
 refine sQ R (JW (bs:=[.ptr 4 (m+3) 0 0,.ptr 3 (m+1) 0 0,.ptr 2 m 0 0,.ptr 5 (m+4) 0 0]) R<|by exact⟨iL,iL,iL,iL,Za⟩) ?_
 refine Zl R R (A6 (ds:=[.fn 122 [.ptr 4 (m+3) 0 0,.ptr 3 (m+1) 0 0,.ptr 2 m 0 0,.ptr 5 (m+4) 0 0]]) R eN iL R iL R R R R)<|aZ<|I _<|aR<|sQ R (Ab (a:=.fn 122 [.ptr 4 (m+3) 0 0,.ptr 3 (m+1) 0 0,.ptr 2 m 0 0,.ptr 5 (m+4) 0 0]) R Ov iL R R) ?_
 refine sQ R (DL R QU (q:=[(0,_),(1,_),(2,_)]) (by exact⟨R,R,R,iL,R,R,R,iL,R,R,R,iL,Za⟩) (cs:=[rI 1,rI 0,rB true])<|by rfl) ?_
 refine LZ h λO T E B J=>?_
 refine ZA [4,6,3,1000,1001,2,5] (hc:=[(1000,some<|.box (m+3) 192 [.mref 1001<|m+2]),(1001,some<|.md (m+2)<|AJ RV.bool ([]:List (Int × Bool))),(1002,some<|.box (m+1) 145 [.fn 71 [.ptr 1003 l 0 0]]),(1003,some<|.box l 141 [.yld 1004 j]),(1004,some<|.cal j q w),(1005,some<|.box m 24 [qb d1.Nodes]),(1006,some<|.box (m+4) 145 [.fn 122 [.ptr 1000 (m+3) 0 0,.ptr 1002 (m+1) 0 0,.ptr 1005 m 0 0,.ptr 1006 (m+4) 0 0]])]) (bs:=[.agg [rI 1,rI 0,rB true]]) (caps:=[.ptr 1000 (m+3) 0 0,.ptr 1002 (m+1) 0 0,.ptr 1005 m 0 0,.ptr 1006 (m+4) 0 0]) R R R R iL R ⟨.inl ⟨iL,R⟩,Za⟩ ⟨R,R,R,R,R,R,R,R,R,R,R,R,R,R,R,R,R,R,R,R,R,Za⟩ (by decide) (ec B F) ?_
 intro U M
 refine Bm [0,1,2,3,4,5,6,7,8,9,10] [2,3,4,5,6,1000,1001] ?_
 refine Zh ?_
 exact B9.mk (s':=⟨[],[(1000,some<|.box l 141 [.yld 1001 j]),(1001,some<|.cal j q E)],M,11⟩) wk<|CX (λ(r:(List<|List RV)) A h'=>∃(i:Nat→Nat),A=.tup []∧h'=[(1000,some<|.box l 141 [.yld 1001 j]),(1001,some<|.cal j q r)]) J<|by exact⟨.tup [],[(1000,some<|.box l 141 [.yld 1001 j]),(1001,some<|.cal j q E)],⟨_,R,Za⟩,⟨.inr R,.inr R,Za⟩,R,R,AH [],R,R⟩
theorem dD{I:List (List RV)→Option Bool}{m:List (List RV)}{w:Aa}{r:(List<|List RV)}{j:Nat}{l:Nat}{q:Ej}(h:Fg I m w=some r)(M:q.P=prog∧q.A=I):BH prog 69 2 [.yld 1000 j,.ptr 1001 l 0 0] [(1000,some<|.cal j q m),(1001,some<|.box l 24 [qb w.Nodes])] (λA h'=>∃(i:Nat→Nat),A=.tup []∧h'=[(1000,some<|.cal j q r),(1001,some<|.box l 24 [qb w.Nodes])]):=by
 unfold Fg at h
 refine Em func69 R R ntmps69 (Zt R) λB=>aU<|sS R (BC (cs:=[.yld 1000 j]) 2 R iL R R)<|aZ<|aT λO=>aU<|xC CV R<|AG h λX C T=>cL (fX<|C) R<|xU R<|aZ<|cI R T (λE=>?_) λE=>?_
 ·exact Zj<|B9.mk (s':=⟨[],[(1000,some<|.cal j q m),(1001,some<|.box l 24 [qb w.Nodes])],(B+1),9⟩) wk<|CX (λ(r:(List<|List RV)) A h'=>∃(i:Nat→Nat),A=.tup []∧h'=[(1000,some<|.cal j q r),(1001,some<|.box l 24 [qb w.Nodes])]) E<|by exact⟨.tup [],[(1000,some<|.cal j q m),(1001,some<|.box l 24 [qb w.Nodes])],⟨_,R,Za⟩,⟨.inr R,.inr R,Za⟩,R,R,AH [],R,R⟩
 refine Zc<|O _<|aR<|xC CV R ?_
 refine sQ R (JW (bs:=[.ptr 2 B 0 0]) R<|by exact⟨iL,Za⟩) ?_
 refine AG E λJ F U=>?_
 refine ZA [2,1000] (hc:=[(1000,some<|.box B 141 [.yld 1001 j]),(1001,some<|.cal j q m)]) (bs:=[.agg [qb w.Nodes],.fn 71 [.ptr 1000 B 0 0]]) (caps:=[]) R R R R iL R ⟨.inl ⟨iL,R⟩,.inl ⟨iL,R⟩,Za⟩ ⟨R,R,R,R,R,R,Za⟩ (by decide) (jW F M) ?_
 intro Z V
 refine Bm [0,1,2,3,4,5,6,7,8] [2,1000,1001] ?_
 refine Zh ?_
 exact B9.mk (s':=⟨[],[(1000,some<|.cal j q J),(1001,some<|.box l 24 [qb w.Nodes])],V,9⟩) wk<|CX (λ(r:(List<|List RV)) A h'=>∃(i:Nat→Nat),A=.tup []∧h'=[(1000,some<|.cal j q r),(1001,some<|.box l 24 [qb w.Nodes])]) U<|by exact⟨.tup [],[(1000,some<|.cal j q J),(1001,some<|.box l 24 [qb w.Nodes])],⟨_,R,Za⟩,⟨.inr R,.inr R,Za⟩,R,R,AH [],R,R⟩
theorem eG{d1 b r}(h:Jp d1 b=some r):AS prog 7 [.agg [qb d1.Nodes],rI b] (rS r):=by
 unfold Jp at h
 refine mF func7 ntmps7 R λj=>aU<|sS R (BC (cs:=[qb d1.Nodes]) 2 R iL R R)<|sS R (BC (cs:=[rI b]) 3 R iL R R)<|sS R (BN (cs:=[.r<|.str []]) 4 R Z2 R R)<|aZ<|aU<|xC CV R<|sQ R (Ab (a:=rI b) R AI iL R R)<|AG h λi1 O h1=>cL (aJ<|O) R<|mA R<|aZ<|aT λc3=>aU<|mM R<|xS R<|mM R<|vF CD CJ R R<|vM R<|AG h1 λx1 T h2=>vQ R (BK R Bs.slice (iR R) (iR R) (λ_=>R)<|Ad T)<|vQ R (BI R CF<|iR R)<|vQ R (Bj (d:=.int .i64 x1.Kind) R AI (iR R) R)<|vQ R (C0 R (iR R) iL)<|xO R<|aZ<|cI R h2 (λU=>?_) λU=>?_
 ·refine aT λc5=>aG [4] [4] ?_
  exact aR<|Zl R R (A6 (ds:=[.r<|.str []]) R Mh iL R iL R R R R)<|aZ<|c5 _<|Zj<|Cb (P:=prog) (λ(r:(List UInt8))=>rS r) U iL<|.c A9 R R<|.d R
 refine Zc<|c3 _<|aT λc6=>aG [2,3,4,5] [2,3,4] ?_
 refine aR<|lF CD CJ R R<|mM R<|AG U λI V h4=>xI Bs R V<|sQ R (BI R Il iL)<|xV (.sl<|I.Attrs.map AE.row) Ci R<|AG h4 λm X h5=>cL (Uy<|X) R<|sS R (BN (cs:=[.r<|.str []]) 6 R Z2 R R)<|Zl R R (A6 (ds:=[rS m]) R Mh iL R iL R R R R)<|aZ<|c6 _<|aT λc7=>aT λc8=>aR<|xC CV R<|AG h5 λZ a0 h6=>?_
 refine ZA [31] (hc:=[]) (bs:=[.agg [qb d1.Nodes]]) (caps:=[]) R R R R iL R ⟨.inl ⟨iL,R⟩,Za⟩ Za (by decide) (oR a0) ?_
 intro J F
 refine Bm [2,3,4,5,6,23,24,25,26,27,28,29,30,31] [2,3,4,6,31] ?_
 refine aZ<|c8 _<|Zg<|AW.weak (s':=⟨[(2,.ptr 2 j 0 0),(3,.ptr 3 (j+1) 0 0),(4,.ptr 4 (j+2) 0 0),(5,rI i1),(6,.ptr 6 (j+3) 0 0),(23,.ptr 2 j 0 0),(24,qb d1.Nodes),(25,rI i1),(26,.rop (Ac.row I) 0),(27,.rop (Ac.row I) 2),(28,qa I.Attrs),(29,rS m),(30,.agg [qb d1.Nodes]),(31,.fn 69 [.ptr 31 (J 0) 0 0])],[(2,some<|.box j 24 [qb d1.Nodes]),(3,some<|.box (j+1) 3 [rI b]),(4,some<|.box (j+2) 9 [.r<|.str []]),(6,some<|.box (j+3) 9 [rS m]),(31,some<|.box (J 0) 24 [qb Z.Nodes])],F,55⟩) wk<|FY h6 λal o4 a1 a2=>?_
 refine AW.rng2L (it:=λA=>Fg A [] Z) (L:=[31]) (hB:=[(1001,some<|.box (J 0) 24 [qb Z.Nodes])]) (caps:=[.ptr 1001 (J 0) 0 0]) 0 (λ(o2:(List UInt8)) M=>[(2,some<|.box j 24 [qb d1.Nodes]),(3,some<|.box (j+1) 3 [rI b]),(4,some<|.box (j+2) 9 [rS o2]),(6,some<|.box (j+3) 9 [rS m])]) (λM=>(F+1)+(M 0)) (AH [0]) a1 R R (by exact⟨R,R,R,Za⟩) R (by decide) R (by exact⟨.inr R,.inr R,.inr R,.inr R,Za⟩) R (λ_ _=>R) nL (λi=>rQ (sr _)<|vA _ _) R R ⟨_,func69,R,R⟩ (λW ys hP hi=>⟨_,dD hi ⟨hP,R⟩,λrr h' ⟨i,e1,e2⟩=>by rw[e2];rfl⟩) ?_ ?_
 ·intro E1 A0 B0 an ao (o2) l b1 w2 a6 M h7
  have h8:Iw d1 b m o2 l b1=some (w2,a6):=h7;unfold Iw at h8
  refine aG [2,3,4,5,6,23,24,25,26,27,28,29,30,32,33] [0,2,3,4,6] ?_
  refine aG [2,3,4,6,32] [0,2,3,4,6] ?_
  refine aR<|mA R<|Zh<|qu R<|bG<|Zg<|aT λc9=>AG h8 λr2 a7 h9=>AG h9 λq a8 aa=>?_
  refine JT 8 [pO 34<|.ptr 2 j 0 0,pO 35<|qb d1.Nodes,pO 36<|.agg [qb d1.Nodes],pO 37<|rI l,pO 38<|rI r2,pO 39<|.rop (Ac.row q) 0,pO 40<|.agg<|A5 q,⟨some 8,(λC=>.ptr 8 (C 7) 0 0),some (8,(λC=>some<|.box (C 7) 40 FF)),[7]⟩] BZ (by kernel_rfl) (by exact⟨λ_ _ h=>⟨R,λ_ _ e=>by cases e⟩,λ_ _ h=>⟨R,λ_ _ e=>by cases e⟩,λ_ _ h=>⟨R,λ_ _ e=>by cases e⟩,λ_ _ h=>⟨R,λ_ _ e=>by cases e⟩,λ_ _ h=>⟨R,λ_ _ e=>by cases e⟩,λ_ _ h=>⟨R,λ_ _ e=>by cases e⟩,λ_ _ h=>⟨R,λ_ _ e=>by cases e⟩,λ_ _ h=>⟨by simp only[h 7 R],λ_ _ e=>by cases e;simp only[h 7 R]⟩,Za⟩) R (by exact⟨oB [(2,.ptr 2 j 0 0)] [(2,some<|.box j 24 [qb d1.Nodes])]<|fB R CD (.inl R) (λ_=>R) R,oB [(34,.ptr 2 j 0 0)] [(2,some<|.box j 24 [qb d1.Nodes])]<|Ab (a:=qb d1.Nodes) R CJ (.inl R) R R,oB [(2,.ptr 2 j 0 0)] [(2,some<|.box j 24 [qb d1.Nodes])]<|Dr R CV (.inl R) R R,oB [(7,rI l)] []<|AL R<|.inl R,oD (λ_=>[(36,.agg [qb d1.Nodes]),(37,rI l)]) (λ_=>[]) λC e h' n=>Dz (r:=rI r2) (caps:=[]) (bs:=[.agg [qb d1.Nodes],rI l]) R (.inl R) R ⟨⟨_,(.inl R),.g (cs:=[.sl<|d1.Nodes.map Ac.row]) R R⟩,⟨_,(.inl R),.d R⟩,Za⟩ (λ_=>aJ<|a7) R,oB [(35,qb d1.Nodes),(38,rI r2)] []<|BK R Bs.slice (.inl R) (.inl R) (λ_=>R) λ_=>a8,oB [(39,.rop (Ac.row q) 0)] []<|ET (cs:=(A5 q)) R ER (.inl R) R R,oM (λ_=>[]) (λ_=>[]) R λC e h' n=>BN (cs:=FF) 8 R I2 R R,Za⟩) λC E=>?_
  refine Bm [2,3,4,6,7,8,32,34,35,36,37,38,39,40] [0,2,3,4,6,8] ?_
  refine Zl R R (A6 (ds:=(A5 q)) R IM iL R iL R R R R)<|aZ<|c9 _<|aT λab=>aG [3,4,6,7,8] [0,2,3,4,6,8] ?_
  refine Zz BZ (by kernel_rfl) ?_
  refine qP R (fB R CF iL fR R)<|qP R (Ab (a:=rI q.Kind) R AI iL R R)<|qP R (BE R iL iL)<|qP R (AL R iL)<|qO R (fB R Il iL fR R)<|qO R (Ab (a:=qa q.Attrs) R Ci (iR R) R R)<|AG aa λr3 ac ad=>Kw (.one R R R) R R (r:=rS r3) (caps:=[]) (bs:=[qa q.Attrs,.r<|.str [110,97,109,101]]) R iL R ⟨⟨_,(iR R),.d R⟩,⟨_,iL,.d R⟩,Za⟩ (λhg=>Uy<|Ad ac hg) R<|qO R (Ab (a:=rS m) R A9 iL R R)<|qO R (D3 R (iR R)<|iR R)<|qP R (BS R iL<|iR R)<|AQ.nil<|ab _<|cI R ad (λw=>?_) λw=>?_
  ·refine aT λae=>aT λaf=>aG [3,4,6,7] [0,2,3,4,6] ?_
   refine aR<|mM R<|sQ R (Ab (a:=rI b) R AI iL R R)<|xQ R<|aZ<|af _<|cI R w (λB=>?_) λB=>?_
   ·exact aU<|sQ R (Ab (a:=rS m) R A9 iL R R)<|Zl R R (A6 (ds:=[rS m]) R Mh iL R iL R R R R)<|aZ<|Zj<|⟨_,(show Ah _ ⟨[],[(0,some<|.lp F E1 55 [32,33] A0 B0 .busy none),(2,some<|.box j 24 [qb d1.Nodes]),(3,some<|.box (j+1) 3 [rI b]),(4,some<|.box (j+2) 9 [rS m]),(6,some<|.box (j+3) 9 [rS m])],E,55⟩ from wk),bB B (AH [E]) R<|Nat.le_add_left _ _⟩
   exact Zc<|ae _<|aU<|Zl R R (A6 (ds:=[.r<|.str []]) R Mh iL R iL R R R R)<|aZ<|Zj<|⟨_,(show Ah _ ⟨[],[(0,some<|.lp F E1 55 [32,33] A0 B0 .busy none),(2,some<|.box j 24 [qb d1.Nodes]),(3,some<|.box (j+1) 3 [rI b]),(4,some<|.box (j+2) 9 [.r<|.str []]),(6,some<|.box (j+3) 9 [rS m])],E,55⟩ from wk),bB B (AH [E]) R<|Nat.le_add_left _ _⟩
  exact Zc<|⟨_,(show Ah _ ⟨[],[(0,some<|.lp F E1 55 [32,33] A0 B0 .busy none),(2,some<|.box j 24 [qb d1.Nodes]),(3,some<|.box (j+1) 3 [rI b]),(4,some<|.box (j+2) 9 [rS o2]),(6,some<|.box (j+3) 9 [rS m])],E,55⟩ from wk),qo w (AH [E]) R<|Nat.le_add_left _ _⟩
 intro M
 refine aN a2 (λe1 ag=>qs e1 ?_) λah=>?_
 ·
  refine c7 _<|aT λai=>aG [4] [4] ?_
  exact aR<|Zl R R (A6 (ds:=[.r<|.str []]) R Mh iL R iL R R R R)<|aZ<|ai _<|Zj<|Cb (P:=prog) (λ(r:(List UInt8))=>rS r) ag iL<|.c A9 R R<|.d R
 refine aN ah (λe2 aj=>qZ e2 ?_) λak=>?_
 ·
  exact Zj<|Cb (P:=prog) (λ(r:(List UInt8))=>rS r) aj iL<|.c A9 R R<|.d R
 exact nh ak
theorem DY{j l a r}(h:Ck j l a=some r):AS prog 72 [rI j,rI l,rI a] (rB r):=by
 unfold Ck at h
 exact mF func72 ntmps72 R λm=>aU<|mA R<|aZ<|aU<|mM R<|mM R<|sQ R (Cq R iL iL)<|mM R<|vM R<|vM R<|vQ R (Ei R (iR R)<|iR R)<|xN R<|mA R<|aZ<|Zj<|yB h R
theorem WX{l r}(h:Ll l=some r):AS prog 19 [rS l] (rB r):=by
 unfold Ll at h
 refine mF func19 ntmps19 R λX=>aU<|mA R<|aZ<|aS λZ c2 A=>aU<|mM R<|sQ R (DQ R underlying9 iL)<|mM R<|aZ<|Zg<|BV h λo1 m B C=>?_
 have J1:∀(T:Unit) (U:NN),o1=.nrm T→Z ⟨[(0,rS l)],[],(U 0),59⟩:=by
  intro T U e
  have h1:=B _ e
  exact c2 _<|aU<|mM R<|sQ R (DQ R underlying9 iL)<|sQ R (Cq R iL iL)<|mM R<|vM R<|vQ R (DQ R underlying9<|iR R)<|vQ R (Ei R (iR R) iL)<|xN R<|mA R<|aZ<|Zj<|yB h1 R
 refine Zu (λ(E:Int) w=>⟨[(0,rS l),(6,rL l),(7,rI E)],[],(w 0),59⟩) (AH [X]) m wk ?_
 intro E w v1 F q
 have V:Lw l E=some v1:=F;unfold Lw at V
 refine aU<|xS R<|aZ<|aT λc6=>cI R V (λI=>?_) λI=>?_
 ·refine Zc<|c6 _<|aT λc7=>Zg<|aU<|mM R<|mA R<|aZ<|aU<|mM R<|mM R<|AG I λa0 j h4=>sQ R (CT R underlying9 iL iL λ_=>j)<|sQ R (Cq R iL iL)<|mM R<|vM R<|vM R<|vQ R (CT R underlying9 (iR R) (iR R) λ_=>j)<|vQ R (Ei R (iR R) iL)<|xN R<|mA R<|aZ<|aT λJ=>aR<|mM R<|sQ R (BB R iL)<|mM R<|vM R<|vQ R (BE R (iR R) iL)<|vQ R (AL R<|iR R)<|wQ R (AL R iL)<|wQ R (AL R iL)<|wQ R (CT R underlying9 (iR R) (iR R) λ_=>j)<|wQ R (C0 R (iR R) iL)<|wQ R (AL R<|iR R)<|wQ R (AL R iL)<|wQ R (AL R iL)<|wQ R (CT R underlying9 (iR R) (iR R) λ_=>j)<|wQ R (C0 R (iR R) iL)<|wQ R (BS R (iR R)<|iR R)<|wQ R (AL R<|iR R)<|wQ R (AL R iL)<|wQ R (AL R iL)<|wQ R (CT R underlying9 (iR R) (iR R) λ_=>j)<|wQ R (Bu R (iR R) iL)<|wQ R (AL R<|iR R)<|wQ R (AL R iL)<|wQ R (AL R iL)<|wQ R (CT R underlying9 (iR R) (iR R) λ_=>j)<|wQ R (BU R (iR R) iL)<|wQ R (CN R (iR R)<|iR R)<|wQ R (BS R (iR R)<|iR R)<|vQ R (CN R (iR R)<|iR R)<|xN R<|aZ<|J _<|cI R h4 (λM=>?_) λM=>?_
  ·exact zB (C _<|xH q M) R id
  refine Zc<|c7 _<|aF [0,6,7] ?_
  exact aR<|AG M λx4 O h6=>xA R O<|mM R<|Zh<|Zr h6 (AH [(w 0)]) wk
 exact Zm<|A _ _ wk<|J1 _ (AH [(w 0)])<|xH q I
theorem VX{l r}(h:LO l=some r):AS prog 126 [rS l] (rB r):=by
 unfold LO at h
 refine mF func126 ntmps126 R λV=>aU<|mA R<|aZ<|aS λX Z A=>aU<|mM R<|sQ R (DQ R underlying9 iL)<|mM R<|aZ<|Zg<|BV h λo1 m B C=>?_
 have J1:∀(O:Unit) (T:NN),o1=.nrm O→X ⟨[(0,rS l)],[],(T 0),28⟩:=by
  intro O T e
  have h1:=B _ e
  exact Z _<|aU<|mM R<|sQ R (DQ R underlying9 iL)<|sQ R (Cq R iL iL)<|mM R<|vM R<|vQ R (DQ R underlying9<|iR R)<|vQ R (Ei R (iR R) iL)<|xN R<|mA R<|aZ<|Zj<|yB h1 R
 refine Zu (λ(E:Int) w=>⟨[(0,rS l),(5,rL l),(6,rI E)],[],(w 0),28⟩) (AH [V]) m wk ?_
 intro E w v1 F q
 have U:OF l E=some v1:=F;unfold OF at U
 refine aU<|xS R<|aZ<|aT λc6=>cI R U (λI=>?_) λI=>?_
 ·refine Zc<|c6 _<|aT λc7=>Zg<|aU<|mM R<|mA R<|aZ<|aU<|mM R<|mM R<|AG I λa0 j h4=>sQ R (CT R underlying9 iL iL λ_=>j)<|xS R<|mM R<|vM R<|vM R<|vQ R (CT R underlying9 (iR R) (iR R) λ_=>j)<|vQ R (BU R (iR R) iL)<|xO R<|aZ<|cI R h4 (λJ=>?_) λJ=>?_
  ·exact zB (C _<|xH q J) R id
  refine Zc<|c7 _<|aF [0,5,6] ?_
  exact aR<|AG J λx4 M h6=>xA R M<|mM R<|Zh<|Zr h6 (AH [(w 0)]) wk
 exact Zm<|A _ _ wk<|J1 _ (AH [(w 0)])<|xH q I
theorem UA{w c r}(h:Jl w c=some r):AS prog 73 [qa w,rB c] (rI r):=by
 unfold Jl at h
 refine mF func73 ntmps73 R λn0=>aU<|mA R<|aZ<|aS λK2 c2 E=>aU<|mM R<|xL BD R<|mM R<|aZ<|Zg<|BV h λo1 A F m=>?_
 have J1:∀(u2:Unit) (i5:NN),o1=.nrm u2→K2 ⟨[],[],(i5 0),54⟩:=by
  intro u2 i5 e
  have h1:=F _ e
  exact c2 _<|zI h1 R id
 refine Zu (λ(I:Int) B=>⟨[(0,qa w),(1,rB c),(7,rL w),(8,rI I)],[],(B 0),54⟩) (AH [n0]) A wk ?_
 intro I B v1 J j
 have h2:La w c I=some v1:=J;unfold La at h2
 refine aU<|xS R<|aZ<|aT λc6=>cI R h2 (λM=>?_) λM=>?_
 ·refine Zc<|c6 _<|aT λc7=>Zg<|aU<|mM R<|mA R<|aZ<|aT λc9=>aU<|mM R<|mM R<|AG M λC l h4=>xI BD R l<|sQ R (BI R ES iL)<|xV (.str C.Name) A9 R<|AG h4 λr1 O h5=>cL (WX<|O) R<|sQ R (BB R iL)<|aZ<|cI R h5 (λT=>?_) λT=>?_
  ·exact zI (m _<|xH j T) R id
  refine Zc<|c9 _<|aT λU=>aT λV=>aF [0,1,5,7,8] ?_
  refine aR<|mM R<|mM R<|xI BD R l<|sQ R (BI R JD iL)<|xV (.str C.Value) A9 R<|AG T λr2 X h7=>cL (VX<|X) R<|sQ R (BB R iL)<|mM R<|vM R<|vM R<|vQ R (BK R BD.slice (iR R) (iR R) (λ_=>R) λ_=>l)<|vQ R (BI R JD<|iR R)<|vQ R (Bj (d:=.str C.Value) R A9 (iR R) R)<|vQ R (Dt R (iR R) iL)<|vQ R (AL R<|iR R)<|wQ R (AL R iL)<|wQ R (BB R<|iR R)<|vQ R (CN R (iR R)<|iR R)<|xN R<|aZ<|V _<|cI R h7 (λZ=>?_) λZ=>?_
  ·exact zI (m _<|xH j Z) R id
  refine Zc<|U _<|aT λa0=>aF [0,1,5,7,8] ?_
  refine Zz BZ (by kernel_rfl) ?_
  refine qP R (AL R iL)<|qP R (BU R iL iL)<|qP R (AL R iL)<|qO R (AL R iL)<|qO R (AL R iL)<|AG Z λx5 a1 h9=>qO R (CS R (iR R) iL<|Ad a1)<|AG h9 λx6 a2 a6=>qO R (BK R BD.slice (iR R) (iR R) (λ_=>R)<|Ad a2)<|qO R (BI R ES<|iR R)<|qO R (Bj (d:=.str x6.Name) R A9 (iR R) R)<|qO R (AL R iL)<|qO R (AL R iL)<|qO R (BK R BD.slice (iR R) (iR R) (λ_=>R) λ_=>l)<|qO R (BI R ES<|iR R)<|qO R (Bj (d:=.str C.Name) R A9 (iR R) R)<|qO R (R0 R (iR R)<|iR R)<|qP R (BS R iL<|iR R)<|AQ.nil<|a0 _<|cI R a6 (λq=>?_) λq=>?_
  ·exact zI (m _<|xH j q) R id
  exact Zc<|c7 _<|aR<|AG q λx7 a7 a8=>xA R a7<|mM R<|Zh<|Zr a8 (AH [(B 0)]) wk
 exact Zm<|E _ _ wk<|J1 _ (AH [(B 0)])<|xH j M
theorem TU{k r}(h:LW k=some r):AS prog 25 [rI k] (rB r):=by
 unfold LW at h
 exact mF func25 ntmps25 R λj=>aU<|mA R<|aZ<|aU<|mM R<|xQ R<|mM R<|vM R<|vQ R (BE R (iR R) iL)<|xO R<|mM R<|vM R<|vQ R (BE R (iR R) iL)<|xO R<|mM R<|vM R<|vQ R (BE R (iR R) iL)<|xO R<|mA R<|aZ<|Zj<|yB h R
theorem cQ{k r}(h:RN k=some r):AS prog 74 [rI k] (rB r):=by
 unfold RN at h
 exact mF func74 ntmps74 R λj=>aU<|mA R<|aZ<|aU<|mM R<|xQ R<|mM R<|vM R<|vQ R (BE R (iR R) iL)<|xO R<|mA R<|aZ<|Zj<|yB h R
theorem kb{j r}(h:N3 j=some r):AS prog 75 (T8 j) (rB r):=by
 unfold N3 at h
 exact mF func75 ntmps75 R λl=>aU<|sS R (BC (cs:=(CR j)) 1 R iL R R)<|mA R<|aZ<|aU<|lF Gx AI R R<|xQ R<|mM R<|vF HT AI R R<|vQ R (BE R (iR R) iL)<|xN R<|mM R<|vF EF EH R R<|vQ R (Dl R B2.slice<|iR R)<|vQ R (BE R (iR R) iL)<|xN R<|mM R<|vF EN Eb R R<|vQ R (Dl R DD.slice<|iR R)<|vQ R (BE R (iR R) iL)<|xN R<|mA R<|aZ<|Zj<|yB h R
theorem ZT{k r}(h:OE k=some r):AS prog 76 [rI k] (rB r):=by
 unfold OE at h
 exact mF func76 ntmps76 R λj=>aU<|mA R<|aZ<|aU<|mM R<|xQ R<|mM R<|vM R<|vQ R (BE R (iR R) iL)<|xO R<|mA R<|aZ<|Zj<|yB h R
theorem l8{k r}(h:PK k=some r):AS prog 77 [rI k] (rB r):=by
 unfold PK at h
 exact mF func77 ntmps77 R λj=>aU<|mA R<|aZ<|aU<|mM R<|xQ R<|mM R<|vM R<|vQ R (BE R (iR R) iL)<|xO R<|mM R<|vM R<|vQ R (BE R (iR R) iL)<|xO R<|mA R<|aZ<|Zj<|yB h R
theorem Wf{q r}(h:Lq q=some r):AS prog 194 [rI q] (rB r):=by
 unfold Lq at h
 exact mF func194 ntmps194 R λC=>aU<|mA R<|aZ<|aU<|mM R<|xQ R<|mM R<|vM R<|vQ R (BE R (iR R) iL)<|xO R<|mM R<|vM R<|AG h λE j w=>vL (λhg=>DY<|Ad j hg) R<|xO R<|mM R<|vM R<|AG w λF l A=>vL (λhg=>DY<|Ad l hg) R<|xO R<|mM R<|vM R<|AG A λI m B=>vL (λhg=>DY<|Ad m hg) R<|xO R<|mA R<|aZ<|Zj<|yB B R
theorem iu{j r}(h:NA j=some r):AS prog 127 (Xp j) (rI r):=by
 unfold NA at h
 refine mF func127 ntmps127 R λT=>aU<|sS R (BC (cs:=(Di j)) 1 R iL R R)<|mA R<|aZ<|aT λB=>aU<|lF Gu AI R R<|xQ R<|mM R<|vF Du AI R R<|vQ R (BE R (iR R) iL)<|xN R<|mM R<|vF Gu AI R R<|vQ R (C0 R (iR R) iL)<|vQ R (AL R<|iR R)<|wQ R (fB R Du iL fR R)<|wQ R (Ab (a:=rI j.Ref) R AI (iR R) R R)<|wQ R (C0 R (iR R) iL)<|vQ R (BS R (iR R)<|iR R)<|xO R<|aZ<|cI R h (λl=>?_) λl=>?_
 ·exact zI l R id
 refine Zc<|B _<|aT λC=>aT λE=>aG [1] [1] ?_
 refine aR<|lF Gu AI R R<|xU R<|mM R<|vF Gu AI R R<|AG l λU m F=>vL (λhg=>Wf<|Ad m hg) R<|vQ R (BB R<|iR R)<|xN R<|mM R<|vF Du AI R R<|vQ R (C0 R (iR R) iL)<|vQ R (AL R<|iR R)<|wQ R (fB R Du iL fR R)<|wQ R (Ab (a:=rI j.Ref) R AI (iR R) R R)<|AG F λI q J=>AK.stepW (.two R R R) R R (Dz (r:=rB I) (caps:=[]) (bs:=[rI j.Ref,rI 1,rI 1073741824]) R iL R ⟨⟨_,(iR R),.d R⟩,⟨_,iL,.d R⟩,⟨_,iL,.d R⟩,Za⟩ (λhg=>DY<|Ad q hg) R)<|wQ R (BB R<|iR R)<|vQ R (BS R (iR R)<|iR R)<|xO R<|aZ<|E _<|cI R J (λw=>?_) λw=>?_
 ·exact zI w R id
 refine Zc<|C _<|aT λM=>aG [1] [1] ?_
 exact aR<|lF Ry Ci R R<|AG w λV A O=>cL (UA<|A) R<|mA R<|aZ<|M _<|Zj<|yI O R
theorem hX{m a r}(h:Iv m a=some r):AS prog 78 [qe m,rB a] (rI r):=by
 unfold Iv at h
 refine mF func78 ntmps78 R λn0=>aU<|mA R<|aZ<|aS λK2 c2 C=>aU<|mM R<|xL CZ R<|mM R<|aZ<|Zg<|BV h λo1 q E w=>?_
 have J1:∀(u2:Unit) (i5:NN),o1=.nrm u2→K2 ⟨[(0,qe m),(1,rB a)],[],(i5 0),47⟩:=by
  intro u2 i5 e
  have h1:=E _ e
  refine c2 _<|aT λc4=>aU<|mM R<|mM R<|vM R<|vQ R (Dl R CZ.slice<|iR R)<|vQ R (BE R (iR R) iL)<|vQ R (AL R<|iR R)<|wQ R (AL R iL)<|wQ R (AL R iL)<|wQ R (Dl R CZ.slice<|iR R)<|AG h1 λx4 F h2=>wQ R (CS R (iR R) iL<|Ad F)<|AG h2 λx5 I h3=>wQ R (BK R CZ.slice (iR R) (iR R) (λ_=>R)<|Ad I)<|wQ R (BI R Gu<|iR R)<|wQ R (Bj (d:=.int .i64 x5.Char) R AI (iR R) R)<|wQ R (C0 R (iR R) iL)<|vQ R (CN R (iR R)<|iR R)<|xN R<|aZ<|cI R h3 (λJ=>?_) λJ=>?_
  ·exact zI J R id
  exact Zc<|c4 _<|zI J R id
 refine Zu (λ(M:Int) B=>⟨[(0,qe m),(1,rB a),(8,rL m),(9,rI M)],[],(B 0),47⟩) (AH [n0]) q wk ?_
 intro M B v1 O j
 have h5:Jy m a M=some v1:=O;unfold Jy at h5
 refine aU<|xS R<|aZ<|aT λc9=>cI R h5 (λT=>?_) λT=>?_
 ·refine Zc<|c9 _<|aT λU=>Zg<|aU<|mM R<|mA R<|aZ<|aT λV=>aU<|mM R<|mM R<|AG T λx6 A h7=>xI CZ R A<|xB ((Di x6)) LK R<|AG h7 λe1 X h8=>cL (iu<|X) R<|mA R<|aZ<|aU<|mM R<|xU R<|aZ<|cI R h8 (λZ=>?_) λZ=>?_
  ·refine aT λa0=>aF [6] ?_
   exact aR<|mM R<|mA R<|aZ<|a0 _<|Zj<|yI (w _<|xH j Z) R
  refine Zc<|V _<|aT λa1=>aF [0,1,5,8,9] ?_
  refine aR<|mM R<|sQ R (BB R iL)<|mM R<|vM R<|vM R<|vQ R (BK R CZ.slice (iR R) (iR R) (λ_=>R) λ_=>A)<|vQ R (BI R Gu<|iR R)<|vQ R (Bj (d:=.int .i64 x6.Char) R AI (iR R) R)<|vQ R (C0 R (iR R) iL)<|xN R<|aZ<|a1 _<|cI R Z (λl=>?_) λl=>?_
  ·exact zI (w _<|xH j l) R id
  exact Zc<|U _<|aR<|AG l λx7 a2 a6=>xA R a2<|mM R<|Zh<|Zr a6 (AH [(B 0)]) wk
 exact Zm<|C _ _ wk<|J1 _ (AH [(B 0)])<|xH j T
theorem ij{j r}(h:Py j=some r):AS prog 262 [rS j] (rB r):=by
 unfold Py at h
 exact qV cB R R R ⟨_,func262,R,R⟩ h
theorem oq{l r}(h:MY l=some r):AS prog 195 [rS l] (rB r):=by
 unfold MY at h
 refine mF func195 ntmps195 R λE=>aU<|mA R<|aZ<|aT λc2=>aU<|mM R<|AG h λr1 F h1=>cL (ij<|F) R<|sQ R (BB R iL)<|aZ<|cI R h1 (λI=>?_) λI=>?_
 ·exact zB I R id
 refine Zc<|c2 _<|aS λK5 c5 J=>aU<|mM R<|sS R (jY 9 R underlying9 iL)<|aZ<|Zg<|BV I λo1 m M O=>?_
 have J1:∀(u2:Unit) (i5:NN),o1=.nrm u2→K5 ⟨[],[],(i5 0),21⟩:=by
  intro u2 i5 e
  have h3:=M _ e
  exact c5 _<|zB h3 R id
 refine Zu (λ(B:(Nat)) C=>⟨[(9,.ptr 9 E 0 0)],[(9,some<|.it E l B)],(C 0),21⟩) (AH [(E+1)]) m wk ?_
 intro B C v1 T q
 have U:E8 l B=some v1:=T;unfold E8 at U
 refine aT λc8=>AW.split (decide<|B<l.length) (λj=>?_) λj=>?_
 ·have V:=EQ j U
  refine aR<|sS R (dG R iL R λ_=>j)<|xX R<|aZ<|c8 _<|aT λc9=>aC R (λw=>?_) λw=>by cases w
  refine Zc<|c9 _<|Zg<|aU<|xX R<|mA R<|aZ<|aU<|mM R<|xQ R<|mM R<|vM R<|vQ R (D1 R underlying21 underlying3<|iR R)<|AG V λr2 X h6=>vL (λhg=>Wf<|Ad X hg) R<|vQ R (BB R<|iR R)<|xO R<|aZ<|cI R h6 (λZ=>?_) λZ=>?_
  ·exact zB (O _<|xH q Z) R id
  exact Zc<|Zr Z (AH [(C 0)]) wk
 ·have V:=EM j U
  exact aR<|sS R (mt R iL R λ_=>j)<|xX R<|aZ<|c8 _<|aT λa0=>aC R (λA=>by cases A) λA=>Zm<|J _ _ wk<|J1 _ (AH [(C 0)])<|xH q V
theorem jM{j r}(h:O7 j=some r):AS prog 196 (YK j) (rB r):=by
 unfold O7 at h
 exact mF func196 ntmps196 R λl=>aU<|sS R (BC (cs:=(Bg j)) 1 R iL R R)<|mA R<|aZ<|aU<|lF I7 A9 R R<|sQ R (D3 R iL iL)<|mM R<|vF EO AI R R<|vQ R (BE R (iR R) iL)<|xN R<|mM R<|vF HF Ci R R<|vQ R (Dl R BD.slice<|iR R)<|vQ R (BE R (iR R) iL)<|xN R<|mA R<|aZ<|Zj<|yB h R
theorem kD{C b c n r}(h:NX C b c n=some r):AS prog 128 [qc C,rI b,rI c,rB n] (rI r):=by
 unfold NX at h
 refine mF func128 ntmps128 R λn0=>aU<|mA R<|aZ<|aS λK2 c2 U=>aU<|mM R<|xL B2 R<|mM R<|aZ<|Zg<|BV h λo1 E V l=>?_
 have J1:∀(u2:Unit) (i5:NN),o1=.nrm u2→K2 ⟨[],[],(i5 0),93⟩:=by
  intro u2 i5 e
  have h1:=V _ e
  exact c2 _<|zI h1 R id
 refine Zu (λ(X:Int) T=>⟨[(0,qc C),(1,rI b),(2,rI c),(3,rB n),(13,rL C),(14,rI X)],[],(T 0),93⟩) (AH [n0]) E wk ?_
 intro X T v1 Z j
 have h2:Nx C b c n X=some v1:=Z;unfold Nx at h2
 refine aU<|xS R<|aZ<|aT λc6=>cI R h2 (λh3=>?_) λh3=>?_
 ·refine Zc<|c6 _<|aT λc7=>Zg<|aU<|mM R<|mA R<|aZ<|aU<|mM R<|mM R<|AG h3 λF a0 h4=>xI B2 R a0<|xB ((Bg F)) E7 R<|sS R (BN (cs:=IA) 10 R Hg R R)<|Zl R R (A6 (ds:=(Bg F)) R IN iL R iL R R R R)<|aZ<|aT λa1=>aT λa2=>aR<|lF E5 AI R R<|mM R<|AG h4 λx5 a6 h5=>sQ R (CS R iL iL λ_=>a6)<|AG h5 λr1 a7 h6=>cL (DY<|a7) R<|sQ R (BB R iL)<|mM R<|vF FW AI R R<|vM R<|AG h6 λx6 a8 h7=>vQ R (CS R (iR R) iL<|Ad a8)<|AG h7 λr2 aa h8=>vL (λhg=>DY<|Ad aa hg) R<|vQ R (BB R<|iR R)<|xO R<|mM R<|vF EO AI R R<|AG h8 λr3 ab h9=>vL (λhg=>DY<|Ad ab hg) R<|vQ R (BB R<|iR R)<|xO R<|aZ<|a2 _<|cI R h9 (λm=>?_) λm=>?_
  ·exact zI (l _<|xH j m) R id
  refine Zc<|a1 _<|aT λac=>aT λad=>aG [0,1,2,3,9,10,13,14] [10] ?_
  refine aR<|lF I7 A9 R R<|AG m λr4 ae af=>cL (oq<|ae) R<|sQ R (BB R iL)<|aZ<|ad _<|cI R af (λq=>?_) λq=>?_
  ·exact zI (l _<|xH j q) R id
  refine Zc<|ac _<|aT λag=>aU<|lF HF Ci R R<|AG q λe1 ah ai=>cL (UA<|ah) R<|mA R<|aZ<|aU<|mM R<|xU R<|aZ<|cI R ai (λw=>?_) λw=>?_
  ·refine aT λaj=>aF [11] ?_
   exact aR<|mM R<|mA R<|aZ<|aj _<|Zj<|yI (l _<|xH j w) R
  refine Zc<|ag _<|aT λak=>aT λal=>aG [0,1,2,3,9,10,13,14] [10] ?_
  refine aR<|mM R<|sQ R (BB R iL)<|mM R<|vQ R (Dr R E7 iL R R)<|AG w λr5 an ao=>vL (λhg=>jM<|Ad an hg) R<|xN R<|aZ<|al _<|cI R ao (λA=>?_) λA=>?_
  ·exact zI (l _<|xH j A) R id
  refine Zc<|ak _<|aT λaq=>?_
  refine Zz BZ (by kernel_rfl) ?_
  refine qP R (AL R iL)<|qP R (BU R iL iL)<|qP R (AL R iL)<|qO R (fB R E5 iL fR R)<|qO R (Ab (a:=rI F.Row) R AI (iR R) R R)<|qO R (AL R iL)<|qO R (AL R iL)<|AG A λx7 I ar=>qO R (CS R (iR R) iL<|Ad I)<|AG ar λx8 J au=>qO R (BK R B2.slice (iR R) (iR R) (λ_=>R)<|Ad J)<|qO R (BI R E5<|iR R)<|qO R (Bj (d:=.int .i64 x8.Row) R AI (iR R) R)<|qO R (Bu R (iR R)<|iR R)<|qO R (AL R<|iR R)<|qT R (fB R E5 iL fR R)<|qT R (Ab (a:=rI F.Row) R AI (iR R) R R)<|qT R (AL R iL)<|qT R (AL R iL)<|qT R (CS R (iR R) iL λh=>Ad I (tR.1 h).1)<|qT R (BK R B2.slice (iR R) (iR R) (λ_=>R) λh=>Ad J (tR.1 h).1)<|qT R (BI R E5<|iR R)<|qT R (Bj (d:=.int .i64 x8.Row) R AI (iR R) R)<|qT R (BE R (iR R)<|iR R)<|qT R (AL R<|iR R)<|qT R (fB R FW iL fR R)<|qT R (Ab (a:=rI F.Col) R AI (iR R) R R)<|qT R (AL R iL)<|qT R (AL R iL)<|AG au λx9 av aw=>qT R (CS R (iR R) iL<|Ad av)<|AG aw λax M ay=>qT R (BK R B2.slice (iR R) (iR R) (λ_=>R)<|Ad M)<|qT R (BI R FW<|iR R)<|qT R (Bj (d:=.int .i64 ax.Col) R AI (iR R) R)<|qT R (Ei R (iR R)<|iR R)<|qT R (BS R (iR R)<|iR R)<|qO R (CN R (iR R)<|iR R)<|qP R (BS R iL<|iR R)<|AQ.nil<|aq _<|cI R ay (λB=>?_) λB=>?_
  ·exact zI (l _<|xH j B) R id
  refine Zc<|c7 _<|aF [0,1,2,3,13,14] ?_
  exact aR<|AG B λb0 O az=>xA R O<|mM R<|Zh<|Zr az (AH [((T 0)+1)]) wk
 exact Zm<|U _ _ wk<|J1 _ (AH [(T 0)])<|xH j h3
theorem dy{j a c r}(h:M8 j a c=some r):AS prog 129 [.agg<|Ay j,rI a,rI c] (rB r):=by
 unfold M8 at h
 exact mF func129 ntmps129 R λZ=>aU<|sS R (BC (cs:=(Ay j)) 3 R iL R R)<|mA R<|aZ<|aT λF=>aR<|lF Ca AI R R<|mM R<|AG h λx1 l I=>sQ R (CS R iL iL λ_=>l)<|AG I λr2 m J=>cL (DY<|m) R<|mM R<|vF DG AI R R<|vM R<|AG J λx2 q M=>vQ R (CS R (iR R) iL<|Ad q)<|AG M λr3 w O=>vL (λhg=>DY<|Ad w hg) R<|xN R<|mM R<|vF Gg AI R R<|vM R<|vF Ca AI R R<|AG O λx3 A T=>vQ R (CS R (iR R) (iR R)<|Ad A)<|AG T λr4 B U=>vL (λhg=>DY<|Ad B hg) R<|xN R<|mM R<|vF F7 AI R R<|vM R<|vF DG AI R R<|AG U λx4 C V=>vQ R (CS R (iR R) (iR R)<|Ad C)<|AG V λr5 E X=>vL (λhg=>DY<|Ad E hg) R<|xN R<|mA R<|aZ<|F _<|Zj<|yB X R
theorem oy{j l r}(h:Ok j l=some r):AS prog 130 [.agg<|Ay j,.agg<|Ay l] (rB r):=by
 unfold Ok at h
 refine mF func130 ntmps130 R λM=>aU<|sS R (BC (cs:=(Ay j)) 2 R iL R R)<|sS R (BC (cs:=(Ay l)) 3 R iL R R)<|mA R<|aZ<|aT λB=>?_
 refine Zz BZ (by kernel_rfl) ?_
 refine qP R (fB R Ca iL fR R)<|qP R (Ab (a:=rI j.Row) R AI iL R R)<|qP R (fB R Ca iL fR R)<|qP R (Ab (a:=rI l.Row) R AI iL R R)<|qP R (SU R iL iL)<|qP R (fB R DG iL fR R)<|qP R (Ab (a:=rI j.Col) R AI iL R R)<|qP R (fB R DG iL fR R)<|qP R (Ab (a:=rI l.Col) R AI iL R R)<|qP R (SU R iL iL)<|qP R (D7 R iL)<|qP R (D7 R iL)<|AQ.nil<|B _<|aT λC=>aG [2,3,5,6] [2,3] ?_
 exact aR<|mM R<|lF Ca AI R R<|lF Gg AI R R<|AG h λO m E=>xA R m<|lF Ca AI R R<|lF Gg AI R R<|AG E λT q F=>xA R q<|sQ R (Tq R iL iL)<|xS R<|mM R<|vM R<|vF DG AI R R<|vF F7 AI R R<|AG F λU w I=>vQ R (KF R (iR R) (iR R)<|Ad w)<|vF DG AI R R<|vF F7 AI R R<|AG I λV A J=>vQ R (KF R (iR R) (iR R)<|Ad A)<|vQ R (Tq R (iR R)<|iR R)<|vQ R (Bu R (iR R)<|iR R)<|xN R<|mA R<|aZ<|C _<|Zj<|yB J R
theorem mB{j r}(h:O5 j=some r):AS prog 79 (T8 j) (rI r):=by
 unfold O5 at h
 refine mF func79 ntmps79 R λA=>aU<|sS R (BC (cs:=(CR j)) 1 R iL R R)<|mA R<|aZ<|aT λc2=>aU<|lF Gx AI R R<|AG h λr1 aa h1=>cL (DY<|aa) R<|sQ R (BB R iL)<|mM R<|vF HT AI R R<|AG h1 λr2 ab h2=>vL (λhg=>DY<|Ad ab hg) R<|vQ R (BB R<|iR R)<|xO R<|aZ<|cI R h2 (λh3=>?_) λh3=>?_
 ·exact zI h3 R id
 refine Zc<|c2 _<|aT λc5=>aT λc6=>aG [1] [1] ?_
 refine aR<|lF EF EH R R<|lF Gx AI R R<|lF HT AI R R<|AG h3 λe1 ac h4=>cL (kD<|ac) R<|mA R<|aZ<|c6 _<|aU<|mM R<|xU R<|aZ<|cI R h4 (λh5=>?_) λh5=>?_
 ·refine aT λc8=>aF [3] ?_
  exact aR<|mM R<|mA R<|aZ<|c8 _<|Zj<|yI h5 R
 refine Zc<|c5 _<|aS λK9 c9 ad=>aT λae=>aG [1] [1] ?_
 refine aR<|lF EN Eb R R<|xL DD R<|mM R<|aZ<|ae _<|Zg<|BV h5 λo1 U af w=>?_
 have J1:∀(u2:Unit) (i5:NN),o1=.nrm u2→K9 ⟨[],[],(i5 0),104⟩:=by
  intro u2 i5 e
  have h6:=af _ e
  exact c9 _<|zI h6 R id
 refine Zu (λ(B:Int) T=>⟨[(1,.ptr 1 A 0 0),(29,rL j.Merges),(30,rI B)],[(1,some<|.box A 37<|CR j)],(T 0),104⟩) (AH [(A+1)]) U wk ?_
 intro B T v1 ag q
 have h7:Mi j B=some v1:=ag;unfold Mi at h7
 refine aU<|xS R<|aZ<|aT λah=>cI R h7 (λh8=>?_) λh8=>?_
 ·refine Zc<|ah _<|aS λai aj V=>Zg<|aU<|mM R<|mA R<|aZ<|aU<|lF EN Eb R R<|mM R<|AG h8 λm ak h9=>xI DD R ak<|xB ((Ay m)) DP R<|sS R (BN (cs:=Fd) 5 R II R R)<|Zl R R (A6 (ds:=(Ay m)) R GG iL R iL R R R R)<|aZ<|aT λal=>aU<|xC DP R<|lF Gx AI R R<|lF HT AI R R<|AG h9 λr3 an ao=>cL (dy<|an) R<|sQ R (BB R iL)<|aZ<|cI R ao (λC=>?_) λC=>?_
  ·exact zI (w _<|xH q C) R id
  refine Zc<|al _<|aT λaq=>aT λar=>aG [1,4,5,29,30] [1,5] ?_
  refine aR<|lF Gg AI R R<|xQ R<|mM R<|vF F7 AI R R<|vQ R (BE R (iR R) iL)<|xN R<|aZ<|ar _<|cI R C (λE=>?_) λE=>?_
  ·exact zI (w _<|xH q E) R id
  refine Zc<|aq _<|aT λau=>aT λav=>?_
  refine Zz BZ (by kernel_rfl) ?_
  refine qP R (AL R iL)<|qP R (BU R iL iL)<|qP R (AL R iL)<|qO R (fB R Ca iL fR R)<|qO R (Ab (a:=rI m.Row) R AI (iR R) R R)<|qO R (fB R EN iL fR R)<|qO R (Ab (a:=qd j.Merges) R Eb (iR R) R R)<|qO R (AL R iL)<|AG E λx5 X aw=>qO R (CS R (iR R) iL<|Ad X)<|AG aw λx6 Z ax=>qO R (BK R DD.slice (iR R) (iR R) (λ_=>R)<|Ad Z)<|qO R (BI R Ca<|iR R)<|qO R (Bj (d:=.int .i64 x6.Row) R AI (iR R) R)<|qO R (Bu R (iR R)<|iR R)<|qO R (AL R<|iR R)<|qT R (fB R Ca iL fR R)<|qT R (Ab (a:=rI m.Row) R AI (iR R) R R)<|qT R (fB R EN iL fR R)<|qT R (Ab (a:=qd j.Merges) R Eb (iR R) R R)<|qT R (AL R iL)<|qT R (CS R (iR R) iL λh=>Ad X (tR.1 h).1)<|qT R (BK R DD.slice (iR R) (iR R) (λ_=>R) λh=>Ad Z (tR.1 h).1)<|qT R (BI R Ca<|iR R)<|qT R (Bj (d:=.int .i64 x6.Row) R AI (iR R) R)<|qT R (BE R (iR R)<|iR R)<|qT R (AL R<|iR R)<|qT R (fB R DG iL fR R)<|qT R (Ab (a:=rI m.Col) R AI (iR R) R R)<|qT R (fB R EN iL fR R)<|qT R (Ab (a:=qd j.Merges) R Eb (iR R) R R)<|qT R (AL R iL)<|AG ax λx7 ay az=>qT R (CS R (iR R) iL<|Ad ay)<|AG az λx8 b0 b1=>qT R (BK R DD.slice (iR R) (iR R) (λ_=>R)<|Ad b0)<|qT R (BI R DG<|iR R)<|qT R (Bj (d:=.int .i64 x8.Col) R AI (iR R) R)<|qT R (Ei R (iR R)<|iR R)<|qT R (BS R (iR R)<|iR R)<|qO R (CN R (iR R)<|iR R)<|qP R (BS R iL<|iR R)<|AQ.nil<|av _<|cI R b1 (λF=>?_) λF=>?_
  ·exact zI (w _<|xH q F) R id
  refine Zc<|au _<|aT λb2=>aG [1,4,5,29,30] [1,5] ?_
  refine aR<|mM R<|mM R<|aZ<|b2 _<|Zg<|BV F λo2 a0 b3 b4=>?_
  have J2:∀(u4:Unit) (I:NN),o2=.nrm u4→ai ⟨[(1,.ptr 1 A 0 0),(29,rL j.Merges),(30,rI B)],[(1,some<|.box A 37<|CR j)],(I 0),104⟩:=by
   intro u4 I e
   have b5:=b3 _ e
   exact aj _<|aR<|AG b5 λbg a1 b6=>xA R a1<|mM R<|Zh<|Zr b6 (AH [(I 0)]) wk
  refine Zu (λ(J:Int) i8=>⟨[(1,.ptr 1 A 0 0),(5,.ptr 5 (T 0) 0 0),(29,rL j.Merges),(30,rI B),(91,rI B),(92,rI J)],[(1,some<|.box A 37<|CR j),(5,some<|.box (T 0) 154<|Ay m)],(i8 0),104⟩) (AH [((T 0)+1)]) a0 wk ?_
  intro J i8 v2 b7 a2
  have a6:OJ j B m J=some v2:=b7;unfold OJ at a6
  refine aU<|xS R<|aZ<|aT λb8=>cI R a6 (λM=>?_) λM=>?_
  ·refine Zc<|b8 _<|aT λb9=>Zg<|aU<|mM R<|mA R<|aZ<|aT λba=>?_
   refine Zz BZ (by kernel_rfl) ?_
   refine qP R (Dr R DP iL R R)<|qP R (fB R EN iL fR R)<|qP R (Ab (a:=qd j.Merges) R Eb iL R R)<|qP R (AL R iL)<|AG M λl a7 bb=>qP R (BK R DD.slice iL iL (λ_=>R) λ_=>a7)<|qP R (ET (cs:=(Ay l)) R DP iL R R)<|AG bb λr4 bc bd=>AQ.stepC R R R (r:=rB r4) (caps:=[]) (bs:=[.agg<|Ay m,.agg<|Ay l]) R iL R ⟨⟨_,iL,.g (cs:=[.int .i64 m.Row,.int .i64 m.Col,.int .i64 m.H,.int .i64 m.W]) R R⟩,⟨_,iL,.g (cs:=[.int .i64 l.Row,.int .i64 l.Col,.int .i64 l.H,.int .i64 l.W]) R R⟩,Za⟩ (λ_=>oy<|bc) R<|AQ.nil<|ba _<|cI R bd (λO=>?_) λO=>?_
   ·refine aT λbe=>aF [] ?_
    exact aR<|mA R<|aZ<|be _<|Zj<|yI (w _<|q _ (Zf<|b4 _<|xH a2 O).symm) R
   refine Zc<|b9 _<|aG [1,5,29,30,91,92] [1,5] ?_
   exact aR<|AG O λbh a8 bf=>xA R a8<|mM R<|Zh<|Zr bf (AH [(i8 0)]) wk
  exact Zm<|V _ _ wk<|J2 _ (AH [(i8 0)])<|xH a2 M
 exact Zm<|ad _ _ wk<|J1 _ (AH [(T 0)])<|xH q h8
theorem gV{k j r}(h:Og k j=some r):AS prog 80 [rI k,qc j] (rI r):=by
 unfold Og at h
 refine mF func80 ntmps80 R λZ=>aU<|mA R<|aZ<|aS λK2 c2 A=>aU<|mM R<|xL B2 R<|mM R<|aZ<|Zg<|BV h λo1 l B C=>?_
 have J1:∀(T:Unit) (U:NN),o1=.nrm T→K2 ⟨[],[],(U 0),43⟩:=by
  intro T U e
  have h1:=B _ e
  exact c2 _<|zI h1 R id
 refine Zu (λ(E:Int) w=>⟨[(0,rI k),(1,qc j),(7,rL j),(8,rI E)],[],(w 0),43⟩) (AH [Z]) l wk ?_
 intro E w v1 F m
 have V:N7 k j E=some v1:=F;unfold N7 at V
 refine aU<|xS R<|aZ<|aT λc6=>cI R V (λI=>?_) λI=>?_
 ·refine Zc<|c6 _<|aT λc7=>Zg<|aU<|mM R<|mA R<|aZ<|aT λc9=>aR<|mM R<|xQ R<|mM R<|vM R<|vM R<|AG I λX q h4=>vQ R (BK R B2.slice (iR R) (iR R) (λ_=>R)<|Ad q)<|vQ R (BI R I7<|iR R)<|vQ R (Bj (d:=.str X.Text) R A9 (iR R) R)<|vQ R (Dt R (iR R) iL)<|vQ R (AL R<|iR R)<|wQ R (AL R iL)<|wQ R (AL R iL)<|wQ R (BK R B2.slice (iR R) (iR R) (λ_=>R) λh=>Ad q (tR.1 h).1)<|wQ R (BI R HF<|iR R)<|wQ R (Bj (d:=.sl<|X.Attrs.map AE.row) R Ci (iR R) R)<|wQ R (Dl R BD.slice<|iR R)<|wQ R (BU R (iR R) iL)<|vQ R (CN R (iR R)<|iR R)<|xN R<|mM R<|vM R<|vQ R (BE R (iR R) iL)<|vQ R (AL R<|iR R)<|wQ R (AL R iL)<|wQ R (AL R iL)<|AG h4 λx5 J h5=>wQ R (BK R B2.slice (iR R) (iR R) (λ_=>R)<|Ad J)<|wQ R (BI R EO<|iR R)<|wQ R (Bj (d:=.int .i64 x5.Ref) R AI (iR R) R)<|wQ R (C0 R (iR R) iL)<|vQ R (BS R (iR R)<|iR R)<|xO R<|aZ<|c9 _<|cI R h5 (λM=>?_) λM=>?_
  ·exact zI (C _<|xH m M) R id
  refine Zc<|c7 _<|aF [0,1,7,8] ?_
  exact aR<|AG M λx6 O h7=>xA R O<|mM R<|Zh<|Zr h7 (AH [(w 0)]) wk
 exact Zm<|A _ _ wk<|J1 _ (AH [(w 0)])<|xH m I
theorem jS{l r}(h:NS l=some r):AS prog 131 [rS l] (rB r):=by
 unfold NS at h
 refine mF func131 ntmps131 R λZ=>aU<|mA R<|aZ<|aS λK2 c2 B=>aU<|mM R<|sQ R (DQ R underlying9 iL)<|mM R<|aZ<|Zg<|BV h λo1 m C E=>?_
 have J1:∀(U:Unit) (V:NN),o1=.nrm U→K2 ⟨[(0,rS l)],[],(V 0),36⟩:=by
  intro U V e
  have h1:=C _ e
  exact c2 _<|aU<|mM R<|sQ R (DQ R underlying9 iL)<|sQ R (Cq R iL iL)<|mM R<|vM R<|vQ R (DQ R underlying9<|iR R)<|vQ R (Ei R (iR R) iL)<|xN R<|mM R<|vM R<|vM R<|vQ R (DQ R underlying9<|iR R)<|AG h1 λx4 F h2=>vQ R (CS R (iR R) iL<|Ad F)<|AG h2 λa0 q h3=>vQ R (CT R underlying9 (iR R) (iR R)<|Ad q)<|vQ R (C0 R (iR R) iL)<|xN R<|mA R<|aZ<|Zj<|yB h3 R
 refine Zu (λ(I:Int) A=>⟨[(0,rS l),(5,rL l),(6,rI I)],[],(A 0),36⟩) (AH [Z]) m wk ?_
 intro I A v1 J w
 have X:KY l I=some v1:=J;unfold KY at X
 refine aU<|xS R<|aZ<|aT λc6=>cI R X (λM=>?_) λM=>?_
 ·refine Zc<|c6 _<|aT λc7=>Zg<|aU<|mM R<|mA R<|aZ<|aU<|mM R<|mM R<|AG M λa1 j h6=>sQ R (CT R underlying9 iL iL λ_=>j)<|xS R<|mM R<|vM R<|vM R<|vQ R (CT R underlying9 (iR R) (iR R) λ_=>j)<|vQ R (BU R (iR R) iL)<|xO R<|aZ<|cI R h6 (λO=>?_) λO=>?_
  ·exact zB (E _<|xH w O) R id
  refine Zc<|c7 _<|aF [0,5,6] ?_
  exact aR<|AG O λx5 T h8=>xA R T<|mM R<|Zh<|Zr h8 (AH [(A 0)]) wk
 exact Zm<|B _ _ wk<|J1 _ (AH [(A 0)])<|xH w M
theorem kB{j l r}(h:Lc j l=some r):AS prog 132 [.agg<|Bc j,.agg<|Bc l] (rB r):=by
 unfold Lc at h
 exact mF func132 ntmps132 R λm=>aU<|sS R (BC (cs:=(Bc j)) 2 R iL R R)<|sS R (BC (cs:=(Bc l)) 3 R iL R R)<|mA R<|aZ<|aU<|lF H5 AI R R<|lF H5 AI R R<|xS R<|mM R<|vF H5 AI R R<|vF H5 AI R R<|vQ R (BE R (iR R)<|iR R)<|vQ R (AL R<|iR R)<|wQ R (fB R Je iL fR R)<|wQ R (Ab (a:=rI j.Site) R AI (iR R) R R)<|wQ R (fB R Je iL fR R)<|wQ R (Ab (a:=rI l.Site) R AI (iR R) R R)<|wQ R (Bu R (iR R)<|iR R)<|vQ R (BS R (iR R)<|iR R)<|xO R<|mA R<|aZ<|Zj<|yB h R
theorem ky{B r}(h:Nt B=some r):AS prog 81 [qf B] (rI r):=by
 unfold Nt at h
 refine mF func81 ntmps81 R λn0=>aU<|mA R<|aZ<|aS λK2 c2 a1=>aU<|mM R<|xL E0 R<|mM R<|aZ<|Zg<|BV h λo1 X a2 l=>?_
 have J1:∀(u2:Unit) (i5:NN),o1=.nrm u2→K2 ⟨[],[],(i5 0),91⟩:=by
  intro u2 i5 e
  have h1:=a2 _ e
  exact c2 _<|zI h1 R id
 refine Zu (λ(Z:Int) C=>⟨[(0,qf B),(6,rL B),(7,rI Z)],[],(C 0),91⟩) (AH [n0]) X wk ?_
 intro Z C v1 a6 j
 have h2:NL B Z=some v1:=a6;unfold NL at h2
 refine aU<|xS R<|aZ<|aT λc6=>cI R h2 (λh3=>?_) λh3=>?_
 ·refine Zc<|c6 _<|aT λc7=>Zg<|aU<|mM R<|mA R<|aZ<|aU<|mM R<|mM R<|AG h3 λq a7 h4=>xI E0 R a7<|xB ((Bc q)) HV R<|sS R (BN (cs:=Q6) 4 R Qv R R)<|Zl R R (A6 (ds:=(Bc q)) R Pg iL R iL R R R R)<|aZ<|aT λa8=>aU<|lF FZ AI R R<|xU R<|mM R<|vF FZ AI R R<|vQ R (C0 R (iR R) iL)<|xN R<|aZ<|cI R h4 (λh5=>?_) λh5=>?_
  ·exact zI (l _<|xH j h5) R id
  refine Zc<|a8 _<|aT λaa=>aT λab=>aG [0,3,4,6,7] [4] ?_
  refine aR<|lF H5 AI R R<|AG h5 λr1 ac h6=>cL (DY<|ac) R<|sQ R (BB R iL)<|mM R<|vF Je AI R R<|AG h6 λr2 ad h7=>vL (λhg=>DY<|Ad ad hg) R<|vQ R (BB R<|iR R)<|xO R<|mM R<|vF FL AI R R<|AG h7 λr3 ae h8=>vL (λhg=>DY<|Ad ae hg) R<|vQ R (BB R<|iR R)<|xO R<|aZ<|ab _<|cI R h8 (λh9=>?_) λh9=>?_
  ·exact zI (l _<|xH j h9) R id
  refine Zc<|aa _<|aS λaf ag A=>aU<|lF FZ AI R R<|xQ R<|aZ<|BV h9 λp1 a0 ah m=>?_
  have J2:∀(u3:Unit) (i6:NN),p1=.nrm u3→af ⟨[(0,qf B),(3,rI Z),(4,.ptr 4 (C 0) 0 0),(6,rL B),(7,rI Z)],[(4,some<|.box (C 0) 119<|Bc q)],(i6 0),91⟩:=by
   intro u3 i6 e
   have ai:=ah _ e
   refine ag _<|aT λaj=>?_
   refine Zz BZ (by kernel_rfl) ?_
   refine qP R (AL R iL)<|qP R (BU R iL iL)<|qP R (AL R iL)<|qO R (AL R iL)<|qO R (AL R iL)<|AG ai λx5 ak al=>qO R (CS R (iR R) iL<|Ad ak)<|AG al λw an ao=>qO R (BK R E0.slice (iR R) (iR R) (λ_=>R)<|Ad an)<|qO R (ET (cs:=(Bc w)) R HV (iR R) R R)<|qO R (Dr R HV iL R R)<|AG ao λr4 aq ar=>Kw (.one R R R) R R (r:=rB r4) (caps:=[]) (bs:=[.agg<|Bc w,.agg<|Bc q]) R iL R ⟨⟨_,(iR R),.g (cs:=[.int .i64 w.Clock,.int .i64 w.Site,.int .i64 w.Kind,.int .i64 w.Item,.int .i64 w.Parent,.str w.Place,.str w.Name,.str w.Value]) R R⟩,⟨_,(iR R),.g (cs:=[.int .i64 q.Clock,.int .i64 q.Site,.int .i64 q.Kind,.int .i64 q.Item,.int .i64 q.Parent,.str q.Place,.str q.Name,.str q.Value]) R R⟩,Za⟩ (λhg=>kB<|Ad aq hg) R<|qO R (BB R<|iR R)<|qP R (BS R iL<|iR R)<|AQ.nil<|aj _<|cI R ar (λE=>?_) λE=>?_
   ·exact zI (l _<|xH j E) R id
   exact Zc<|c7 _<|aR<|AG E λx7 au av=>xA R au<|mM R<|Zh<|Zr av (AH [(i6 0)]) wk
  refine aC R (λF=>?_) λF=>?_
  ·have I:=EQ F a0
   refine aT λaw=>aT λax=>aG [0,3,4,6,7] [4] ?_
   refine aR<|lF Ln A9 R R<|sQ R (Dt R iL iL)<|mM R<|vF Ih A9 R R<|vQ R (Dt R (iR R) iL)<|xO R<|aZ<|ax _<|cI R I (λJ=>?_) λJ=>?_
   ·refine aT λay=>aF [] ?_
    exact aR<|mA R<|aZ<|ay _<|Zj<|yI (l _<|j _ (Zf<|m _ (Zf J).symm).symm) R
   refine Zc<|aw _<|aT λaz=>aU<|lF GC AI R R<|AG J λr5 b0 b1=>cL (DY<|b0) R<|sQ R (BB R iL)<|aZ<|cI R b1 (λM=>?_) λM=>?_
   ·refine aT λb2=>aF [] ?_
    exact aR<|mA R<|aZ<|b2 _<|Zj<|yI (l _<|j _ (Zf<|m _ (Zf M).symm).symm) R
   refine Zc<|az _<|aT λb3=>aG [0,3,4,6,7] [4] ?_
   refine aR<|lF MN A9 R R<|AG M λr6 b4 b5=>cL (jS<|b4) R<|sQ R (BB R iL)<|aZ<|b3 _<|cI R b5 (λO=>?_) λO=>?_
   ·refine aT λb6=>aF [] ?_
    exact aR<|mA R<|aZ<|b6 _<|Zj<|yI (l _<|j _ (Zf<|m _ (Zf O).symm).symm) R
   exact Zc<|A _ _ wk<|J2 _ (AH [((C 0)+1)]) (Zf O).symm
  ·have I:=EM F a0
   refine aT λb7=>aT λb8=>aG [0,3,4,6,7] [4] ?_
   refine aR<|lF GC AI R R<|xU R<|mM R<|vF MN A9 R R<|vQ R (Dt R (iR R) iL)<|xO R<|aZ<|b8 _<|cI R I (λT=>?_) λT=>?_
   ·refine aT λb9=>aF [] ?_
    exact aR<|mA R<|aZ<|b9 _<|Zj<|yI (l _<|j _ (Zf<|m _ (Zf T).symm).symm) R
   refine Zc<|b7 _<|aT λba=>aU<|lF Ln A9 R R<|AG T λr7 bb bc=>cL (WX<|bb) R<|sQ R (BB R iL)<|aZ<|cI R bc (λU=>?_) λU=>?_
   ·refine aT λbd=>aF [] ?_
    exact aR<|mA R<|aZ<|bd _<|Zj<|yI (l _<|j _ (Zf<|m _ (Zf U).symm).symm) R
   refine Zc<|ba _<|aT λbe=>aG [0,3,4,6,7] [4] ?_
   refine aR<|lF Ih A9 R R<|sQ R (Dt R iL iL)<|mM R<|vF Ih A9 R R<|AG U λr8 bf bg=>vL (λhg=>VX<|Ad bf hg) R<|vQ R (BB R<|iR R)<|xN R<|aZ<|be _<|cI R bg (λV=>?_) λV=>?_
   ·refine aT λbh=>aF [] ?_
    exact aR<|mA R<|aZ<|bh _<|Zj<|yI (l _<|j _ (Zf<|m _ (Zf V).symm).symm) R
   exact Zc<|A _ _ wk<|J2 _ (AH [((C 0)+1)]) (Zf V).symm
 exact Zm<|a1 _ _ wk<|J1 _ (AH [(C 0)])<|xH j h3
theorem gJ{n1 r}(h:OL n1=some r):AS prog 37 (JP n1) (rI r):=by
 unfold OL at h
 refine mF func37 ntmps37 R λn0=>aU<|sS R (BC (cs:=(A5 n1)) 1 R iL R R)<|mA R<|aZ<|aT λc2=>aU<|lF En AI R R<|AG h λr1 E h1=>cL (DY<|E) R<|sQ R (BB R iL)<|aZ<|cI R h1 (λF=>?_) λF=>?_
 ·exact zI F R id
 refine Zc<|c2 _<|aT λc5=>aU<|lF CF AI R R<|AG F λr2 I h3=>cL (DY<|I) R<|sQ R (BB R iL)<|mM R<|vF En AI R R<|vQ R (BE R (iR R) iL)<|vQ R (AL R<|iR R)<|wQ R (fB R CF iL fR R)<|wQ R (Ab (a:=rI n1.Kind) R AI (iR R) R R)<|wQ R (C0 R (iR R) iL)<|vQ R (BS R (iR R)<|iR R)<|xO R<|mM R<|vF En AI R R<|vQ R (C0 R (iR R) iL)<|vQ R (AL R<|iR R)<|wQ R (fB R CF iL fR R)<|wQ R (Ab (a:=rI n1.Kind) R AI (iR R) R R)<|wQ R (BE R (iR R) iL)<|vQ R (BS R (iR R)<|iR R)<|xO R<|aZ<|cI R h3 (λJ=>?_) λJ=>?_
 ·exact zI J R id
 refine Zc<|c5 _<|aT λc8=>aT λc9=>aG [1] [1] ?_
 refine aR<|lF Il Ci R R<|AG J λe1 M h5=>cL (UA<|M) R<|mA R<|aZ<|c9 _<|aU<|mM R<|xU R<|aZ<|cI R h5 (λO=>?_) λO=>?_
 ·exact aU<|mM R<|mA R<|aZ<|Zj<|yI O R
 refine Zc<|c8 _<|aU<|lF CF AI R R<|AG O λr3 w h7=>cL (TU<|w) R<|mM R<|vF CF AI R R<|AG h7 λr4 T h8=>vL (λhg=>cQ<|Ad T hg) R<|xO R<|mA R<|aZ<|aT λU=>aT λV=>aG [1,4] [1] ?_
 refine aR<|lF FI FP R R<|xL CZ R<|sQ R (BU R iL iL)<|mM R<|vM R<|vQ R (BB R<|iR R)<|xN R<|mM R<|vQ R (fB R EU iL fR R)<|vQ R (Ja (ds:=(CR n1.Grid)) R Ix (iR R) R R R)<|AG h8 λr5 X h9=>vL (λhg=>kb<|Ad X hg) R<|vQ R (BB R<|iR R)<|vQ R (AL R<|iR R)<|wQ R (fB R CF iL fR R)<|wQ R (Ab (a:=rI n1.Kind) R AI (iR R) R R)<|AG h9 λr6 Z a0=>AK.stepW (.two R R R) R R (Dz (r:=rB r6) (caps:=[]) (bs:=[rI n1.Kind]) R iL R ⟨⟨_,(iR R),.d R⟩,Za⟩ (λhg=>ZT<|Ad Z hg) R)<|wQ R (BB R<|iR R)<|vQ R (BS R (iR R)<|iR R)<|xO R<|mM R<|vF HG Hd R R<|vQ R (Dl R E0.slice<|iR R)<|vQ R (BU R (iR R) iL)<|vQ R (AL R<|iR R)<|wQ R (fB R CF iL fR R)<|wQ R (Ab (a:=rI n1.Kind) R AI (iR R) R R)<|AG a0 λr7 a1 a2=>AK.stepW (.two R R R) R R (Dz (r:=rB r7) (caps:=[]) (bs:=[rI n1.Kind]) R iL R ⟨⟨_,(iR R),.d R⟩,Za⟩ (λhg=>l8<|Ad a1 hg) R)<|wQ R (BB R<|iR R)<|vQ R (BS R (iR R)<|iR R)<|xO R<|aZ<|V _<|cI R a2 (λj=>?_) λj=>?_
 ·exact zI j R id
 refine Zc<|U _<|aT λa6=>aT λa7=>aG [1,4] [1] ?_
 refine aR<|mM R<|aZ<|a7 _<|cI R j (λl=>?_) λl=>?_
 ·refine aT λa8=>?_
  refine Zz BZ (by kernel_rfl) ?_
  exact qP R (fB R FI iL fR R)<|qP R (Ab (a:=qe n1.Flow) R FP iL R R)<|qP R (fB R CF iL fR R)<|qP R (Ab (a:=rI n1.Kind) R AI iL R R)<|AQ.stepC R R R (r:=rB r3) (caps:=[]) (bs:=[rI n1.Kind]) R iL R ⟨⟨_,iL,.d R⟩,Za⟩ (λ_=>TU<|w) R<|AG l λr9 aa ab=>AQ.stepC R R R (r:=rI r9) (caps:=[]) (bs:=[qe n1.Flow,rB r3]) R iL R ⟨⟨_,iL,.d R⟩,⟨_,iL,.d R⟩,Za⟩ (λ_=>hX<|aa) R<|qP R (D7 R iL)<|AQ.nil<|a8 _<|Zj<|yI ab R
 refine Zc<|a6 _<|aT λac=>aU<|lF CF AI R R<|AG l λal A ad=>cL (ZT<|A) R<|aZ<|cI R ad (λm=>?_) λm=>?_
 ·refine aT λae=>aU<|sQ R (fB R EU iL fR R)<|sQ R (Ja (ds:=(CR n1.Grid)) R Ix iL R R R)<|AG m λe2 af ag=>cL (mB<|af) R<|mA R<|aZ<|aU<|mM R<|xU R<|aZ<|cI R ag (λq=>?_) λq=>?_
  ·refine aT λah=>aF [5] ?_
   exact aR<|mM R<|mA R<|aZ<|ah _<|Zj<|yI q R
  refine Zc<|ae _<|aT λai=>aG [1] [1] ?_
  exact aR<|lF CF AI R R<|sQ R (fB R EU iL fR R)<|lF EF EH R R<|AG q λan B aj=>cL (gV<|B) R<|mA R<|aZ<|ai _<|Zj<|yI aj R
 exact Zc<|ac _<|aU<|lF HG Hd R R<|AG m λao C ak=>cL (ky<|C) R<|mA R<|aZ<|Zj<|yI ak R
theorem eR{n1 r}(h:Ma n1=some r):AS prog 39 (JP n1) (.r<|.sl<|r.map<|As .i64):=by
 unfold Ma at h
 refine mF func39 ntmps39 R λj=>aU<|sS R (BC (cs:=(A5 n1)) 1 R iL R R)<|mA R<|aZ<|aU<|mA R<|aZ<|aS λK3 c3 a7=>aU<|lF FI FP R R<|xL CZ R<|mM R<|aZ<|Zg<|Bd h λo1 a0 a8=>?_
 have J1:∀(w:List Int) (i5:NN),o1=w→K3 ⟨[(1,.ptr 1 j 0 0),(3,.own 5003<|i5 0)],[(1,some<|.box j 40<|A5 n1),(5003,some<|.arr (i5 0) 3 1<|w.map<|As .i64)],(i5 1),56⟩:=by
  intro w i5 e
  have h1:=a8 _ e
  refine c3 _<|aS λK5 c5 aa=>aU<|sQ R (fB R EU iL fR R)<|lF EF EH R R<|xL B2 R<|mM R<|aZ<|Zg<|Bd h1 λo2 a1 ab=>?_
  have J2:∀(A:List Int) (I:NN),o2=A→K5 ⟨[(3,.own 5003<|I 0)],[(5003,some<|.arr (I 0) 3 1<|A.map<|As .i64)],(I 1),56⟩:=by
   intro A I e
   have h2:=ab _ e
   exact c5 _<|aU<|mM R<|mA R<|aZ<|Zj<|Cb (P:=prog) (λ(r:(List Int))=>.r<|.sl<|r.map<|As .i64) h2 iL<|.t<|.one<|.own R
  refine Cw (λ(x5:Int) (B:List Int) i8=>⟨[(1,.ptr 1 j 0 0),(3,.own 5003<|i8 0),(32,rL n1.Grid.Cells),(33,rI x5)],[(1,some<|.box j 40<|A5 n1),(5003,some<|.arr (i8 0) 3 1<|B.map<|As .i64)],(i8 1),56⟩) (AH [(i5 0),(i5 1)]) a1 wk ?_
  intro x5 B i8 v1 ac ad
  have h3:PV n1 x5 B=some v1:=ac;unfold PV at h3
  refine aU<|xS R<|aZ<|aT λc9=>cI R h3 (λh4=>?_) λh4=>?_
  ·refine Zc<|c9 _<|aS λae af O=>Zg<|Bd h4 λp1 ag ah=>?_
   have J3:∀(C:List Int) (m:NN),p1=C→ae ⟨[(1,.ptr 1 j 0 0),(3,.own 5003<|m 0),(32,rL n1.Grid.Cells),(33,rI x5)],[(1,some<|.box j 40<|A5 n1),(5003,some<|.arr (m 0) 3 1<|C.map<|As .i64)],(m 1),56⟩:=by
    intro C m e
    have h5:=ah _ e
    exact af _<|aR<|AG h5 λx7 ai h6=>xA R ai<|mM R<|Zh<|CU.mk h6 (AH [(m 0),(m 1)]) wk
   refine aU<|mM R<|mA R<|aZ<|aU<|sQ R (fB R EU iL fR R)<|lF EF EH R R<|mM R<|AG ag λx8 a2 h7=>xI B2 R a2<|sQ R (BI R EO iL)<|xV (.int .i64 x8.Ref) AI R<|xU R<|aZ<|cI R h7 (λh8=>?_) λh8=>?_
   ·refine aG [1,3,5,32,33] [1,5003] ?_
    exact aR<|mM R<|sQ R (fB R EU iL fR R)<|lF EF EH R R<|mM R<|xI B2 R a2<|sQ R (BI R EO iL)<|xV (.int .i64 x8.Ref) AI R<|sS R (CG 52 R B3 (f:=(As .i64)) (l:=([x8.Ref]:List Int)) ⟨R,⟨_,iL,R⟩,Za⟩ R (λ_=>R) R)<|AG h8 λaj J h9=>sS R (Dp R B3 iL R (.inr<|.inl ⟨_,_,iL,R⟩) J)<|mA R<|Zh<|O _ _ wk<|J3 _ (AH [((i8 1)+1),((i8 1)+2)]) (Zf h9).symm
   exact Zc<|O _ _ wk<|J3 _ (AH [(i8 0),(i8 1)]) (Zf h8).symm
  exact Zm<|aa _ _ wk<|J2 _ (AH [(i8 0),(i8 1)])<|xH ad h4
 refine Cw (λ(x2:Int) (E:List Int) F=>⟨[(1,.ptr 1 j 0 0),(3,.own 5003<|F 0),(8,rL n1.Flow),(9,rI x2)],[(1,some<|.box j 40<|A5 n1),(5003,some<|.arr (F 0) 3 1<|E.map<|As .i64)],(F 1),56⟩) (AH [(j+1),(j+2)]) a0 (Zw (Zw (IT 3 5003 3 1 (by decide) R)<|by exact Ah.cv (e':=[(0,.agg<|A5 n1),(1,.ptr 1 j 0 0),(2,cZ),(3,.own 5003<|j+1),(6,.ptr 1 j 0 3),(7,qe n1.Flow),(8,rL n1.Flow),(9,rI 0)]) (h':=[(1,some<|.box j 40<|A5 n1),(5003,some<|.arr (j+1) 3 1<|([]:List Int).map<|As .i64)]) ⟨jL,jL,jL,jL,jL,jL,jL,jL,Za⟩ ⟨.inl R,.inl R,Za⟩ nL) wk) ?_
 intro x2 E F v2 ak al
 have a6:Qy n1 x2 E=some v2:=ak;unfold Qy at a6
 refine aU<|xS R<|aZ<|aT λan=>cI R a6 (λV=>?_) λV=>?_
 ·refine Zc<|an _<|aS λao aq T=>Zg<|Bd V λp2 ar au=>?_
  have J4:∀(l:List Int) (q:NN),p2=l→ao ⟨[(1,.ptr 1 j 0 0),(3,.own 5003<|q 0),(8,rL n1.Flow),(9,rI x2)],[(1,some<|.box j 40<|A5 n1),(5003,some<|.arr (q 0) 3 1<|l.map<|As .i64)],(q 1),56⟩:=by
   intro l q e
   have av:=au _ e
   exact aq _<|aR<|AG av λx9 aw ax=>xA R aw<|mM R<|Zh<|CU.mk ax (AH [(q 0),(q 1)]) wk
  refine aU<|mM R<|mA R<|aZ<|aU<|lF FI FP R R<|mM R<|AG ar λX U ay=>xI CZ R U<|sQ R (BI R Du iL)<|xV (.int .i64 X.Ref) AI R<|xU R<|aZ<|cI R ay (λZ=>?_) λZ=>?_
  ·refine aG [1,3,4,8,9] [1,5003] ?_
   exact aR<|mM R<|lF FI FP R R<|mM R<|xI CZ R U<|sQ R (BI R Du iL)<|xV (.int .i64 X.Ref) AI R<|sS R (CG 26 R B3 (f:=(As .i64)) (l:=([X.Ref]:List Int)) ⟨R,⟨_,iL,R⟩,Za⟩ R (λ_=>R) R)<|AG Z λaz M b0=>sS R (Dp R B3 iL R (.inr<|.inl ⟨_,_,iL,R⟩) M)<|mA R<|Zh<|T _ _ wk<|J4 _ (AH [((F 1)+1),((F 1)+2)]) (Zf b0).symm
  exact Zc<|T _ _ wk<|J4 _ (AH [(F 0),(F 1)]) (Zf Z).symm
 exact Zm<|a7 _ _ wk<|J1 _ (AH [(F 0),(F 1)])<|xH al V
theorem Lj{d1 i r}(h:Gf d1 i=some r):AS prog 11 [.agg [qb d1.Nodes],rI i] (rI r):=by
 unfold Gf at h
 refine mF func11 ntmps11 R λq=>aU<|sS R (BC (cs:=[qb d1.Nodes]) 2 R iL R R)<|mA R<|aZ<|aS λX Z w=>aU<|lF CD CJ R R<|xL Bs R<|mM R<|aZ<|Zg<|BV h λo1 j A B=>?_
 have J1:∀(T:Unit) (U:NN),o1=.nrm T→X ⟨[],[],(U 0),22⟩:=by
  intro T U e
  have h1:=A _ e
  exact Z _<|zI h1 R id
 refine Zu (λ(C:Int) m=>⟨[(1,rI i),(2,.ptr 2 q 0 0),(8,rL d1.Nodes),(9,rI C)],[(2,some<|.box q 24 [qb d1.Nodes])],(m 0),22⟩) (AH [(q+1)]) j wk ?_
 intro C m v1 E l
 have V:Nw d1 i C=some v1:=E;unfold Nw at V
 refine aU<|xS R<|aZ<|aT λc6=>cI R V (λF=>?_) λF=>?_
 ·refine Zc<|c6 _<|aT λc7=>Zg<|aU<|mM R<|mA R<|aZ<|aU<|lF CD CJ R R<|mM R<|AG F λx4 I h4=>xI Bs R I<|sQ R (BI R En iL)<|xV (.int .i64 x4.ID) AI R<|mM R<|xQ R<|aZ<|cI R h4 (λJ=>?_) λJ=>?_
  ·refine aT λM=>aF [5] ?_
   exact aR<|mM R<|mA R<|aZ<|M _<|Zj<|yI (B _<|xH l J) R
  refine Zc<|c7 _<|aG [1,2,8,9] [2] ?_
  exact aR<|AG J λx5 O h6=>xA R O<|mM R<|Zh<|Zr h6 (AH [(m 0)]) wk
 exact Zm<|w _ _ wk<|J1 _ (AH [(m 0)])<|xH l F
theorem fI{p k r}(h:NT p k=some r):AS prog 82 [rI p,rI k] (rB r):=by
 unfold NT at h
 refine mF func82 ntmps82 R λI=>aU<|mA R<|aZ<|aT λc2=>aU<|mM R<|aZ<|Zg<|aS λK4 c4 j=>aU<|xQ R<|mA R<|aZ<|Bd h λp1 J U=>?_
 have M:∀(V:Bool) (T:NN),p1=V→K4 ⟨[(0,rI p),(5,rI k),(6,rB V)],[],(T 0),51⟩:=by
  intro V T e
  have h1:=U _ e
  refine c4 _<|cI R h1 (λX=>?_) λX=>?_
  ·exact aU<|mM R<|xQ R<|mA R<|aZ<|Zj<|yB X R
  refine aU<|xQ R<|mA R<|aZ<|cI R X (λZ=>?_) λZ=>?_
  ·exact aU<|mM R<|xQ R<|mM R<|vM R<|vQ R (BE R (iR R) iL)<|xO R<|mM R<|vM R<|vQ R (BE R (iR R) iL)<|xO R<|mA R<|aZ<|Zj<|yB Z R
  refine aU<|xQ R<|mA R<|aZ<|cI R Z (λh4=>?_) λh4=>?_
  ·exact aU<|mM R<|xQ R<|mA R<|aZ<|Zj<|yB h4 R
  refine aU<|xQ R<|mA R<|aZ<|cI R h4 (λh5=>?_) λh5=>?_
  ·exact aU<|mM R<|xQ R<|mM R<|vM R<|vQ R (BE R (iR R) iL)<|xO R<|mA R<|aZ<|Zj<|yB h5 R
  refine aU<|xQ R<|mA R<|aZ<|cI R h5 (λh6=>?_) λh6=>?_
  ·refine aT λa0=>aF [0] ?_
   exact aR<|mM R<|AG h6 λr1 a1 h7=>cL (TU<|a1) R<|mA R<|aZ<|a0 _<|Zj<|yB h7 R
  refine aT λa2=>aF [0,5] ?_
  refine aR<|xQ R<|mA R<|aZ<|a2 _<|cI R h6 (λh8=>?_) λh8=>?_
  ·exact aU<|mM R<|xQ R<|mA R<|aZ<|Zj<|yB h8 R
  refine aS λa6 a7 l=>aU<|xQ R<|mA R<|aZ<|Bd h8 λp2 O a8=>?_
  have J2:∀(x2:Bool) (i2:NN),p2=x2→a6 ⟨[(0,rI p),(46,rB x2)],[],(i2 0),51⟩:=by
   intro x2 i2 e
   have h9:=a8 _ e
   refine a7 _<|cI R h9 (λm=>?_) λm=>?_
   ·exact aU<|mM R<|xQ R<|mA R<|aZ<|Zj<|yB m R
   exact Zc<|c2 _<|zB m R id
  refine aC R (λq=>?_) λq=>?_
  ·have w:=EQ q O
   exact Zc<|l _ _ wk<|J2 _ (AH [(T 0)]) (Zf w).symm
  ·have w:=EM q O
   exact aR<|xQ R<|mA R<|Zh<|l _ _ wk<|J2 _ (AH [(T 0)]) (Zf w).symm
 refine aC R (λA=>?_) λA=>?_
 ·have B:=EQ A J
  exact Zc<|j _ _ wk<|M _ (AH [I]) (Zf B).symm
 ·have B:=EM A J
  refine aU<|xQ R<|mA R<|aZ<|cI R B (λC=>?_) λC=>?_
  ·exact Zc<|j _ _ wk<|M _ (AH [I]) (Zf C).symm
  refine aU<|xQ R<|mA R<|aZ<|cI R C (λE=>?_) λE=>?_
  ·exact Zc<|j _ _ wk<|M _ (AH [I]) (Zf E).symm
  refine aU<|xQ R<|mA R<|aZ<|cI R E (λF=>?_) λF=>?_
  ·exact Zc<|j _ _ wk<|M _ (AH [I]) (Zf F).symm
  exact aR<|xQ R<|mA R<|Zh<|j _ _ wk<|M _ (AH [I]) (Zf F).symm
theorem oU{d1 k a r}(h:Nv d1 k a=some r):AS prog 38 [.agg [qb d1.Nodes],rI k,.r<|.sl<|a.map<|As .i64] (rI r):=by
 unfold Nv at h
 refine mF func38 ntmps38 R λw=>aU<|sS R (BC (cs:=[qb d1.Nodes]) 3 R iL R R)<|mA R<|aZ<|aS λK2 c2 A=>aU<|mM R<|xL B3 R<|mM R<|aZ<|Zg<|BV h λo1 l B m=>?_
 have J1:∀(u2:Unit) (i5:NN),o1=.nrm u2→K2 ⟨[],[],(i5 0),32⟩:=by
  intro u2 i5 e
  have h1:=B _ e
  exact c2 _<|zI h1 R id
 refine Zu (λ(C:Int) q=>⟨[(1,rI k),(2,.r<|.sl<|a.map<|As .i64),(3,.ptr 3 w 0 0),(10,rL a),(11,rI C)],[(3,some<|.box w 24 [qb d1.Nodes])],(q 0),32⟩) (AH [(w+1)]) l wk ?_
 intro C q v1 E j
 have h2:LG d1 k a C=some v1:=E;unfold LG at h2
 refine aU<|xS R<|aZ<|aT λc6=>cI R h2 (λF=>?_) λF=>?_
 ·refine Zc<|c6 _<|aT λc7=>Zg<|aU<|mM R<|mA R<|aZ<|aT λc9=>?_
  refine Zz BZ (by kernel_rfl) ?_
  refine qP R (Dr R CV iL R R)<|qP R (AL R iL)<|qP R (AL R iL)<|AG F λx4 I h4=>qP R (BK R B3.slice iL iL (λ_=>R) λ_=>I)<|qP R (Bj (d:=.int .i64 x4) R AI iL R)<|AG h4 λk1 J h5=>AQ.stepC R R R (r:=rI k1) (caps:=[]) (bs:=[.agg [qb d1.Nodes],rI x4]) R iL R ⟨⟨_,iL,.g (cs:=[.sl<|d1.Nodes.map Ac.row]) R R⟩,⟨_,iL,.d R⟩,Za⟩ (λ_=>Lj<|J) R<|qP R (D7 R iL)<|AQ.nil<|c9 _<|aT λM=>aT λO=>aG [1,2,3,8,10,11] [3] ?_
  refine aR<|mM R<|xS R<|aZ<|O _<|cI R h5 (λT=>?_) λT=>?_
  ·exact zI (m _<|xH j T) R id
  refine Zc<|M _<|aU<|mM R<|lF CD CJ R R<|mM R<|AG T λx5 U h7=>xI Bs R U<|sQ R (BI R CF iL)<|xV (.int .i64 x5.Kind) AI R<|AG h7 λr1 V h8=>cL (fI<|V) R<|sQ R (BB R iL)<|aZ<|cI R h8 (λX=>?_) λX=>?_
  ·exact zI (m _<|xH j X) R id
  refine Zc<|c7 _<|aG [1,2,3,10,11] [3] ?_
  exact aR<|AG X λx6 Z a0=>xA R Z<|mM R<|Zh<|Zr a0 (AH [(q 0)]) wk
 exact Zm<|A _ _ wk<|J1 _ (AH [(q 0)])<|xH j F
theorem jX{d1 r}(h:M0 d1=some r):AS prog 8 [.agg [qb d1.Nodes]] (rI r):=by
 unfold M0 at h
 refine mF func8 ntmps8 R λj=>aU<|sS R (BC (cs:=[qb d1.Nodes]) 1 R iL R R)<|mA R<|aZ<|aT λc2=>aU<|lF CD CJ R R<|xL Bs R<|xQ R<|aZ<|cI R h (λh1=>?_) λh1=>?_
 ·exact zI h1 R id
 refine Zc<|c2 _<|aS λK5 c5 a0=>aU<|lF CD CJ R R<|xL Bs R<|mM R<|aZ<|Zg<|BV h1 λo1 C a1 E=>?_
 have J1:∀(u2:Unit) (i5:NN),o1=.nrm u2→K5 ⟨[(1,.ptr 1 j 0 0)],[(1,some<|.box j 24 [qb d1.Nodes])],(i5 0),81⟩:=by
  intro u2 i5 e
  have h2:=a1 _ e
  refine c5 _<|aS λK7 c7 a2=>aU<|lF CD CJ R R<|xL Bs R<|mM R<|aZ<|Zg<|BV h2 λo2 F a6 a7=>?_
  have J2:∀(u4:Unit) (I:NN),o2=.nrm u4→K7 ⟨[],[],(I 0),81⟩:=by
   intro u4 I e
   have h3:=a6 _ e
   exact c7 _<|zI h3 R id
  refine Zu (λ(m:Int) i8=>⟨[(1,.ptr 1 j 0 0),(59,rL d1.Nodes),(60,rI m)],[(1,some<|.box j 24 [qb d1.Nodes])],(i8 0),81⟩) (AH [(i5 0)]) F wk ?_
  intro m i8 v1 a8 J
  have h4:Jn d1 m=some v1:=a8;unfold Jn at h4
  refine aU<|xS R<|aZ<|aT λaa=>cI R h4 (λh5=>?_) λh5=>?_
  ·refine Zc<|aa _<|aT λab=>Zg<|aU<|mM R<|mA R<|aZ<|aT λac=>AG h5 λl M h6=>AG h6 λr1 ad h7=>?_
   refine rP 13 [pO 63<|.agg [qb d1.Nodes],pO 64<|.ptr 1 j 0 0,pO 65<|qb d1.Nodes,pO 66<|rI m,pO 67<|.rop (Ac.row l) 0,pO 68<|.rop (Ac.row l) 1,pO 69<|rI l.Kind,pO 70<|.ptr 1 j 0 0,pO 71<|qb d1.Nodes,pO 72<|rI m,pO 73<|.rop (Ac.row l) 0,pO 74<|.agg<|A5 l,pO 75<|.r<|.sl<|r1.map<|As .i64] BZ R (by exact⟨oB [(1,.ptr 1 j 0 0)] [(1,some<|.box j 24 [qb d1.Nodes])]<|Dr R CV (.inl R) R R,oB [(1,.ptr 1 j 0 0)] [(1,some<|.box j 24 [qb d1.Nodes])]<|fB R CD (.inl R) (λ_=>R) R,oB [(64,.ptr 1 j 0 0)] [(1,some<|.box j 24 [qb d1.Nodes])]<|Ab (a:=qb d1.Nodes) R CJ (.inl R) R R,oB [(5,rI m)] []<|AL R<|.inl R,oB [(65,qb d1.Nodes),(66,rI m)] []<|BK R Bs.slice (.inl R) (.inl R) (λ_=>R) λ_=>M,oB [(67,.rop (Ac.row l) 0)] []<|BI R CF<|.inl R,oB [(68,.rop (Ac.row l) 1)] []<|Bj (d:=.int .i64 l.Kind) R AI (.inl R) R,oB [(1,.ptr 1 j 0 0)] [(1,some<|.box j 24 [qb d1.Nodes])]<|fB R CD (.inl R) (λ_=>R) R,oB [(70,.ptr 1 j 0 0)] [(1,some<|.box j 24 [qb d1.Nodes])]<|Ab (a:=qb d1.Nodes) R CJ (.inl R) R R,oB [(5,rI m)] []<|AL R<|.inl R,oB [(71,qb d1.Nodes),(72,rI m)] []<|BK R Bs.slice (.inl R) (.inl R) (λ_=>R) λ_=>M,oB [(73,.rop (Ac.row l) 0)] []<|ET (cs:=(A5 l)) R ER (.inl R) R R,oD (λ_=>[(74,.agg<|A5 l)]) (λ_=>[]) λG1 e h' n=>EA (r:=.r<|.sl<|r1.map<|As .i64) (caps:=[]) (bs:=(JP l)) R (.inl R) R ⟨.inl ⟨(.inl R),R⟩,Za⟩ λ_=>eR<|ad,Za⟩) λG1 n1=>?_
   refine Bm [1,5,59,60,61,62,63,64,65,66,67,68,69,70,71,72,73,74,75] [1] ?_
   refine AG h7 λe1 ae h8=>cL (oU<|ae) R<|mA R<|aZ<|ac _<|aT λaf=>aG [1,6,59,60] [1] ?_
   refine aR<|mM R<|xU R<|aZ<|af _<|cI R h8 (λh9=>?_) λh9=>?_
   ·exact aU<|mM R<|mA R<|aZ<|Zj<|yI (a7 _<|xH J h9) R
   exact Zc<|ab _<|aR<|AG h9 λx8 ag ah=>xA R ag<|mM R<|Zh<|Zr ah (AH [n1]) wk
  exact Zm<|a2 _ _ wk<|J2 _ (AH [(i8 0)])<|xH J h5
 refine Zu (λ(x2:Int) i3=>⟨[(1,.ptr 1 j 0 0),(13,rL d1.Nodes),(14,rI x2)],[(1,some<|.box j 24 [qb d1.Nodes])],(i3 0),81⟩) (AH [(j+1)]) C wk ?_
 intro x2 i3 v2 ai q
 have O:Lp d1 x2=some v2:=ai;unfold Lp at O
 refine aU<|xS R<|aZ<|aT λaj=>cI R O (λw=>?_) λw=>?_
 ·refine Zc<|aj _<|aT λak=>Zg<|aU<|mM R<|mA R<|aZ<|aT λal=>aU<|lF CD CJ R R<|mM R<|AG w λx9 T an=>xI Bs R T<|xB ((A5 x9)) ER R<|AG an λe2 ao aq=>cL (gJ<|ao) R<|mA R<|aZ<|aU<|mM R<|xU R<|aZ<|cI R aq (λA=>?_) λA=>?_
  ·refine aT λar=>aF [4] ?_
   exact aR<|mM R<|mA R<|aZ<|ar _<|Zj<|yI (E _<|xH q A) R
  refine Zc<|al _<|aT λau=>aG [1,3,13,14] [1] ?_
  refine Zz BZ (by kernel_rfl) ?_
  refine qP R (AL R iL)<|qP R (BE R iL iL)<|qP R (AL R iL)<|qO R (fB R CD iL fR R)<|qO R (Ab (a:=qb d1.Nodes) R CJ (iR R) R R)<|AG A λav U aw=>qO R (BK R Bs.slice (iR R) iL (λ_=>R)<|Ad U)<|qO R (BI R En<|iR R)<|qO R (Bj (d:=.int .i64 av.ID) R AI (iR R) R)<|qO R (C0 R (iR R) iL)<|qP R (BS R iL<|iR R)<|qP R (AL R iL)<|qO R (AL R iL)<|qO R (BU R (iR R) iL)<|qO R (AL R<|iR R)<|qT R (fB R CD iL fR R)<|qT R (Ab (a:=qb d1.Nodes) R CJ (iR R) R R)<|qT R (AL R iL)<|qT R (BK R Bs.slice (iR R) (iR R) (λ_=>R) λ_=>T)<|qT R (BI R En<|iR R)<|qT R (Bj (d:=.int .i64 x9.ID) R AI (iR R) R)<|qT R (fB R CD iL fR R)<|qT R (Ab (a:=qb d1.Nodes) R CJ (iR R) R R)<|qT R (AL R iL)<|AG aw λb1 V ax=>qT R (CS R (iR R) iL<|Ad V)<|AG ax λay X az=>qT R (BK R Bs.slice (iR R) (iR R) (λ_=>R)<|Ad X)<|qT R (BI R En<|iR R)<|qT R (Bj (d:=.int .i64 ay.ID) R AI (iR R) R)<|qT R (Ei R (iR R)<|iR R)<|qO R (BS R (iR R)<|iR R)<|qP R (CN R iL<|iR R)<|AQ.nil<|au _<|cI R az (λB=>?_) λB=>?_
  ·exact zI (E _<|xH q B) R id
  exact Zc<|ak _<|aR<|AG B λb2 Z b0=>xA R Z<|mM R<|Zh<|Zr b0 (AH [(i3 0)]) wk
 exact Zm<|a0 _ _ wk<|J1 _ (AH [(i3 0)])<|xH q w
theorem WU{j i r}(h:IG j i=some r):AS prog 10 [qh j,rI i] (rI r):=by
 unfold IG at h
 refine mF func10 ntmps10 R λX=>aU<|mA R<|aZ<|aS λZ c2 w=>aU<|mM R<|xL NY R<|mM R<|aZ<|Zg<|BV h λo1 l A B=>?_
 have J1:∀(T:Unit) (U:NN),o1=.nrm T→Z ⟨[],[],(U 0),20⟩:=by
  intro T U e
  have h1:=A _ e
  exact c2 _<|zI h1 R id
 refine Zu (λ(C:Int) q=>⟨[(0,qh j),(1,rI i),(7,rL j),(8,rI C)],[],(q 0),20⟩) (AH [X]) l wk ?_
 intro C q v1 E m
 have V:Hp j i C=some v1:=E;unfold Hp at V
 refine aU<|xS R<|aZ<|aT λc6=>cI R V (λF=>?_) λF=>?_
 ·refine Zc<|c6 _<|aT λc7=>Zg<|aU<|mM R<|mA R<|aZ<|aU<|mM R<|mM R<|AG F λx4 I h4=>xI NY R I<|sQ R (BI R KE iL)<|xV (.int .i64 x4.ID) AI R<|mM R<|xQ R<|aZ<|cI R h4 (λJ=>?_) λJ=>?_
  ·refine aT λM=>aF [5] ?_
   exact aR<|mM R<|mA R<|aZ<|M _<|Zj<|yI (B _<|xH m J) R
  refine Zc<|c7 _<|aF [0,1,7,8] ?_
  exact aR<|AG J λx5 O h6=>xA R O<|mM R<|Zh<|Zr h6 (AH [(q 0)]) wk
 exact Zm<|w _ _ wk<|J1 _ (AH [(q 0)])<|xH m F
theorem oS{q b c r}(h:NF q b c=some r):AS prog 83 [.agg<|CR q,rI b,rI c] (.agg<|Ay r):=by
 unfold NF at h
 refine mF func83 ntmps83 R λj=>aU<|sS R (BC (cs:=(CR q)) 3 R iL R R)<|sS R (BN (cs:=Fd) 6 R II R R)<|aZ<|aS λK2 c2 C=>aU<|lF EN Eb R R<|xL DD R<|mM R<|aZ<|Zg<|BV h λo1 w E F=>?_
 have J1:∀(u2:Unit) (i5:NN),o1=.nrm u2→K2 ⟨[(1,rI b),(2,rI c),(6,.ptr 6 (j+1) 0 0)],[(6,some<|.box (j+1) 154 Fd)],(i5 0),47⟩:=by
  intro u2 i5 e
  have h1:=E _ e
  refine c2 _<|aT λc4=>aR<|mM R<|mM R ?_
  refine sQ R (DL R Xj (q:=[(0,_),(1,_),(2,_),(3,_)]) (by exact⟨R,R,R,iL,R,R,R,iL,R,R,R,iL,R,R,R,iL,Za⟩) (cs:=[rI b,rI c,rI 1,rI 1])<|by rfl) ?_
  exact Zl R R (A6 (ds:=[rI b,rI c,rI 1,rI 1]) R GG iL R iL R R R R)<|aZ<|c4 _<|Zj<|Cb (P:=prog) (λ(r:Ak)=>.agg<|Ay r) h1 iL<|.a DP R R R<|.g (cs:=[.int .i64 b,.int .i64 c,.int .i64 1,.int .i64 1]) R R
 refine Zu (λ(I:Int) B=>⟨[(1,rI b),(2,rI c),(3,.ptr 3 j 0 0),(6,.ptr 6 (j+1) 0 0),(11,rL q.Merges),(12,rI I)],[(3,some<|.box j 37<|CR q),(6,some<|.box (j+1) 154 Fd)],(B 0),47⟩) (AH [(j+2)]) w wk ?_
 intro I B v1 J A
 have h2:Ia q b c I=some v1:=J;unfold Ia at h2
 refine aU<|xS R<|aZ<|aT λc6=>cI R h2 (λM=>?_) λM=>?_
 ·refine Zc<|c6 _<|aT λc7=>Zg<|aU<|mM R<|mA R<|aZ<|aU<|lF EN Eb R R<|mM R<|AG M λl O h4=>xI DD R O<|xB ((Ay l)) DP R<|sS R (BN (cs:=Fd) 8 R II R R)<|Zl R R (A6 (ds:=(Ay l)) R GG iL R iL R R R R)<|aZ<|aT λT=>aR<|mM R<|lF Ca AI R R<|lF Ca AI R R<|lF Gg AI R R<|AG h4 λx5 U h5=>xA R U<|AG h5 λx6 V h6=>sQ R (CS R iL iL λ_=>V)<|AG h6 λr1 X h7=>cL (DY<|X) R<|mM R<|vM R<|vF DG AI R R<|vF DG AI R R<|vF F7 AI R R<|AG h7 λx7 Z h8=>vQ R (KF R (iR R) (iR R)<|Ad Z)<|AG h8 λx8 a0 h9=>vQ R (CS R (iR R) iL<|Ad a0)<|AG h9 λr2 a1 a2=>vL (λhg=>DY<|Ad a1 hg) R<|xN R<|aZ<|T _<|cI R a2 (λm=>?_) λm=>?_
  ·refine aT λa6=>aG [6,8] [6,8] ?_
   exact aR<|xC DP R<|Zl R R (A6 (ds:=(Ay l)) R GG iL R iL R R R R)<|aZ<|a6 _<|Zj<|Cb (P:=prog) (λ(r:Ak)=>.agg<|Ay r) (F _<|xH A m) iL<|.a DP R R R<|.g (cs:=[.int .i64 l.Row,.int .i64 l.Col,.int .i64 l.H,.int .i64 l.W]) R R
  refine Zc<|c7 _<|aG [1,2,3,6,11,12] [3,6] ?_
  exact aR<|AG m λx9 a7 a8=>xA R a7<|mM R<|Zh<|Zr a8 (AH [((B 0)+1)]) wk
 exact Zm<|C _ _ wk<|J1 _ (AH [(B 0)])<|xH A M
theorem M7{j i r}(h:Hz j i=some r):AS prog 102 [qg j,rI i] (rI r):=by
 unfold Hz at h
 refine mF func102 ntmps102 R λX=>aU<|mA R<|aZ<|aS λZ c2 w=>aU<|mM R<|xL BM R<|mM R<|aZ<|Zg<|BV h λo1 l A B=>?_
 have J1:∀(T:Unit) (U:NN),o1=.nrm T→Z ⟨[],[],(U 0),20⟩:=by
  intro T U e
  have h1:=A _ e
  exact c2 _<|zI h1 R id
 refine Zu (λ(C:Int) q=>⟨[(0,qg j),(1,rI i),(7,rL j),(8,rI C)],[],(q 0),20⟩) (AH [X]) l wk ?_
 intro C q v1 E m
 have V:Hx j i C=some v1:=E;unfold Hx at V
 refine aU<|xS R<|aZ<|aT λc6=>cI R V (λF=>?_) λF=>?_
 ·refine Zc<|c6 _<|aT λc7=>Zg<|aU<|mM R<|mA R<|aZ<|aU<|mM R<|mM R<|AG F λx4 I h4=>xI BM R I<|sQ R (BI R EX iL)<|xV (.int .i64 x4.Item) AI R<|mM R<|xQ R<|aZ<|cI R h4 (λJ=>?_) λJ=>?_
  ·refine aT λM=>aF [5] ?_
   exact aR<|mM R<|mA R<|aZ<|M _<|Zj<|yI (B _<|xH m J) R
  refine Zc<|c7 _<|aF [0,1,7,8] ?_
  exact aR<|AG J λx5 O h6=>xA R O<|mM R<|Zh<|Zr h6 (AH [(q 0)]) wk
 exact Zm<|w _ _ wk<|J1 _ (AH [(q 0)])<|xH m F
theorem WJ{B w r}(h:KZ B w=some r):AS prog 97 [qa B,.agg<|B6 w] (qa r):=by
 unfold KZ at h
 refine mF func97 ntmps97 R λA=>aU<|sS R (BC (cs:=(B6 w)) 3 R iL R R)<|mA R<|aZ<|aU<|mA R<|aZ<|aU<|mA R<|aZ<|aS λK4 c4 ae=>aU<|mM R<|xL BD R<|mM R<|aZ<|Zg<|Hi h λo1 a8 af=>?_
 have J1:∀(j:Bool) (C:List AE) (T:NN),o1=(j,C)→K4 ⟨[(3,.ptr 3 A 0 0),(5,.own 5005<|T 0),(6,rB j)],[(3,some<|.box A 91<|B6 w),(5005,some<|.arr (T 0) 91 2<|C.map AE.row)],(T 1),52⟩:=by
  intro j C T e
  have h1:=af _ _ e
  refine c4 _<|aS λK6 c6 aa=>aU<|mM R<|sQ R (BB R iL)<|aZ<|Bd h1 λp1 ab ag=>?_
  have J2:∀(E:List AE) (i6:NN),p1=E→K6 ⟨[(5,.own 5005<|i6 0)],[(5005,some<|.arr (i6 0) 91 2<|E.map AE.row)],(i6 1),52⟩:=by
   intro E i6 e
   have h2:=ag _ e
   exact c6 _<|aU<|mM R<|mA R<|aZ<|Zj<|Cb (P:=prog) (λ(r:(List AE))=>qa r) h2 iL<|.t<|.one<|.own R
  refine aC R (λX=>?_) λX=>?_
  ·have h3:=EQ X ab
   exact aR<|mM R<|xC Ec R<|sS R (CG 49 R BD (f:=AE.row) (l:=([w]:List AE)) ⟨R,⟨_,iL,R⟩,Za⟩ R (λ_=>R) R)<|AG h3 λb4 Z h4=>sS R (Dp R BD iL R (.inr<|.inl ⟨_,_,iL,R⟩) Z)<|mA R<|Zh<|aa _ _ wk<|J2 _ (AH [((T 1)+1),((T 1)+2)]) (Zf h4).symm
  ·have h3:=EM X ab
   exact Zc<|aa _ _ wk<|J2 _ (AH [(T 0),(T 1)]) (Zf h3).symm
 refine JU (λ(l:Bool) (x2:Int) (F:List AE) M=>⟨[(0,qa B),(3,.ptr 3 A 0 0),(5,.own 5005<|M 0),(6,rB l),(9,rL B),(10,rI x2)],[(3,some<|.box A 91<|B6 w),(5005,some<|.arr (M 0) 91 2<|F.map AE.row)],(M 1),52⟩) (AH [(A+1),(A+2)]) a8 (Zw (Zw (IT 5 5005 91 2 (by decide) R)<|by exact Ah.cv (e':=[(0,qa B),(1,.agg<|B6 w),(3,.ptr 3 A 0 0),(4,cZ),(5,.own 5005<|A+1),(6,rB false),(8,qa B),(9,rL B),(10,rI 0)]) (h':=[(3,some<|.box A 91<|B6 w),(5005,some<|.arr (A+1) 91 2<|([]:List AE).map AE.row)]) ⟨jL,jL,jL,jL,jL,jL,jL,jL,jL,Za⟩ ⟨.inl R,.inl R,Za⟩ nL) wk) ?_
 intro l x2 F M v1 ah ai
 have h5:Ox B w l x2 F=some v1:=ah;unfold Ox at h5
 refine aU<|xS R<|aZ<|aT λaj=>cI R h5 (λh6=>?_) λh6=>?_
 ·refine Zc<|aj _<|aS λak al U=>Zg<|Hi h6 λp2 an ao=>?_
  have J3:∀(m:Bool) (I:List AE) (i7:NN),p2=(m,I)→ak ⟨[(0,qa B),(3,.ptr 3 A 0 0),(5,.own 5005<|i7 0),(6,rB m),(9,rL B),(10,rI x2)],[(3,some<|.box A 91<|B6 w),(5005,some<|.arr (i7 0) 91 2<|I.map AE.row)],(i7 1),52⟩:=by
   intro m I i7 e
   have h7:=ao _ _ e
   exact al _<|aR<|AG h7 λx4 aq h8=>xA R aq<|mM R<|Zh<|FX.mk h8 (AH [(i7 0),(i7 1)]) wk
  refine aU<|mM R<|mA R<|aZ<|aS λar au V=>aT λav=>?_
  refine Zz BZ (by kernel_rfl) ?_
  refine qP R (AL R iL)<|qP R (BB R iL)<|qP R (AL R iL)<|qO R (AL R iL)<|qO R (AL R iL)<|AG an λx5 aw h9=>qO R (BK R BD.slice (iR R) (iR R) (λ_=>R)<|Ad aw)<|qO R (BI R ES<|iR R)<|qO R (Bj (d:=.str x5.Name) R A9 (iR R) R)<|qO R (fB R ES iL fR R)<|qO R (Ab (a:=rS w.Name) R A9 (iR R) R R)<|qO R (R0 R (iR R)<|iR R)<|qP R (BS R iL<|iR R)<|AQ.nil<|av _<|Hi h9 λp3 ac ax=>?_
  have J4:∀(q:Bool) (J:List AE) (i8:NN),p3=(q,J)→ar ⟨[(0,qa B),(3,.ptr 3 A 0 0),(5,.own 5005<|i8 0),(6,rB q),(7,rI x2),(9,rL B),(10,rI x2)],[(3,some<|.box A 91<|B6 w),(5005,some<|.arr (i8 0) 91 2<|J.map AE.row)],(i8 1),52⟩:=by
   intro q J i8 e
   have ay:=ax _ _ e
   refine au _<|aT λaz=>?_
   refine Zz BZ (by kernel_rfl) ?_
   refine qP R (AL R iL)<|qP R (AL R iL)<|AG ay λx6 ad b0=>qP R (BK R BD.slice iL iL (λ_=>R) λ_=>ad)<|qP R (BI R ES iL)<|qP R (Bj (d:=.str x6.Name) R A9 iL R)<|qP R (fB R ES iL fR R)<|qP R (Ab (a:=rS w.Name) R A9 iL R R)<|qP R (Dt R iL iL)<|AQ.nil<|az _<|cI R b0 (λa0=>?_) λa0=>?_
   ·exact aR<|mM R<|mM R<|mM R<|xI BD R ad<|xB ((B6 x6)) Ec R<|sS R (CG 42 R BD (f:=AE.row) (l:=([x6]:List AE)) ⟨R,⟨_,iL,R⟩,Za⟩ R (λ_=>R) R)<|AG a0 λb5 a2 b1=>sS R (Dp R BD iL R (.inr<|.inl ⟨_,_,iL,R⟩) a2)<|mA R<|Zh<|U _ _ wk<|J3 _ _ (AH [((i8 1)+1),((i8 1)+2)]) (Zf b1).symm
   exact Zc<|U _ _ wk<|J3 _ _ (AH [(i8 0),(i8 1)]) (Zf a0).symm
  refine aC R (λa6=>?_) λa6=>?_
  ·have a7:=EQ a6 ac
   refine aU<|mM R<|xC Ec R<|sS R (CG 27 R BD (f:=AE.row) (l:=([w]:List AE)) ⟨R,⟨_,iL,R⟩,Za⟩ R (λ_=>R) R)<|AG a7 λb2 O b3=>sS R (Dp R BD iL R (.inr<|.inl ⟨_,_,iL,R⟩) O)<|mA R<|aZ<|aG [0,3,5,7,9,10] [3,5005] ?_
   exact aR<|mA R<|Zh<|V _ _ wk<|J4 _ _ (AH [((M 1)+1),((M 1)+2)]) (Zf b3).symm
  ·have a7:=EM a6 ac
   exact Zc<|V _ _ wk<|J4 _ _ (AH [(M 0),(M 1)]) (Zf a7).symm
 exact Zm<|ae _ _ wk<|J1 _ _ (AH [(M 0),(M 1)])<|xH ai h6
theorem nF{l1 c r}(h:LU l1 c=some r):AS prog 54 [qa l1,qa c] (qa r):=by
 unfold LU at h
 refine mF func54 ntmps54 R λn0=>aU<|mA R<|aZ<|aU<|mA R<|aZ<|aS λK3 c3 ah=>aU<|mM R<|xL BD R<|mM R<|aZ<|Zg<|Bd h λo1 a0 ai=>?_
 have J1:∀(E:List AE) (i5:NN),o1=E→K3 ⟨[(1,qa c),(5,qa E)],[],(i5 0),54⟩:=by
  intro E i5 e
  have h1:=ai _ e
  refine c3 _<|aS λK5 c5 aj=>aU<|mM R<|xL BD R<|mM R<|aZ<|Zg<|Bd h1 λo2 a1 ak=>?_
  have J2:∀(j:List AE) (C:NN),o2=j→K5 ⟨[(5,qa j)],[],(C 0),54⟩:=by
   intro j C e
   have h2:=ak _ e
   refine c5 _<|aU<|mA R<|aZ<|aS λK8 c8 al=>aU<|mM R<|xL BD R<|mM R<|aZ<|Zg<|Bd h2 λo3 a2 an=>?_
   have J3:∀(m:List AE) (F:NN),o3=m→K8 ⟨[(8,.own 5008<|F 0)],[(5008,some<|.arr (F 0) 91 2<|m.map AE.row)],(F 1),54⟩:=by
    intro m F e
    have h3:=an _ e
    exact c8 _<|aU<|mM R<|mA R<|aZ<|Zj<|Cb (P:=prog) (λ(r:(List AE))=>qa r) h3 iL<|.t<|.one<|.own R
   refine Cw (λ(x8:Int) (q:List AE) l=>⟨[(5,qa j),(8,.own 5008<|l 0),(35,rL j),(36,rI x8)],[(5008,some<|.arr (l 0) 91 2<|q.map AE.row)],(l 1),54⟩) (AH [(C 0),((C 0)+1)]) a2 (Zw (Zw (IT 8 5008 91 2 (by decide) R)<|by exact Ah.cv (e':=[(5,qa j),(8,.own 5008<|C 0),(34,qa j),(35,rL j),(36,rI 0)]) (h':=[(5008,some<|.arr (C 0) 91 2<|([]:List AE).map AE.row)]) ⟨jL,jL,jL,jL,jL,Za⟩ ⟨.inl R,Za⟩ nL) wk) ?_
   intro x8 q l v1 ao aq
   have h4:Nd j x8 q=some v1:=ao;unfold Nd at h4
   refine aU<|xS R<|aZ<|aT λar=>cI R h4 (λh5=>?_) λh5=>?_
   ·refine Zc<|ar _<|aS λau av M=>Zg<|Bd h5 λp1 aw ax=>?_
    have J4:∀(w:List AE) (i16:NN),p1=w→au ⟨[(5,qa j),(8,.own 5008<|i16 0),(35,rL j),(36,rI x8)],[(5008,some<|.arr (i16 0) 91 2<|w.map AE.row)],(i16 1),54⟩:=by
     intro w i16 e
     have h6:=ax _ e
     exact av _<|aR<|AG h6 λbe a6 h7=>xA R a6<|mM R<|Zh<|CU.mk h7 (AH [(i16 0),(i16 1)]) wk
    refine aU<|mM R<|mA R<|aZ<|aU<|mM R<|mM R<|AG aw λT O h8=>xI BD R O<|sQ R (BI R JD iL)<|xV (.str T.Value) A9 R<|sQ R (Dt R iL iL)<|aZ<|cI R h8 (λh9=>?_) λh9=>?_
    ·exact aR<|mM R<|mM R<|mM R<|xI BD R O<|xB ((B6 T)) Ec R<|sS R (CG 50 R BD (f:=AE.row) (l:=([T]:List AE)) ⟨R,⟨_,iL,R⟩,Za⟩ R (λ_=>R) R)<|AG h9 λay I az=>sS R (Dp R BD iL R (.inr<|.inl ⟨_,_,iL,R⟩) I)<|mA R<|Zh<|M _ _ wk<|J4 _ (AH [((l 1)+1),((l 1)+2)]) (Zf az).symm
    exact Zc<|M _ _ wk<|J4 _ (AH [(l 0),(l 1)]) (Zf h9).symm
   exact Zm<|al _ _ wk<|J3 _ (AH [(l 0),(l 1)])<|xH aq h5
  refine Cw (λ(A:List AE) (x5:Int) i8=>⟨[(1,qa c),(5,qa A),(23,rL c),(24,rI x5)],[],(i8 0),54⟩) (AH [(i5 0)]) a1 wk ?_
  intro A x5 i8 v2 b0 b1
  have a7:MX c A x5=some v2:=b0;unfold MX at a7
  refine aU<|xS R<|aZ<|aT λb2=>cI R a7 (λU=>?_) λU=>?_
  ·refine Zc<|b2 _<|aT λb3=>Zg<|aU<|mM R<|mA R<|aZ<|aR<|mM R<|mM R<|mM R<|AG U λa8 aa b4=>xI BD R aa<|xB ((B6 a8)) Ec R<|AG b4 λab V b5=>sS R (EA (r:=qa ab) (caps:=[]) (bs:=[qa A,.agg<|B6 a8]) R iL R ⟨.inl ⟨iL,R⟩,.inl ⟨iL,R⟩,Za⟩ λ_=>WJ<|V)<|mA R<|aZ<|b3 _<|aF [1,5,23,24] ?_
   exact aR<|AG b5 λbf ac b6=>xA R ac<|mM R<|Zh<|CU.mk b6 (AH [(i8 0)]) wk
  exact Zm<|aj _ _ wk<|J2 _ (AH [(i8 0)])<|xH b1 U
 refine Cw (λ(B:List AE) (x2:Int) i3=>⟨[(0,qa l1),(1,qa c),(5,qa B),(11,rL l1),(12,rI x2)],[],(i3 0),54⟩) (AH [n0]) a0 ((by exact Ah.cv ⟨jL,jL,.inl<|.inr<|.inr ⟨R,R⟩,jL,jL,Za⟩ Za nL)) ?_
 intro B x2 i3 v3 b7 b8
 have ad:OR l1 B x2=some v3:=b7;unfold OR at ad
 refine aU<|xS R<|aZ<|aT λb9=>cI R ad (λX=>?_) λX=>?_
 ·refine Zc<|b9 _<|aT λba=>Zg<|aU<|mM R<|mA R<|aZ<|aR<|mM R<|mM R<|mM R<|AG X λae af bb=>xI BD R af<|xB ((B6 ae)) Ec R<|AG bb λZ J bc=>sS R (EA (r:=qa Z) (caps:=[]) (bs:=[qa B,.agg<|B6 ae]) R iL R ⟨.inl ⟨iL,R⟩,.inl ⟨iL,R⟩,Za⟩ λ_=>WJ<|J)<|mA R<|aZ<|ba _<|aF [0,1,5,11,12] ?_
  exact aR<|AG bc λbg ag bd=>xA R ag<|mM R<|Zh<|CU.mk bd (AH [(i3 0)]) wk
 exact Zm<|ah _ _ wk<|J1 _ (AH [(i3 0)])<|xH b8 X
theorem dM{w i a r}(h:Lk w i a=some r):AS prog 160 [qg w,rI i,rI a] (rB r):=by
 unfold Lk at h
 refine mF func160 ntmps160 R λn0=>aU<|mA R<|aZ<|aS λK2 c2 B=>aU<|mM R<|xL BM R<|AG h λZ C h1=>xA R C<|mM R<|aZ<|Zg<|BV h1 λo1 m E q=>?_
 have J1:∀(u2:Unit) (i5:NN),o1=.nrm u2→K2 ⟨[],[],(i5 0),27⟩:=by
  intro u2 i5 e
  have h2:=E _ e
  exact c2 _<|zB h2 R id
 refine Cw (λ(j:Int) (F:Int) A=>⟨[(0,qg w),(1,rI j),(2,rI a),(10,rI Z),(11,rI F)],[],(A 0),27⟩) (AH [n0]) m wk ?_
 intro j F A v1 I l
 have h3:GX w a Z j F=some v1:=I;unfold GX at h3
 refine aU<|xS R<|aZ<|aT λc6=>cI R h3 (λJ=>?_) λJ=>?_
 ·refine Zc<|c6 _<|aT λc7=>Zg<|aT λc8=>aU<|mM R<|mM R<|xQ R<|aZ<|cI R J (λM=>?_) λM=>?_
  ·exact zB (q _<|xH l M) R id
  refine Zc<|c8 _<|aU<|mM R<|mM R<|AG M λi6 O h6=>cL (M7<|O) R<|mA R<|aZ<|aT λT=>aU<|mM R<|xS R<|aZ<|cI R h6 (λU=>?_) λU=>?_
  ·exact zB (q _<|xH l U) R id
  refine Zc<|T _<|aF [0,2,7,10,11] ?_
  exact aR<|mM R<|mM R<|AG U λx5 V h8=>xI BM R V<|sQ R (BI R Lg iL)<|xV (.int .i64 x5.Parent) AI R<|mA R<|aZ<|c7 _<|aR<|AG h8 λx6 X h9=>xA R X<|mM R<|Zh<|CU.mk h9 (AH [(A 0)]) wk
 exact Zm<|B _ _ wk<|J1 _ (AH [(A 0)])<|xH l J
end Go.Proofs.YtmeadkhpiobenaaGreatDoor.Al
