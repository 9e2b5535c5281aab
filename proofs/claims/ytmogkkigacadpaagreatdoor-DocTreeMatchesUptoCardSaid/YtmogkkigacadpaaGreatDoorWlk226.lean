/- Walks, as printed. -/
import Derived.Test.YtmogkkigacadpaaGreatDoorPL2
import Derived.Test.YtmogkkigacadpaaGreatDoorProg
set_option linter.all false
set_option maxHeartbeats 4000000
set_option maxRecDepth 20000
set_option linter.unusedVariables false
namespace Go.Proofs.YtmogkkigacadpaaGreatDoor.Al
open Go.Proofs Go.Proofs.Tryz
@[reducible] noncomputable def CD t:=(prog.info? t).map (λi=>(i.zero,i.size,i.bytes))
theorem BV:prog.follows .mixedOrders=true:=by kernel_rfl
theorem L5:CD 103=some (some<|.agg #[.int .i64 0,.int .i64 0,.string ⟨#[]⟩,.slice none 0 0],4,56):=by kernel_rfl
theorem Mc:CD 123=some (some<|.agg #[.string ⟨#[]⟩,.string ⟨#[]⟩],2,32):=by kernel_rfl
theorem Po:CD 129=some (some<|.agg #[.int .i64 0,.int .i64 0,.int .i64 0,.int .i64 0,.int .i64 0,.string ⟨#[]⟩,.string ⟨#[]⟩,.string ⟨#[]⟩],8,88):=by kernel_rfl
theorem RE:CD 146=some (some<|.map none,1,8):=by kernel_rfl
theorem VF:CD 147=some (some<|.map none,1,8):=by kernel_rfl
theorem Te:CD 148=some (some<|.map none,1,8):=by kernel_rfl
theorem jH:CD 150=some (some<|.agg #[.map none,.map none],2,16):=by kernel_rfl
theorem dM:CD 151=some (some<|.pointer none,1,8):=by kernel_rfl
theorem Ro:CD 152=some (some<|.nilFunc,1,8):=by kernel_rfl
theorem P1:CD 204=some (some<|.agg #[.int .u8 0,.int .u8 0],2,2):=by kernel_rfl
theorem W2:CD 22=some (some<|.slice none 0 0,1,24):=by kernel_rfl
theorem QQ:CD 24=some (some<|.agg #[.slice none 0 0],1,24):=by kernel_rfl
theorem Ql:CD 26=some (some<|.slice none 0 0,1,24):=by kernel_rfl
theorem Cp:CD 3=some (some<|.int .i64 0,1,8):=by kernel_rfl
theorem Sj:CD 38=some (some<|.agg #[.int .i64 0,.int .i64 0,.bool false],3,24):=by kernel_rfl
theorem Jp:CD 39=some (some<|.slice none 0 0,1,24):=by kernel_rfl
theorem OM:CD 4=some (some<|.bool false,1,1):=by kernel_rfl
theorem SD:CD 40=some (some<|.slice none 0 0,1,24):=by kernel_rfl
theorem Q4:CD 41=some (some<|.slice none 0 0,1,24):=by kernel_rfl
theorem SC:CD 42=some (some<|.slice none 0 0,1,24):=by kernel_rfl
theorem Mw:CD 44=some (some<|.agg #[.int .i64 0,.int .i64 0,.slice none 0 0,.slice none 0 0],4,64):=by kernel_rfl
theorem SX:CD 45=some (some<|.slice none 0 0,1,24):=by kernel_rfl
theorem La:CD 47=some (some<|.agg #[.int .i64 0,.int .i64 0,.slice none 0 0,.slice none 0 0,.int .i64 0,.int .i64 0,.slice none 0 0,.slice none 0 0,.slice none 0 0],9,152):=by kernel_rfl
theorem O3:CD 5=some (some<|.int .u8 0,1,1):=by kernel_rfl
theorem KM:CD 60=some (some<|.agg #[.int .i64 0,.int .i64 0,.slice none 0 0],3,40):=by kernel_rfl
theorem jG:CD 63=some (some<|.nilFunc,1,8):=by kernel_rfl
theorem UW:CD 66=some (some<|.agg #[.int .i64 0,.int .i64 0,.bool false],3,24):=by kernel_rfl
theorem RB:CD 67=some (some<|.nilFunc,1,8):=by kernel_rfl
theorem Rr:CD 68=some (some<|.map none,1,8):=by kernel_rfl
theorem Pd:CD 84=some (some<|.agg #[.int .i64 0,.int .i64 0,.string ⟨#[]⟩,.int .i64 0,.slice none 0 0],5,64):=by kernel_rfl
theorem NQ:CD 86=some (some<|.agg #[.int .i64 0,.int .i64 0,.int .i64 0,.int .i64 0],4,32):=by kernel_rfl
theorem Id:CD 9=some (some<|.string ⟨#[]⟩,1,16):=by kernel_rfl
theorem SV:CD 97=some (some<|.slice none 0 0,1,24):=by kernel_rfl
theorem L9:Bk prog 103 (.agg #[.int .i64 0,.int .i64 0,.string ⟨#[]⟩,.slice none 0 0]):=Bk.of L5
theorem Vm:Bk prog 123 (.agg #[.string ⟨#[]⟩,.string ⟨#[]⟩]):=Bk.of Mc
theorem Pg:Bk prog 129 (.agg #[.int .i64 0,.int .i64 0,.int .i64 0,.int .i64 0,.int .i64 0,.string ⟨#[]⟩,.string ⟨#[]⟩,.string ⟨#[]⟩]):=Bk.of Po
theorem fM:Bk prog 146 (.map none):=Bk.of RE
theorem ke:Bk prog 151 (.pointer none):=Bk.of dM
theorem ZR:Bk prog 152 (.nilFunc):=Bk.of Ro
theorem ji:Bk prog 204 (.agg #[.int .u8 0,.int .u8 0]):=Bk.of P1
theorem QW:Bk prog 24 (.agg #[.slice none 0 0]):=Bk.of QQ
theorem gj:Bk prog 26 (.slice none 0 0):=Bk.of Ql
theorem RG:Bk prog 39 (.slice none 0 0):=Bk.of Jp
theorem KH:Bk prog 4 (.bool false):=Bk.of OM
theorem cC:Bk prog 44 (.agg #[.int .i64 0,.int .i64 0,.slice none 0 0,.slice none 0 0]):=Bk.of Mw
theorem Hs:Bk prog 47 (.agg #[.int .i64 0,.int .i64 0,.slice none 0 0,.slice none 0 0,.int .i64 0,.int .i64 0,.slice none 0 0,.slice none 0 0,.slice none 0 0]):=Bk.of La
theorem MT:Bk prog 60 (.agg #[.int .i64 0,.int .i64 0,.slice none 0 0]):=Bk.of KM
theorem Qu:Bk prog 67 (.nilFunc):=Bk.of RB
theorem MJ:Bk prog 68 (.map none):=Bk.of Rr
theorem GE:Bk prog 84 (.agg #[.int .i64 0,.int .i64 0,.string ⟨#[]⟩,.int .i64 0,.slice none 0 0]):=Bk.of Pd
theorem GS:Bk prog 86 (.agg #[.int .i64 0,.int .i64 0,.int .i64 0,.int .i64 0]):=Bk.of NQ
theorem Of:Bk prog 97 (.slice none 0 0):=Bk.of SV
theorem Z8:prog.underlying 117=some (.interface<|prog.methodsAt 117):=by kernel_rfl
theorem GP:Bg prog 103 4:=Bg.of underlying103 rfl L5
theorem EG:Bg prog 123 2:=Bg.of underlying123 rfl Mc
theorem GI:Bg prog 129 8:=Bg.of underlying129 rfl Po
theorem mI:Bg prog 204 2:=Bg.of underlying204 rfl P1
theorem B7:Bg prog 24 1:=Bg.of underlying24 rfl QQ
theorem jD:Bg prog 38 3:=Bg.of underlying38 rfl Sj
theorem Fm:Bg prog 44 4:=Bg.of underlying44 rfl Mw
theorem DO:Bg prog 47 9:=Bg.of underlying47 rfl La
theorem IA:Bg prog 60 3:=Bg.of underlying60 rfl KM
theorem SG:Bg prog 66 3:=Bg.of underlying66 rfl UW
theorem Dy:Bg prog 84 5:=Bg.of underlying84 rfl Pd
theorem C3:Bg prog 86 4:=Bg.of underlying86 rfl NQ
theorem lv:HN 2=some (Fx.flatMap<|AY .u8):=by kernel_rfl
theorem gk:HN 3=some (PX.flatMap Ha.row):=by kernel_rfl
theorem Og:DN prog 103 [(0,1),(1,1),(2,1),(3,1)] [.int .i64 0,.int .i64 0,.string ⟨#[]⟩,.slice none 0 0]:=DN.of underlying103 (λw=>by kernel_rfl) L5
theorem QV:DN prog 123 [(0,1),(1,1)] [.string ⟨#[]⟩,.string ⟨#[]⟩]:=DN.of underlying123 (λw=>by kernel_rfl) Mc
theorem X6:DN prog 150 [(0,1),(1,1)] [.map none,.map none]:=DN.of underlying150 (λw=>by kernel_rfl) jH
theorem SB:DN prog 24 [(0,1)] [.slice none 0 0]:=DN.of underlying24 (λw=>by kernel_rfl) QQ
theorem O0:DN prog 38 [(0,1),(1,1),(2,1)] [.int .i64 0,.int .i64 0,.bool false]:=DN.of underlying38 (λw=>by kernel_rfl) Sj
theorem dT:DN prog 44 [(0,1),(1,1),(2,1),(3,1)] [.int .i64 0,.int .i64 0,.slice none 0 0,.slice none 0 0]:=DN.of underlying44 (λw=>by kernel_rfl) Mw
theorem QZ:DN prog 47 [(0,1),(1,1),(2,1),(3,1),(4,4),(8,1)] [.int .i64 0,.int .i64 0,.slice none 0 0,.slice none 0 0,.int .i64 0,.int .i64 0,.slice none 0 0,.slice none 0 0,.slice none 0 0]:=DN.of underlying47 (λw=>by kernel_rfl) La
theorem Ll:DN prog 60 [(0,1),(1,1),(2,1)] [.int .i64 0,.int .i64 0,.slice none 0 0]:=DN.of underlying60 (λw=>by kernel_rfl) KM
theorem F0:DN prog 66 [(0,1),(1,1),(2,1)] [.int .i64 0,.int .i64 0,.bool false]:=DN.of underlying66 (λw=>by kernel_rfl) UW
theorem Tn:DN prog 86 [(0,1),(1,1),(2,1),(3,1)] [.int .i64 0,.int .i64 0,.int .i64 0,.int .i64 0]:=DN.of underlying86 (λw=>by kernel_rfl) NQ
theorem Tt:Gv prog 123 [some .string,some .string]:=Gv.of underlying123 (by kernel_rfl) (by kernel_rfl)<|by exact⟨rfl,rfl,underlying9,rfl,rfl,underlying9,trivial⟩
theorem mK:Gv prog 129 [some<|.int .i64,some<|.int .i64,some<|.int .i64,some<|.int .i64,some<|.int .i64,some .string,some .string,some .string]:=Gv.of underlying129 (by kernel_rfl) (by kernel_rfl)<|by exact⟨rfl,rfl,underlying3,rfl,rfl,underlying3,rfl,rfl,underlying3,rfl,rfl,underlying3,rfl,rfl,underlying3,rfl,rfl,underlying9,rfl,rfl,underlying9,rfl,rfl,underlying9,trivial⟩
theorem UA:Gv prog 86 [some<|.int .i64,some<|.int .i64,some<|.int .i64,some<|.int .i64]:=Gv.of underlying86 (by kernel_rfl) (by kernel_rfl)<|by exact⟨rfl,rfl,underlying3,rfl,rfl,underlying3,rfl,rfl,underlying3,rfl,rfl,underlying3,trivial⟩
theorem EV:An prog 103 0 0:=An.of underlying103 rfl rfl Cp<|by decide
theorem LW:An prog 103 1 1:=An.of underlying103 rfl rfl Cp<|by decide
theorem Hj:An prog 103 2 2:=An.of underlying103 rfl rfl Id<|by decide
theorem JO:An prog 103 3 3:=An.of underlying103 rfl rfl Jp<|by decide
theorem EX:An prog 123 0 0:=An.of underlying123 rfl rfl Id<|by decide
theorem Ii:An prog 123 1 1:=An.of underlying123 rfl rfl Id<|by decide
theorem Hm:An prog 129 0 0:=An.of underlying129 rfl rfl Cp<|by decide
theorem Jt:An prog 129 1 1:=An.of underlying129 rfl rfl Cp<|by decide
theorem FO:An prog 129 2 2:=An.of underlying129 rfl rfl Cp<|by decide
theorem FF:An prog 129 3 3:=An.of underlying129 rfl rfl Cp<|by decide
theorem GZ:An prog 129 4 4:=An.of underlying129 rfl rfl Cp<|by decide
theorem LH:An prog 129 5 5:=An.of underlying129 rfl rfl Id<|by decide
theorem LQ:An prog 129 6 6:=An.of underlying129 rfl rfl Id<|by decide
theorem If:An prog 129 7 7:=An.of underlying129 rfl rfl Id<|by decide
theorem SI:An prog 150 0 0:=An.of underlying150 rfl rfl VF<|by decide
theorem Rj:An prog 150 1 1:=An.of underlying150 rfl rfl Te<|by decide
theorem XT:An prog 204 0 0:=An.of underlying204 rfl rfl O3<|by decide
theorem lL:An prog 204 1 1:=An.of underlying204 rfl rfl O3<|by decide
theorem B8:An prog 24 0 0:=An.of underlying24 rfl rfl W2<|by decide
theorem I3:An prog 38 0 0:=An.of underlying38 rfl rfl Cp<|by decide
theorem mZ:An prog 38 1 1:=An.of underlying38 rfl rfl Cp<|by decide
theorem P2:An prog 38 2 2:=An.of underlying38 rfl rfl OM<|by decide
theorem Fp:An prog 44 0 0:=An.of underlying44 rfl rfl Cp<|by decide
theorem F3:An prog 44 1 1:=An.of underlying44 rfl rfl Cp<|by decide
theorem DS:An prog 44 2 2:=An.of underlying44 rfl rfl Q4<|by decide
theorem Dx:An prog 44 3 3:=An.of underlying44 rfl rfl SC<|by decide
theorem Dp:An prog 47 0 0:=An.of underlying47 rfl rfl Cp<|by decide
theorem CT:An prog 47 1 1:=An.of underlying47 rfl rfl Cp<|by decide
theorem Kz:An prog 47 2 2:=An.of underlying47 rfl rfl Jp<|by decide
theorem EH:An prog 47 3 3:=An.of underlying47 rfl rfl SD<|by decide
theorem DF:An prog 47 4 4:=An.of underlying47 rfl rfl Mw<|by decide
theorem Fw:An prog 47 5 8:=An.of underlying47 rfl rfl SX<|by decide
theorem Fy:An prog 60 0 0:=An.of underlying60 rfl rfl Cp<|by decide
theorem Dh:An prog 60 1 1:=An.of underlying60 rfl rfl Cp<|by decide
theorem OI:An prog 60 2 2:=An.of underlying60 rfl rfl Jp<|by decide
theorem DT:An prog 66 0 0:=An.of underlying66 rfl rfl Cp<|by decide
theorem bY:An prog 66 1 1:=An.of underlying66 rfl rfl Cp<|by decide
theorem G9:An prog 66 2 2:=An.of underlying66 rfl rfl OM<|by decide
theorem Dg:An prog 84 0 0:=An.of underlying84 rfl rfl Cp<|by decide
theorem Dt:An prog 84 1 1:=An.of underlying84 rfl rfl Cp<|by decide
theorem HK:An prog 84 2 2:=An.of underlying84 rfl rfl Id<|by decide
theorem DG:An prog 84 3 3:=An.of underlying84 rfl rfl Cp<|by decide
theorem Fv:An prog 84 4 4:=An.of underlying84 rfl rfl Jp<|by decide
theorem CV:An prog 86 0 0:=An.of underlying86 rfl rfl Cp<|by decide
theorem Cv:An prog 86 1 1:=An.of underlying86 rfl rfl Cp<|by decide
theorem Gg:An prog 86 2 2:=An.of underlying86 rfl rfl Cp<|by decide
theorem GB:An prog 86 3 3:=An.of underlying86 rfl rfl Cp<|by decide
theorem Bh:By prog 22 47 9 152:=By.of underlying22 La rfl rfl<|by decide
theorem BL:By prog 26 3 1 8:=By.of underlying26 Cp rfl rfl<|by decide
theorem H4:By prog 35 38 3 24:=By.of underlying35 Sj rfl rfl<|by decide
theorem BA:By prog 39 123 2 32:=By.of underlying39 Mc rfl rfl<|by decide
theorem B1:By prog 40 60 3 40:=By.of underlying40 KM rfl rfl<|by decide
theorem Bm:By prog 41 84 5 64:=By.of underlying41 Pd rfl rfl<|by decide
theorem CW:By prog 42 86 4 32:=By.of underlying42 NQ rfl rfl<|by decide
theorem Dq:By prog 45 129 8 88:=By.of underlying45 Po rfl rfl<|by decide
theorem BP:By prog 97 103 4 56:=By.of underlying97 L5 rfl rfl<|by decide
theorem mO:IN prog 47 [.int .i64 0,.int .i64 0,.sl [],.sl [],.int .i64 0,.int .i64 0,.sl [],.sl [],.sl []]:=IN.of La rfl
theorem Zy:IN prog 60 [.int .i64 0,.int .i64 0,.sl []]:=IN.of KM rfl
theorem PF:BQ prog 146:=BQ.of underlying146 rfl RE
theorem Qg:BQ prog 147:=BQ.of underlying147 rfl VF
theorem Qz:BQ prog 148:=BQ.of underlying148 rfl Te
theorem Ut:BQ prog 152:=BQ.of underlying152 rfl Ro
theorem B6:BQ prog 22:=BQ.of underlying22 rfl W2
theorem Ri:BQ prog 26:=BQ.of underlying26 rfl Ql
theorem AI:BQ prog 3:=BQ.of underlying3 rfl Cp
theorem Ca:BQ prog 39:=BQ.of underlying39 rfl Jp
theorem Em:BQ prog 4:=BQ.of underlying4 rfl OM
theorem EN:BQ prog 40:=BQ.of underlying40 rfl SD
theorem Dc:BQ prog 41:=BQ.of underlying41 rfl Q4
theorem EB:BQ prog 42:=BQ.of underlying42 rfl SC
theorem GM:BQ prog 45:=BQ.of underlying45 rfl SX
theorem Rn:BQ prog 5:=BQ.of underlying5 rfl O3
theorem bR:BQ prog 63:=BQ.of underlying63 rfl jG
theorem E0:BQ prog 67:=BQ.of underlying67 rfl RB
theorem G3:BQ prog 68:=BQ.of underlying68 rfl Rr
theorem BE:BQ prog 9:=BQ.of underlying9 rfl Id
theorem Qy:BQ prog 97:=BQ.of underlying97 rfl SV
theorem dE:Re prog 202 256 5 1:=⟨underlying202,DA O3⟩
theorem am:Re prog 205 16 204 2:=⟨underlying205,DA P1⟩
theorem KP:∃i,prog.info? 103=some i∧i.size=4:=DA L5
theorem Ub:∃i,prog.info? 123=some i∧i.size=2:=DA Mc
theorem QJ:∃i,prog.info? 129=some i∧i.size=8:=DA Po
theorem hU:∃i,prog.info? 146=some i∧i.size=1:=DA RE
theorem cP:∃i,prog.info? 152=some i∧i.size=1:=DA Ro
theorem gU:∃i,prog.info? 204=some i∧i.size=2:=DA P1
theorem OF:∃i,prog.info? 24=some i∧i.size=1:=DA QQ
theorem lT:∃i,prog.info? 26=some i∧i.size=1:=DA Ql
theorem Jq:∃i,prog.info? 39=some i∧i.size=1:=DA Jp
theorem Wv:∃i,prog.info? 4=some i∧i.size=1:=DA OM
theorem jw:∃i,prog.info? 40=some i∧i.size=1:=DA SD
theorem YY:∃i,prog.info? 41=some i∧i.size=1:=DA Q4
theorem jF:∃i,prog.info? 42=some i∧i.size=1:=DA SC
theorem U3:∃i,prog.info? 44=some i∧i.size=4:=DA Mw
theorem il:∃i,prog.info? 45=some i∧i.size=1:=DA SX
theorem Gw:∃i,prog.info? 47=some i∧i.size=9:=DA La
theorem LL:∃i,prog.info? 60=some i∧i.size=3:=DA KM
theorem SE:∃i,prog.info? 67=some i∧i.size=1:=DA RB
theorem My:∃i,prog.info? 68=some i∧i.size=1:=DA Rr
theorem GO:∃i,prog.info? 84=some i∧i.size=5:=DA Pd
theorem Fc:∃i,prog.info? 86=some i∧i.size=4:=DA NQ
theorem UC:∃i,prog.info? 97=some i∧i.size=1:=DA SV
@[reducible] def qa(l:List AG):AV:=.r<|.sl<|l.map AG.row
@[reducible] def qb(l:List AX):AV:=.r<|.sl<|l.map AX.row
@[reducible] def qc(l:List Am):AV:=.r<|.sl<|l.map Am.row
@[reducible] def qd(l:List Ak):AV:=.r<|.sl<|l.map Ak.row
@[reducible] def qe(l:List AP):AV:=.r<|.sl<|l.map AP.row
@[reducible] def qf(l:List Au):AV:=.r<|.sl<|l.map Au.row
@[reducible] def qg(l:List AB):AV:=.r<|.sl<|l.map AB.row
@[reducible] def qh(l:List Ac):AV:=.r<|.sl<|l.map Ac.row
set_option linter.defProp false
@[reducible] def SN:List AV:=[rI<|1,rI<|0,.cst<|.slice none 0 0,.r<|.sl<|[(AP.mk 0 2 [])].map AP.row,rI<|0,rI<|0,.cst<|.slice none 0 0,.cst<|.slice none 0 0,.cst<|.slice none 0 0]
@[reducible] def FT:List AV:=[rI<|0,rI<|0,.cst<|.slice none 0 0,.cst<|.slice none 0 0,rI<|0,rI<|0,.cst<|.slice none 0 0,.cst<|.slice none 0 0,.cst<|.slice none 0 0]
@[reducible] def Io(x:AX):List AV:=[.agg [rI<|x.ID,rI<|x.Kind,qa x.Attrs,qe x.Flow,rI<|x.Grid.Rows,rI<|x.Grid.Cols,qc x.Grid.Cells,qd x.Grid.Merges,qf x.Draw]]
@[reducible] def fg(x:Au):List AV:=[.agg [rI<|x.Clock,rI<|x.Site,rI<|x.Kind,rI<|x.Item,rI<|x.Parent,.r<|.str x.Place,.r<|.str x.Name,.r<|.str x.Value]]
@[reducible] def At(x:AX):List AV:=[rI<|x.ID,rI<|x.Kind,qa x.Attrs,qe x.Flow,rI<|x.Grid.Rows,rI<|x.Grid.Cols,qc x.Grid.Cells,qd x.Grid.Merges,qf x.Draw]
@[reducible] def BX(x:Au):List AV:=[rI<|x.Clock,rI<|x.Site,rI<|x.Kind,rI<|x.Item,rI<|x.Parent,.r<|.str x.Place,.r<|.str x.Name,.r<|.str x.Value]
@[reducible] def PE:List AV:=[rI<|0,rI<|0,rI<|0,rI<|0,rI<|0,.r<|.str [],.r<|.str [],.r<|.str []]
@[reducible] def Tk(x:Am):List AV:=[.agg [rI<|x.Row,rI<|x.Col,.r<|.str x.Text,rI<|x.Ref,qa x.Attrs]]
@[reducible] def BN(x:Am):List AV:=[rI<|x.Row,rI<|x.Col,.r<|.str x.Text,rI<|x.Ref,qa x.Attrs]
@[reducible] def PJ:List AV:=[rI<|0,rI<|0,.cst<|.slice none 0 0,.cst<|.slice none 0 0]
@[reducible] def GD:List AV:=[rI<|0,rI<|0,.r<|.str [],rI<|0,.cst<|.slice none 0 0]
@[reducible] def CB(x:AB):List AV:=[rI<|x.Item,rI<|x.Parent,.r<|.str x.Place,qa x.Attrs]
@[reducible] def Qo(x:A5):List AV:=[.agg [rI<|x.Rows,rI<|x.Cols,qc x.Cells,qd x.Merges]]
@[reducible] def Kc:List AV:=[rI<|0,rI<|0,.r<|.str [],.cst<|.slice none 0 0]
@[reducible] def Bs(x:A5):List AV:=[rI<|x.Rows,rI<|x.Cols,qc x.Cells,qd x.Merges]
@[reducible] def A3(x:Ak):List AV:=[rI<|x.Row,rI<|x.Col,rI<|x.H,rI<|x.W]
@[reducible] def V5(x:AP):List AV:=[.agg [rI<|x.Char,rI<|x.Ref,qa x.Attrs]]
@[reducible] def Bj(x:Ab):List AV:=[rI<|x.id,rI<|x.parent,rB<|x.visible]
@[reducible] def En(x:Ac):List AV:=[rI<|x.ID,rI<|x.Parent,rB<|x.Visible]
@[reducible] def L3:List AV:=[rI<|10,rI<|0,.cst<|.slice none 0 0]
@[reducible] def Ns:List AV:=[rI<|0,rI<|2,.cst<|.slice none 0 0]
@[reducible] def Mf:List AV:=[rI<|0,rI<|0,.cst<|.slice none 0 0]
@[reducible] def CA(x:AG):List AV:=[.r<|.str x.Name,.r<|.str x.Value]
@[reducible] def CF(x:AP):List AV:=[rI<|x.Char,rI<|x.Ref,qa x.Attrs]
@[reducible] def Ek:List AV:=[rI<|0,rI<|0,rI<|0,rI<|0]
@[reducible] def nV{T r:Int}{x:Exit}{s:St}{j:ResultVar}:=@CG Int prog T r x s j λr=>rI r
@[reducible] def nb{T r:Bool}{x:Exit}{s:St}{j:ResultVar}:=@CG Bool prog T r x s j λr=>rB r
@[reducible] def yI:=@Vp prog
@[reducible] def yB:=@TO prog
@[reducible] def Za:=@trivial
@[reducible] def Zc:=@AW.skip
@[reducible] def Zf:=@AW.block
@[reducible] def Zg:=@n8
@[reducible] def Zh:=@AL.nil
@[reducible] def Zi:=@AW.ret
@[reducible] def Zj:=@XG
@[reducible] def Zm:=@AW.exit
@[reducible] def Zq:=@pF
@[reducible] def Zr:=@Oo.mk
@[reducible] def Zv:=@mx
@[reducible] def Zw:=@XC
@[reducible] def Zx:=@Ae.trans
@[reducible] def Zz:=@XA
@[reducible] def ZA:=@N6.mk
@[reducible] def ZG:=@Lh.mk
@[reducible] def R:=@rfl
theorem W1{r}(h:O4=some r):AZ prog 18 [] (.agg [qb r.Nodes]):=by
 unfold O4 at h
 refine mF func18 ntmps18 R λj=>aU<|sS R (BB (cs:=[cZ]) 0 R QW R R)<|aZ<|aT λl=>aR ?_
 refine sQ R (Bq R Ll (q:=[(1,_)]) (by exact⟨R,R,R,iL,Za⟩) (cs:=Ns)<|by rfl) ?_
 refine sS R (Bo 2 R B1 (f:=AP.row) (l:=([(AP.mk 0 2 [])]:List AP)) ⟨R,⟨_,iL,R⟩,Za⟩ R (λ_=>R) R) ?_
 refine sQ R (Bq R QZ (q:=[(0,_),(1,_),(3,_)]) (by exact⟨R,R,R,iL,R,R,R,iL,R,R,R,iL,Za⟩) (cs:=[rI 1,rI 0,cZ,.own 2<|j+1,rI 0,rI 0,cZ,cZ,cZ])<|by rfl) ?_
 refine sQ R (Bq R Ll (q:=[(0,_)]) (by exact⟨R,R,R,iL,Za⟩) (cs:=L3)<|by rfl) ?_
 refine sS R (Bo 5 R B1 (f:=AP.row) (l:=([(AP.mk 10 0 [])]:List AP)) ⟨R,⟨_,iL,R⟩,Za⟩ R (λ_=>R) R) ?_
 refine sQ R (Bq R QZ (q:=[(0,_),(1,_),(3,_)]) (by exact⟨R,R,R,iL,R,R,R,iL,R,R,R,iL,Za⟩) (cs:=[rI 2,rI 1,cZ,.own 5<|j+2,rI 0,rI 0,cZ,cZ,cZ])<|by rfl) ?_
 refine AL.weak (by exact Ae.frz (e':=[(0,.ptr 0 j 0 0),(1,.agg Ns),(2,.r<|.sl<|[(AP.mk 0 2 [])].map AP.row),(3,.agg SN),(4,.agg L3),(5,.own 5<|j+2),(6,.agg [rI 2,rI 1,cZ,.own 5<|j+2,rI 0,rI 0,cZ,cZ,cZ])]) (h':=[(0,some<|.box j 24 [cZ]),(5,some<|.arr (j+2) 60 3<|[(AP.mk 10 0 [])].map AP.row)]) 2 R ⟨jL,jL,.inl<|.inr<|.inr ⟨R,R⟩,.inr ⟨_,_,R,R,⟨.inl R,.inl R,.inl R,.inr<|.inr ⟨R,R⟩,.inl R,.inl R,.inl R,.inl R,.inl R,Za⟩⟩,jL,jL,jL,Za⟩ ⟨R,.inl R,R,.inl R,Za⟩) ?_
 refine AL.weak (by exact Ae.frz (e':=[(0,.ptr 0 j 0 0),(1,.agg Ns),(2,.r<|.sl<|[(AP.mk 0 2 [])].map AP.row),(3,.agg SN),(4,.agg L3),(5,.r<|.sl<|[(AP.mk 10 0 [])].map AP.row),(6,.agg [rI 2,rI 1,cZ,.r<|.sl<|[(AP.mk 10 0 [])].map AP.row,rI 0,rI 0,cZ,cZ,cZ])]) (h':=[(0,some<|.box j 24 [cZ])]) 5 R ⟨jL,jL,jL,jL,jL,.inl<|.inr<|.inr ⟨R,R⟩,.inr ⟨_,_,R,R,⟨.inl R,.inl R,.inl R,.inr<|.inr ⟨R,R⟩,.inl R,.inl R,.inl R,.inl R,.inl R,Za⟩⟩,Za⟩ ⟨R,.inl R,Za⟩) ?_
 refine sS R (Bo 7 R Bh (f:=AX.row) (l:=([(AX.mk 1 0 [] [(AP.mk 0 2 [])] (A5.mk 0 0 [] []) []),(AX.mk 2 1 [] [(AP.mk 10 0 [])] (A5.mk 0 0 [] []) [])]:List AX)) ⟨R,⟨_,iL,R⟩,R,⟨_,iL,R⟩,Za⟩ R (λ_=>R) R) ?_
 refine sQ R (Bq R SB (q:=[(0,_)]) (by exact⟨R,R,R,iL,Za⟩) (cs:=[.own 7<|j+3])<|by rfl) ?_
 refine Zj R R (Az (ds:=[.own 7<|j+3]) R OF iL R iL R R R R)<|oZ l ?_
 exact Zi<|CG (P:=prog) (λ(r:AN)=>.agg [qb r.Nodes]) h iL<|.a B7 R R R<|.agg<|by exact⟨.own R,Za⟩
theorem W3{j r}(h:KQ j=some r):AZ prog 130 [rS j] (rB r):=by
 unfold KQ at h
 refine mF func130 ntmps130 R λn0=>aU<|mA R<|aZ<|aT λC2=>aU<|mM R<|sQ R (E5 R iL iL)<|mM R<|vM R<|vQ R (Db R underlying9<|iR R)<|vQ R (BY R (iR R) iL)<|xO R<|mM R<|vM R<|AE h λa0 l h1=>vQ R (CP R underlying9 (iR R) iL<|Af l)<|vQ R (Bz R (iR R) iL)<|xO R<|mM R<|vM R<|AE h1 λa1 m h2=>vQ R (CP R underlying9 (iR R) iL<|Af m)<|vQ R (BY R (iR R) iL)<|xO R<|aZ<|cI R h2 (λB=>?_) λB=>?_
 ·exact zB B R id
 refine Zc<|C2 _<|aS λK5 C5 C=>aT λC6=>aF [0] ?_
 refine aR<|mM R<|sQ R (Db R underlying9 iL)<|mM R<|aZ<|C6 _<|Zf<|BI B λo1 q E F=>?_
 have J1:∀(X:Unit) (Z:NN),o1=.nrm X→K5 ⟨[],[],(Z 0),53⟩:=by
  intro X Z e
  have h4:=E _ e
  exact C5 _<|zB h4 R id
 refine Zv (λ(I:Int) A=>⟨[(0,rS j),(23,rL j),(24,rI I)],[],(A 0),53⟩) (AH [n0]) q wk ?_
 intro I A v1 J w
 have h5:Ld j I=some v1:=J;unfold Ld at h5
 refine aU<|xS R<|aZ<|aT λC9=>cI R h5 (λM=>?_) λM=>?_
 ·refine Zc<|C9 _<|aT λO=>Zf<|aU<|mM R<|mA R<|aZ<|aU<|mM R<|mM R<|AE M λc1 T h7=>sQ R (CP R underlying9 iL iL λ_=>T)<|mA R<|aZ<|aU<|mM R<|xS R<|mM R<|vM R<|vQ R (BY R (iR R) iL)<|xO R<|mM R<|vM R<|vQ R (Bz R (iR R) iL)<|vQ R (AK R<|iR R)<|wQ R (AK R iL)<|wQ R (BY R (iR R) iL)<|vQ R (Ct R (iR R)<|iR R)<|xN R<|mM R<|vM R<|vQ R (DK R (iR R) iL)<|xN R<|mM R<|vM R<|vQ R (DK R (iR R) iL)<|xN R<|aZ<|cI R h7 (λU=>?_) λU=>?_
  ·exact zB (F _<|xH w U) R id
  refine Zc<|O _<|aF [0,23,24] ?_
  exact aR<|AE U λx4 V h9=>xA R V<|mM R<|Zh<|Zr h9 (AH [(A 0)]) wk
 exact Zm<|C _ _ wk<|J1 _ (AH [(A 0)])<|xH w M
theorem UJ{l r}(h:Ke l=some r):AZ prog 131 [rS l] (rB r):=by
 unfold Ke at h
 refine mF func131 ntmps131 R λZ=>aU<|mA R<|aZ<|aT λc2=>aU<|mM R<|sQ R (E5 R iL iL)<|mM R<|vM R<|vQ R (Db R underlying9<|iR R)<|vQ R (BY R (iR R) iL)<|xO R<|aZ<|cI R h (λA=>?_) λA=>?_
 ·exact zB A R id
 refine Zc<|c2 _<|aS λK5 c5 B=>aU<|mM R<|sQ R (Db R underlying9 iL)<|mM R<|aZ<|Zf<|BI A λo1 m C E=>?_
 have J1:∀(U:Unit) (V:NN),o1=.nrm U→K5 ⟨[],[],(V 0),27⟩:=by
  intro U V e
  have h2:=C _ e
  exact c5 _<|zB h2 R id
 refine Zv (λ(F:Int) w=>⟨[(0,rS l),(12,rL l),(13,rI F)],[],(w 0),27⟩) (AH [Z]) m wk ?_
 intro F w v1 I q
 have X:ON l F=some v1:=I;unfold ON at X
 refine aU<|xS R<|aZ<|aT λc9=>cI R X (λJ=>?_) λJ=>?_
 ·refine Zc<|c9 _<|aT λM=>Zf<|aU<|mM R<|mA R<|aZ<|aU<|mM R<|mM R<|AE J λa0 j h5=>sQ R (CP R underlying9 iL iL λ_=>j)<|xS R<|mM R<|vM R<|vM R<|vQ R (CP R underlying9 (iR R) (iR R) λ_=>j)<|vQ R (BY R (iR R) iL)<|xO R<|aZ<|cI R h5 (λO=>?_) λO=>?_
  ·exact zB (E _<|xH q O) R id
  refine Zc<|M _<|aF [0,12,13] ?_
  exact aR<|AE O λx4 T h7=>xA R T<|mM R<|Zh<|Zr h7 (AH [(w 0)]) wk
 exact Zm<|B _ _ wk<|J1 _ (AH [(w 0)])<|xH q J
theorem dN{q b r}(h:MM q b=some r):AZ prog 100 [qa q,rB b] (rI r):=by
 unfold MM at h
 refine mF func100 ntmps100 R λn0=>aU<|mA R<|aZ<|aS λK2 c2 C=>aU<|mM R<|xL BA R<|mM R<|aZ<|Zf<|BI h λo1 w E l=>?_
 have J1:∀(u2:Unit) (i5:NN),o1=.nrm u2→K2 ⟨[],[],(i5 0),48⟩:=by
  intro u2 i5 e
  have h1:=E _ e
  exact c2 _<|zI h1 R id
 refine Zv (λ(F:Int) A=>⟨[(0,qa q),(1,rB b),(7,qa q),(8,rL q),(9,rI F)],[],(A 0),48⟩) (AH [n0]) w wk ?_
 intro F A v1 I j
 have h2:Lc q b F=some v1:=I;unfold Lc at h2
 refine aU<|xS R<|aZ<|aT λc6=>cI R h2 (λJ=>?_) λJ=>?_
 ·refine Zc<|c6 _<|aT λc7=>Zf<|aU<|mM R<|AE J λB M h4=>xI BA R M<|xB ((CA B)) EG R<|sS R (BB (cs:=[.r<|.str [],.r<|.str []]) 6 R Vm R R)<|mA R<|Zj R R (Az (ds:=(CA B)) R Ub iL R iL R R R R)<|aZ<|Zf<|aU<|lF EX BE R R<|AE h4 λr1 O h5=>cL (W3<|O) R<|sQ R (A4 R iL)<|mA R<|aZ<|cI R h5 (λT=>?_) λT=>?_
  ·exact zI (l _<|xH j T) R id
  refine aT λU=>aG [0,1,5,6,7,8,9] [6] ?_
  refine aR<|lF Ii BE R R<|AE T λr2 V h7=>cL (UJ<|V) R<|sQ R (A4 R iL)<|mM R<|vM R<|vQ R (AK R<|iR R)<|wQ R (fB R Ii iL fR R)<|wQ R (AU (a:=rS B.Value) R BE (iR R) R R)<|wQ R (E5 R (iR R) iL)<|vQ R (BK R (iR R)<|iR R)<|vQ R (A4 R<|iR R)<|xN R<|mA R<|aZ<|U _<|cI R h7 (λX=>?_) λX=>?_
  ·exact zI (l _<|xH j X) R id
  refine aT λZ=>?_
  refine Zz BV (by kernel_rfl) ?_
  refine qP R (AK R iL)<|qP R (BY R iL iL)<|qP R (AK R iL)<|qO R (fB R EX iL fR R)<|qO R (AU (a:=rS B.Name) R BE (iR R) R R)<|qO R (AK R iL)<|qO R (AK R iL)<|AE X λx5 a0 h9=>qO R (CQ R (iR R) iL<|Af a0)<|AE h9 λx6 a1 a2=>qO R (A9 R BA.slice (iR R) (iR R) (λ_=>R)<|Af a1)<|qO R (BH R EX<|iR R)<|qO R (Bc (d:=.str x6.Name) R BE (iR R) R)<|qO R (iP R (iR R)<|iR R)<|qP R (BK R iL<|iR R)<|qP R (EF R iL)<|AQ.nil<|Z _<|cI R a2 (λm=>?_) λm=>?_
  ·exact zI (l _<|xH j m) R id
  refine Zc<|c7 _<|aF [0,1,7,8,9] ?_
  exact aR<|AE m λx7 a6 a7=>xA R a6<|mM R<|Zh<|Zr a7 (AH [((A 0)+1)]) wk
 exact Zm<|C _ _ wk<|J1 _ (AH [(A 0)])<|xH j J
theorem Ru{l r}(h:I1 l=some r):AZ prog 67 [qa l] (rI r):=by
 unfold I1 at h
 exact mF func67 ntmps67 R λq=>aU<|mA R<|aZ<|aU<|mM R<|AE h λw j m=>cL (dN<|j) R<|mA R<|aZ<|Zi<|yI m R
theorem Vi{k r}(h:Gl k=some r):AZ prog 68 [rI k] (rB r):=by
 unfold Gl at h
 exact mF func68 ntmps68 R λj=>aU<|mA R<|aZ<|aU<|mM R<|xQ R<|mM R<|vM R<|vQ R (A8 R (iR R) iL)<|xO R<|mM R<|vM R<|vQ R (A8 R (iR R) iL)<|xO R<|mM R<|vM R<|vQ R (A8 R (iR R) iL)<|xO R<|mA R<|aZ<|Zi<|yB h R
theorem lQ{k r}(h:GG k=some r):AZ prog 69 [rI k] (rB r):=by
 unfold GG at h
 exact mF func69 ntmps69 R λj=>aU<|mA R<|aZ<|aU<|mM R<|xQ R<|mM R<|vM R<|vQ R (A8 R (iR R) iL)<|xO R<|mA R<|aZ<|Zi<|yB h R
theorem lI{k r}(h:FP k=some r):AZ prog 70 [rI k] (rB r):=by
 unfold FP at h
 exact mF func70 ntmps70 R λj=>aU<|mA R<|aZ<|aU<|mM R<|xQ R<|mM R<|vM R<|vQ R (A8 R (iR R) iL)<|xO R<|mA R<|aZ<|Zi<|yB h R
theorem jW{s a r}(h:Mr s a=some r):AZ prog 101 [qd s,qd a] (rB r):=by
 unfold Mr at h
 refine mF func101 ntmps101 R λn0=>aU<|mA R<|aZ<|aT λc2=>aU<|mM R<|xL CW R<|mM R<|xL CW R<|xU R<|aZ<|cI R h (λq=>?_) λq=>?_
 ·exact zB q R id
 refine Zc<|c2 _<|aS λK5 c5 w=>aU<|mM R<|xL CW R<|mM R<|aZ<|Zf<|BI q λo1 j A B=>?_
 have J1:∀(V:Unit) (X:NN),o1=.nrm V→K5 ⟨[],[],(X 0),26⟩:=by
  intro V X e
  have h2:=A _ e
  exact c5 _<|zB h2 R id
 refine Zv (λ(C:Int) m=>⟨[(0,qd s),(1,qd a),(12,rL s),(13,rI C)],[],(m 0),26⟩) (AH [n0]) j wk ?_
 intro C m v1 E l
 have Z:MR s a C=some v1:=E;unfold MR at Z
 refine aU<|xS R<|aZ<|aT λc9=>cI R Z (λF=>?_) λF=>?_
 ·refine Zc<|c9 _<|aT λI=>Zf<|aU<|mM R<|mA R<|aZ<|aT λJ=>?_
  refine Zz BV (by kernel_rfl) ?_
  refine qP R (AK R iL)<|qP R (AK R iL)<|AE F λx4 M h5=>qP R (A9 R CW.slice iL iL (λ_=>R) λ_=>M)<|qP R (Cf (cs:=(A3 x4)) R C3 iL R R)<|qP R (AK R iL)<|qP R (AK R iL)<|AE h5 λx5 O h6=>qP R (A9 R CW.slice iL iL (λ_=>R) λ_=>O)<|qP R (Cf (cs:=(A3 x5)) R C3 iL R R)<|qP R (NP R UA iL iL R)<|AQ.nil<|J _<|cI R h6 (λT=>?_) λT=>?_
  ·exact zB (B _<|xH l T) R id
  refine Zc<|I _<|aF [0,1,12,13] ?_
  exact aR<|AE T λx6 U h8=>xA R U<|mM R<|Zh<|Zr h8 (AH [(m 0)]) wk
 exact Zm<|w _ _ wk<|J1 _ (AH [(m 0)])<|xH l F
theorem fU{j q r}(h:KA j q=some r):AZ prog 132 [qa j,qa q] (rB r):=by
 unfold KA at h
 refine mF func132 ntmps132 R λn0=>aU<|mA R<|aZ<|aT λc2=>aU<|mM R<|xL BA R<|mM R<|xL BA R<|xU R<|aZ<|cI R h (λA=>?_) λA=>?_
 ·exact zB A R id
 refine Zc<|c2 _<|aS λK5 c5 B=>aU<|mM R<|xL BA R<|mM R<|aZ<|Zf<|BI A λo1 l C E=>?_
 have J1:∀(Z:Unit) (i5:NN),o1=.nrm Z→K5 ⟨[],[],(i5 0),26⟩:=by
  intro Z i5 e
  have h2:=C _ e
  exact c5 _<|zB h2 R id
 refine Zv (λ(F:Int) w=>⟨[(0,qa j),(1,qa q),(12,rL j),(13,rI F)],[],(w 0),26⟩) (AH [n0]) l wk ?_
 intro F w v1 I m
 have h3:NJ j q F=some v1:=I;unfold NJ at h3
 refine aU<|xS R<|aZ<|aT λc9=>cI R h3 (λJ=>?_) λJ=>?_
 ·refine Zc<|c9 _<|aT λM=>Zf<|aU<|mM R<|mA R<|aZ<|aT λO=>?_
  refine Zz BV (by kernel_rfl) ?_
  refine qP R (AK R iL)<|qP R (AK R iL)<|AE J λx4 T h5=>qP R (A9 R BA.slice iL iL (λ_=>R) λ_=>T)<|qP R (Cf (cs:=(CA x4)) R EG iL R R)<|qP R (AK R iL)<|qP R (AK R iL)<|AE h5 λx5 U h6=>qP R (A9 R BA.slice iL iL (λ_=>R) λ_=>U)<|qP R (Cf (cs:=(CA x5)) R EG iL R R)<|qP R (NP R Tt iL iL R)<|AQ.nil<|O _<|cI R h6 (λV=>?_) λV=>?_
  ·exact zB (E _<|xH m V) R id
  refine Zc<|M _<|aF [0,1,12,13] ?_
  exact aR<|AE V λx6 X h8=>xA R X<|mM R<|Zh<|Zr h8 (AH [(w 0)]) wk
 exact Zm<|B _ _ wk<|J1 _ (AH [(w 0)])<|xH m J
theorem ZY{j l r}(h:Nl j l=some r):AZ prog 103 [.agg<|BN j,.agg<|BN l] (rB r):=by
 unfold Nl at h
 exact mF func103 ntmps103 R λA=>aU<|sS R (Aw (cs:=(BN j)) 2 R iL R R)<|sS R (Aw (cs:=(BN l)) 3 R iL R R)<|mA R<|aZ<|aT λq=>aR<|lF Dg AI R R<|lF Dg AI R R<|xQ R<|mM R<|vF Dt AI R R<|vF Dt AI R R<|vQ R (A8 R (iR R)<|iR R)<|xN R<|mM R<|vF HK BE R R<|vF HK BE R R<|vQ R (E5 R (iR R)<|iR R)<|xN R<|mM R<|vF DG AI R R<|vF DG AI R R<|vQ R (A8 R (iR R)<|iR R)<|xN R<|mM R<|vF Fv Ca R R<|vF Fv Ca R R<|AE h λB m w=>vL (λhg=>fU<|Af m hg) R<|xN R<|mA R<|aZ<|q _<|Zi<|yB w R
theorem gS{s a r}(h:M2 s a=some r):AZ prog 102 [qc s,qc a,.fn 103 []] (rB r):=by
 unfold M2 at h
 refine mF func102 ntmps102 R λn0=>aU<|mA R<|aZ<|aT λc2=>aU<|mM R<|xL Bm R<|mM R<|xL Bm R<|xU R<|aZ<|cI R h (λq=>?_) λq=>?_
 ·exact zB q R id
 refine Zc<|c2 _<|aS λK5 c5 w=>aU<|mM R<|xL Bm R<|mM R<|aZ<|Zf<|BI q λo1 j A B=>?_
 have J1:∀(X:Unit) (Z:NN),o1=.nrm X→K5 ⟨[],[],(Z 0),32⟩:=by
  intro X Z e
  have h2:=A _ e
  exact c5 _<|zB h2 R id
 refine Zv (λ(C:Int) m=>⟨[(1,qc a),(2,.fn 103 []),(15,qc s),(16,rL s),(17,rI C)],[],(m 0),32⟩) (AH [n0]) j wk ?_
 intro C m v1 E l
 have h3:OL s a C=some v1:=E;unfold OL at h3
 refine aU<|xS R<|aZ<|aT λc9=>cI R h3 (λF=>?_) λF=>?_
 ·refine Zc<|c9 _<|aT λI=>Zf<|aU<|mM R<|AE F λx4 J h5=>xI Bm R J<|xB ((BN x4)) Dy R<|sS R (BB (cs:=GD) 8 R GE R R)<|mA R<|Zj R R (Az (ds:=(BN x4)) R GO iL R iL R R R R)<|aZ<|aU<|mM R<|mM R<|AE h5 λx5 M h6=>xI Bm R M<|xB ((BN x5)) Dy R<|sS R (BB (cs:=GD) 9 R GE R R)<|Zj R R (Az (ds:=(BN x5)) R GO iL R iL R R R R)<|aZ<|aT λO=>aG [1,2,8,9,15,16,17] [8,9] ?_
  refine aR<|mM R<|xC Dy R<|xC Dy R<|AE h6 λr1 T h7=>cL (ZY<|T) R<|sQ R (A4 R iL)<|aZ<|O _<|cI R h7 (λU=>?_) λU=>?_
  ·exact zB (B _<|xH l U) R id
  exact Zc<|I _<|aR<|AE U λx6 V h9=>xA R V<|mM R<|Zh<|Zr h9 (AH [((m 0)+2)]) wk
 exact Zm<|w _ _ wk<|J1 _ (AH [(m 0)])<|xH l F
theorem mR{j l r}(h:Jg j l=some r):AZ prog 71 [.agg<|Bs j,.agg<|Bs l] (rB r):=by
 unfold Jg at h
 exact mF func71 ntmps71 R λC=>aU<|sS R (Aw (cs:=(Bs j)) 2 R iL R R)<|sS R (Aw (cs:=(Bs l)) 3 R iL R R)<|mA R<|aZ<|aU<|lF Fp AI R R<|lF Fp AI R R<|xQ R<|mM R<|vF F3 AI R R<|vF F3 AI R R<|vQ R (A8 R (iR R)<|iR R)<|xN R<|mM R<|vF Dx EB R R<|vF Dx EB R R<|AE h λE m w=>vL (λhg=>jW<|Af m hg) R<|xN R<|mM R<|vF DS Dc R R<|vF DS Dc R R<|AE w λA q B=>AL.stepW (.one R R R) R R (DJ (r:=rB A) (caps:=[]) (bs:=[qc j.Cells,qc l.Cells,.fn 103 []]) R iL R ⟨⟨_,(iR R),.d R⟩,⟨_,(iR R),.d R⟩,⟨_,iL,.one<|.closed (.fn 103 []) R⟩,Za⟩ (λhg=>gS<|Af q hg) R)<|xN R<|mA R<|aZ<|Zi<|yB B R
theorem Qt{k r}(h:GC k=some r):AZ prog 72 [rI k] (rB r):=by
 unfold GC at h
 exact mF func72 ntmps72 R λj=>aU<|mA R<|aZ<|aU<|mM R<|xQ R<|mM R<|vM R<|vQ R (A8 R (iR R) iL)<|xO R<|mM R<|vM R<|vQ R (A8 R (iR R) iL)<|xO R<|mA R<|aZ<|Zi<|yB h R
theorem T3{j r}(h:Kb j=some r):AZ prog 133 [rI j] (rB r):=by
 unfold Kb at h
 exact mF func133 ntmps133 R λl=>aU<|mA R<|aZ<|aU<|mM R<|xQ R<|mM R<|vM R<|vQ R (A8 R (iR R) iL)<|xO R<|mM R<|vM R<|vQ R (Cw R (iR R) iL)<|vQ R (AK R<|iR R)<|wQ R (AK R iL)<|wQ R (Bz R (iR R) iL)<|vQ R (BK R (iR R)<|iR R)<|xO R<|mM R<|vM R<|vQ R (Cw R (iR R) iL)<|vQ R (AK R<|iR R)<|wQ R (AK R iL)<|wQ R (Bz R (iR R) iL)<|vQ R (BK R (iR R)<|iR R)<|xO R<|mM R<|vM R<|vQ R (BY R (iR R) iL)<|vQ R (AK R<|iR R)<|wQ R (AK R iL)<|wQ R (Ey R (iR R) iL)<|vQ R (BK R (iR R)<|iR R)<|xO R<|mA R<|aZ<|Zi<|yB h R
theorem kH{l r}(h:Ng l=some r):AZ prog 104 (V5 l) (rI r):=by
 unfold Ng at h
 refine mF func104 ntmps104 R λw=>aU<|sS R (Aw (cs:=(CF l)) 1 R iL R R)<|mA R<|aZ<|aT λT=>Zf<|aU<|lF Fy AI R R<|xU R<|lF Dh AI R R<|xU R<|sQ R (ft R underlying4 iL iL)<|mA R<|aZ<|cI R h (λA=>?_) λA=>?_
 ·exact zI A R id
 refine aS λU V m=>aT λX=>aG [1] [1] ?_
 refine aR<|lF Dh AI R R<|xQ R<|mM R<|vF Fy AI R R<|AE A λr1 B Z=>vL (λhg=>T3<|Af B hg) R<|vQ R (A4 R<|iR R)<|xN R<|mA R<|aZ<|X _<|Ba Z λp1 q C=>?_
 have M:∀(E:Bool) (O:NN),p1=E→U ⟨[(1,.ptr 1 w 0 0),(11,rB E)],[(1,some<|.box w 60<|CF l)],(O 0),37⟩:=by
  intro E O e
  have h3:=C _ e
  refine V _<|cI R h3 (λF=>?_) λF=>?_
  ·exact zI F R id
  exact Zc<|T _<|aU<|lF OI Ca R R<|AE F λr2 I h5=>cL (Ru<|I) R<|mA R<|aZ<|Zi<|yI h5 R
 refine aC R (λj=>?_) λj=>?_
 ·have J:=Cd j q
  exact Zc<|m _ _ wk<|M _ (AH [(w+1)]) (Zg J).symm
 ·have J:=CY j q
  refine aG [1] [1] ?_
  exact aR<|lF Dh AI R R<|xU R<|mM R<|vF Dh AI R R<|vQ R (Bz R (iR R) iL)<|vQ R (AK R<|iR R)<|wQ R (fB R Dh iL fR R)<|wQ R (AU (a:=rI l.Ref) R AI (iR R) R R)<|wQ R (BY R (iR R) iL)<|vQ R (Ct R (iR R)<|iR R)<|xN R<|mA R<|Zh<|m _ _ wk<|M _ (AH [(w+1)]) (Zg J).symm
theorem lR{j a r}(h:Fg j a=some r):AZ prog 73 [qe j,rB a] (rI r):=by
 unfold Fg at h
 refine mF func73 ntmps73 R λn0=>aU<|mA R<|aZ<|aS λK2 c2 B=>aU<|mM R<|xL B1 R<|mM R<|aZ<|Zf<|BI h λo1 q C w=>?_
 have J1:∀(u2:Unit) (i5:NN),o1=.nrm u2→K2 ⟨[(0,qe j),(1,rB a)],[],(i5 0),43⟩:=by
  intro u2 i5 e
  have h1:=C _ e
  refine c2 _<|aT λc4=>aU<|mM R<|mM R<|vM R<|vQ R (DM R B1.slice<|iR R)<|vQ R (A8 R (iR R) iL)<|vQ R (AK R<|iR R)<|wQ R (AK R iL)<|wQ R (AK R iL)<|wQ R (DM R B1.slice<|iR R)<|AE h1 λx4 E h2=>wQ R (CQ R (iR R) iL<|Af E)<|AE h2 λx5 F h3=>wQ R (A9 R B1.slice (iR R) (iR R) (λ_=>R)<|Af F)<|wQ R (BH R Fy<|iR R)<|wQ R (Bc (d:=.int .i64 x5.Char) R AI (iR R) R)<|wQ R (DK R (iR R) iL)<|vQ R (Ct R (iR R)<|iR R)<|xN R<|aZ<|cI R h3 (λI=>?_) λI=>?_
  ·exact zI I R id
  exact Zc<|c4 _<|zI I R id
 refine Zv (λ(J:Int) A=>⟨[(0,qe j),(1,rB a),(8,qe j),(9,rL j),(10,rI J)],[],(A 0),43⟩) (AH [n0]) q wk ?_
 intro J A v1 M l
 have h5:KD j a J=some v1:=M;unfold KD at h5
 refine aU<|xS R<|aZ<|aT λc9=>cI R h5 (λO=>?_) λO=>?_
 ·refine Zc<|c9 _<|aT λT=>Zf<|aU<|AE O λx6 U h7=>xI B1 R U<|xB ((CF x6)) IA R<|sS R (BB (cs:=Mf) 6 R MT R R)<|Zj R R (Az (ds:=(CF x6)) R LL iL R iL R R R R)<|aZ<|aT λV=>aU<|xC IA R<|AE h7 λe1 X h8=>cL (kH<|X) R<|mA R<|aZ<|aU<|mM R<|xU R<|aZ<|cI R h8 (λZ=>?_) λZ=>?_
  ·refine aT λa0=>aF [7] ?_
   exact aR<|mM R<|mA R<|aZ<|a0 _<|Zi<|yI (w _<|xH l Z) R
  refine Zc<|V _<|aU<|mM R<|sQ R (A4 R iL)<|mM R<|vF Dh AI R R<|vQ R (A8 R (iR R) iL)<|xN R<|aZ<|cI R Z (λm=>?_) λm=>?_
  ·exact zI (w _<|xH l m) R id
  refine Zc<|T _<|aF [0,1,8,9,10] ?_
  exact aR<|AE m λx7 a1 a2=>xA R a1<|mM R<|Zh<|Zr a2 (AH [((A 0)+1)]) wk
 exact Zm<|B _ _ wk<|J1 _ (AH [(A 0)])<|xH l O
theorem jh{s1 r}(h:NF s1=some r):AZ prog 174 [rS s1] (.tup [.r<|.int .i32 r.1,rI r.2]):=by
 unfold NF at h
 refine mF func174 ntmps174 R λn0=>aU<|mA R<|mA R<|aZ<|aU<|mM R<|sQ R (Db R underlying9 iL)<|mA R<|aZ<|aT λc3=>aU<|mM R<|xS R<|aZ<|cI R h (λE=>?_) λE=>?_
 ·exact aU<|mA R<|mA R<|aZ<|Zi<|EP (P:=prog) (λ(r:Int × Int)=>.r<|.int .i32 r.1) (λ(r:Int × Int)=>rI r.2) E iL (.t<|.d R)<|.t<|.d R
 refine Zc<|c3 _<|aU<|mM R<|AE E λag j h2=>sQ R (CP R underlying9 iL iL λ_=>j)<|mA R<|aZ<|aT λc7=>aR<|mM R<|AE h2 λx1 F h3=>?_
 refine sQ R (Tc (f:=(AY .u8)) (l:=Fx) R dE lv (by kernel_rfl) iL (λ_=>R) (by decide) λ_=>F) ?_
 refine xV (.int .u8 x1) Rn R<|mA R<|aZ<|c7 _<|aT λc8=>aT λc9=>aF [0,4,5,6] ?_
 refine aR<|mM R<|sQ R (Cw R iL iL)<|aZ<|c9 _<|cI R h3 (λI=>?_) λI=>?_
 ·refine aU<|mM R<|sQ R (D8 R underlying5 underlying21 iL)<|sQ R (I8 (b:=31) R iL iL)<|sQ R (RR (b:=31) R iL iL)<|mA R<|aZ<|aT λJ=>aF [0,7] ?_
  exact aR<|mM R<|sQ R (CP R underlying9 iL iL λ_=>j)<|sQ R (D8 R underlying5 underlying21 iL)<|mM R<|sQ R (ap R iL iL)<|mM R<|sQ R (Gi R iL iL)<|sQ R (Jr R iL iL)<|mA R<|mA R<|aZ<|J _<|Zi<|EP (P:=prog) (λ(r:Int × Int)=>.r<|.int .i32 r.1) (λ(r:Int × Int)=>rI r.2) I iL (.t<|.d R)<|.t<|.d R
 refine Zc<|c8 _<|aU<|mM R<|sQ R (Gi R iL iL)<|sQ R (D8 R underlying5 underlying3 iL)<|mA R<|aZ<|aT λM=>aR<|mM R<|sQ R (RR (b:=4) R iL iL)<|AE I λC O h5=>?_
 refine sQ R (Tc (f:=Ha.row) (l:=PX) R am gk (by kernel_rfl) iL (λ_=>R) (by decide) λ_=>O) ?_
 refine xB ([.r<|.int .u8 C.lo,.r<|.int .u8 C.hi]) mI R<|sS R (BB (cs:=[.r<|.int .u8 0,.r<|.int .u8 0]) 9 R ji R R)<|Zj R R (Az (ds:=[.r<|.int .u8 C.lo,.r<|.int .u8 C.hi]) R gU iL R iL R R R R)<|aZ<|M _<|aT λT=>aT λU=>aG [0,4,5,8,9] [9] ?_
 refine aR<|mM R<|mM R<|xS R<|aZ<|U _<|cI R h5 (λV=>?_) λV=>?_
 ·exact aU<|mA R<|mA R<|aZ<|Zi<|EP (P:=prog) (λ(r:Int × Int)=>.r<|.int .i32 r.1) (λ(r:Int × Int)=>rI r.2) V iL (.t<|.d R)<|.t<|.d R
 refine Zc<|T _<|aU<|mM R<|AE V λah w h7=>sQ R (CP R underlying9 iL iL λ_=>w)<|mA R<|aZ<|aT λX=>aU<|mM R<|lF XT Rn R R<|xS R<|mM R<|vF lL Rn R R<|vM R<|vQ R (Bz R (iR R)<|iR R)<|xO R<|aZ<|cI R h7 (λZ=>?_) λZ=>?_
 ·refine aT λa0=>aF [] ?_
  exact aR<|mA R<|mA R<|aZ<|a0 _<|Zi<|EP (P:=prog) (λ(r:Int × Int)=>.r<|.int .i32 r.1) (λ(r:Int × Int)=>rI r.2) Z iL (.t<|.d R)<|.t<|.d R
 refine Zc<|X _<|aT λa1=>aT λa2=>aF [0,5,8,10] ?_
 refine aR<|mM R<|sQ R (Ey R iL iL)<|aZ<|a2 _<|cI R Z (λh9=>?_) λh9=>?_
 ·exact aU<|mM R<|sQ R (Gi R iL iL)<|sQ R (D8 R underlying5 underlying21 iL)<|sQ R (I8 (b:=6) R iL iL)<|mM R<|sQ R (Gi R iL iL)<|sQ R (D8 R underlying5 underlying21 iL)<|sQ R (Jr R iL iL)<|mA R<|mA R<|aZ<|Zi<|EP (P:=prog) (λ(r:Int × Int)=>.r<|.int .i32 r.1) (λ(r:Int × Int)=>rI r.2) h9 iL (.t<|.d R)<|.t<|.d R
 refine Zc<|a1 _<|aU<|mM R<|AE h9 λai A a6=>sQ R (CP R underlying9 iL iL λ_=>A)<|mA R<|aZ<|aT λa7=>aU<|mM R<|xS R<|mM R<|vM R<|vQ R (Bz R iL<|iR R)<|xO R<|aZ<|cI R a6 (λl=>?_) λl=>?_
 ·refine aT λa8=>aF [] ?_
  exact aR<|mA R<|mA R<|aZ<|a8 _<|Zi<|EP (P:=prog) (λ(r:Int × Int)=>.r<|.int .i32 r.1) (λ(r:Int × Int)=>rI r.2) l iL (.t<|.d R)<|.t<|.d R
 refine Zc<|a7 _<|aT λaa=>aT λab=>aF [0,5,8,10,11] ?_
 refine aR<|mM R<|sQ R (Ey R iL iL)<|aZ<|ab _<|cI R l (λm=>?_) λm=>?_
 ·exact aU<|mM R<|sQ R (Gi R iL iL)<|sQ R (D8 R underlying5 underlying21 iL)<|sQ R (I8 (b:=12) R iL iL)<|mM R<|sQ R (Gi R iL iL)<|sQ R (D8 R underlying5 underlying21 iL)<|sQ R (I8 (b:=6) R iL iL)<|sQ R (Jr R iL iL)<|mM R<|sQ R (Gi R iL iL)<|sQ R (D8 R underlying5 underlying21 iL)<|sQ R (Jr R iL iL)<|mA R<|mA R<|aZ<|Zi<|EP (P:=prog) (λ(r:Int × Int)=>.r<|.int .i32 r.1) (λ(r:Int × Int)=>rI r.2) m iL (.t<|.d R)<|.t<|.d R
 refine Zc<|aa _<|aU<|mM R<|AE m λaj B ac=>sQ R (CP R underlying9 iL iL λ_=>B)<|mA R<|aZ<|aT λad=>aU<|mM R<|xS R<|mM R<|vM R<|vQ R (Bz R iL<|iR R)<|xO R<|aZ<|cI R ac (λq=>?_) λq=>?_
 ·refine aT λae=>aF [] ?_
  exact aR<|mA R<|mA R<|aZ<|ae _<|Zi<|EP (P:=prog) (λ(r:Int × Int)=>.r<|.int .i32 r.1) (λ(r:Int × Int)=>rI r.2) q iL (.t<|.d R)<|.t<|.d R
 refine Zc<|ad _<|aT λaf=>aF [5,10,11,12] ?_
 exact aR<|mM R<|sQ R (Gi R iL iL)<|sQ R (D8 R underlying5 underlying21 iL)<|sQ R (I8 (b:=18) R iL iL)<|mM R<|sQ R (Gi R iL iL)<|sQ R (D8 R underlying5 underlying21 iL)<|sQ R (I8 (b:=12) R iL iL)<|sQ R (Jr R iL iL)<|mM R<|sQ R (Gi R iL iL)<|sQ R (D8 R underlying5 underlying21 iL)<|sQ R (I8 (b:=6) R iL iL)<|sQ R (Jr R iL iL)<|mM R<|sQ R (Gi R iL iL)<|sQ R (D8 R underlying5 underlying21 iL)<|sQ R (Jr R iL iL)<|mA R<|mA R<|aZ<|af _<|Zi<|EP (P:=prog) (λ(r:Int × Int)=>.r<|.int .i32 r.1) (λ(r:Int × Int)=>rI r.2) q iL (.t<|.d R)<|.t<|.d R
theorem aQ{w r}(h:Md w=some r):AZ prog 153 [rS w] (.tup [.r<|.int .i32 r.1,rI r.2]):=by
 unfold Md at h
 refine mF func153 ntmps153 R λM=>aU<|mA R<|mA R<|aZ<|aT λA=>aU<|mM R<|sQ R (EA R iL iL)<|mM R<|vM R<|AE h λB j C=>vQ R (CP R underlying9 (iR R) iL<|Af j)<|vQ R (Bz R (iR R) iL)<|xN R<|aZ<|cI R C (λm=>?_) λm=>?_
 ·refine aT λE=>aF [0] ?_
  exact aR<|mM R<|AE m λF l I=>sQ R (CP R underlying9 iL iL λ_=>l)<|sQ R (D8 R underlying5 underlying21 iL)<|mA R<|mA R<|aZ<|E _<|Zi<|EP (P:=prog) (λ(r:Int × Int)=>.r<|.int .i32 r.1) (λ(r:Int × Int)=>rI r.2) I iL (.t<|.d R)<|.t<|.d R
 refine aF [0] ?_
 exact aR<|mM R<|Ee m λO T q J=>cL (jh<|q) R<|mM R<|xX R<|xX R<|mA R<|mA R<|aZ<|A _<|Zi<|EP (P:=prog) (λ(r:Int × Int)=>.r<|.int .i32 r.1) (λ(r:Int × Int)=>rI r.2) J iL (.t<|.d R)<|.t<|.d R
theorem iX{O r}(h:M3 O=some r):AZ prog 134 [rS O] (rB r):=by
 unfold M3 at h
 refine mF func134 ntmps134 R λX=>aU<|mA R<|aZ<|aS λZ c2 q=>Zf<|BI h λo1 j w A=>?_
 have J1:∀(T:Unit) (U:NN),o1=.nrm T→Z ⟨[],[],(U 0),31⟩:=by
  intro T U e
  have h1:=w _ e
  exact c2 _<|zB h1 R id
 refine Zv (λ(B:List UInt8) m=>⟨[(0,rS B)],[],(m 0),31⟩) (AH [X]) j wk ?_
 intro B m v1 C l
 have V:FH B=some v1:=C;unfold FH at V
 refine aT λc4=>aU<|mM R<|sQ R (EA R iL iL)<|aZ<|cI R V (λE=>?_) λE=>?_
 ·refine Zc<|c4 _<|Zf<|aU<|mM R<|Ee E λr1 r2 F h4=>cL (aQ<|F) R<|mM R<|xX R<|xX R<|mA R<|mA R<|aZ<|aT λc7=>aU<|mM R<|xQ R<|mM R<|vM R<|vQ R (A8 R (iR R) iL)<|xN R<|mM R<|vM R<|vQ R (A8 R (iR R) iL)<|xO R<|mM R<|vM R<|vQ R (D8 R underlying21 underlying3<|iR R)<|AE h4 λr3 I h5=>vL (λhg=>T3<|Af I hg) R<|vQ R (A4 R<|iR R)<|xO R<|aZ<|cI R h5 (λJ=>?_) λJ=>?_
  ·exact zB (A _<|xH l J) R id
  refine Zc<|c7 _<|aF [0,4] ?_
  refine aR<|mM R<|mM R<|AE J λs5 M h7=>?_
  refine sQ R (YG R underlying9 iL (by exact⟨_,iL⟩) (by exact R) λ_=>M) ?_
  exact mA R<|Zh<|Zr h7 (AH [(m 0)]) wk
 exact Zm<|q _ _ wk<|J1 _ (AH [(m 0)])<|xH l E
theorem l9{j r}(h:Mg j=some r):AZ prog 135 (Tk j) (rB r):=by
 unfold Mg at h
 exact mF func135 ntmps135 R λl=>aU<|sS R (Aw (cs:=(BN j)) 1 R iL R R)<|mA R<|aZ<|aU<|lF HK BE R R<|sQ R (E5 R iL iL)<|mM R<|vF DG AI R R<|vQ R (A8 R (iR R) iL)<|xN R<|mM R<|vF Fv Ca R R<|vQ R (DM R BA.slice<|iR R)<|vQ R (A8 R (iR R) iL)<|xN R<|mA R<|aZ<|Zi<|yB h R
theorem Ws{j r}(h:LA j=some r):AZ prog 144 [rI j] (rB r):=by
 unfold LA at h
 exact mF func144 ntmps144 R λl=>aU<|mA R<|aZ<|aU<|mM R<|mM R<|xU R<|mA R<|aZ<|Zi<|yB h R
theorem LJ{O T r}(h:F7 O T=some r):AZ prog 119 [rI O,rI T] (rI r):=by
 unfold F7 at h
 refine mF func119 ntmps119 R λn0=>aU<|mA R<|aZ<|aU<|mM R<|AE h λm j U=>cL (Ws<|j) R<|mA R<|aZ<|aU<|mM R<|AE U λq l V=>cL (Ws<|l) R<|mA R<|aZ<|aT λX=>aU<|mM R<|aZ<|cI R V (λw=>?_) λw=>?_
 ·refine aT λZ=>aT λc7=>aF [6] ?_
  refine aR<|mM R<|aZ<|c7 _<|cI R w (λA=>?_) λA=>?_
  ·exact zI A R id
  exact Zc<|Z _<|zI A R id
 refine Zc<|X _<|aT λB=>aU<|mM R<|aZ<|cI R w (λC=>?_) λC=>?_
 ·exact zI C R id
 refine Zc<|B _<|aT λE=>aT λF=>aF [0,1] ?_
 refine aR<|mM R<|mM R<|xS R<|aZ<|F _<|cI R C (λI=>?_) λI=>?_
 ·exact zI I R id
 refine Zc<|E _<|aT λJ=>aU<|mM R<|mM R<|sQ R (BY R iL iL)<|aZ<|cI R I (λM=>?_) λM=>?_
 ·exact zI M R id
 exact Zc<|J _<|zI M R id
theorem Q5{v r}(h:Ht v=some r):AZ prog 117 [.r<|.sl<|v.map<|AY .i64] (rI r):=by
 unfold Ht at h
 refine mF func117 ntmps117 R λV=>aU<|mA R<|aZ<|aU<|mA R<|aZ<|aS λX Z q=>aU<|mM R<|xL BL R<|mM R<|aZ<|Zf<|BI h λo1 j w A=>?_
 have J1:∀(O:Unit) (T:NN),o1=.nrm O→X ⟨[(3,rI 0)],[],(T 0),18⟩:=by
  intro O T e
  have h1:=w _ e
  exact Z _<|aU<|mM R<|mA R<|aZ<|Zi<|yI h1 R
 refine Zv (λ(B:Int) m=>⟨[(3,rI 0),(6,.r<|.sl<|v.map<|AY .i64),(7,rL v),(8,rI B)],[],(m 0),18⟩) (AH [V]) j wk ?_
 intro B m v1 C l
 have U:Dl v B=some v1:=C;unfold Dl at U
 refine aU<|xS R<|aZ<|aT λc7=>cI R U (λE=>?_) λE=>?_
 ·refine Zc<|c7 _<|aT λc8=>Zf<|aU<|AE E λx4 F h4=>xI BL R F<|xV (.int .i64 x4) AI R<|mA R<|aZ<|aU<|mM R<|mM R<|xU R<|aZ<|cI R h4 (λI=>?_) λI=>?_
  ·refine aT λJ=>aF [5] ?_
   exact aR<|mM R<|mA R<|aZ<|J _<|Zi<|yI (A _<|xH l I) R
  exact Zc<|c8 _<|aR<|AE I λx5 M h6=>xA R M<|mM R<|Zh<|Zr h6 (AH [(m 0)]) wk
 exact Zm<|q _ _ wk<|J1 _ (AH [(m 0)])<|xH l E
theorem XV{l m r}(h:Kw l m=some r):AZ prog 136 [.agg<|BN l,.agg<|BN m] (rI r):=by
 unfold Kw at h
 refine mF func136 ntmps136 R λj=>aU<|sS R (Aw (cs:=(BN l)) 2 R iL R R)<|sS R (Aw (cs:=(BN m)) 3 R iL R R)<|mA R<|aZ<|aT λC=>AE h λq w E=>?_
 refine rP 9 [pO 5<|.ptr 2 j 0 0,pO 6<|rI l.Row,pO 7<|.ptr 3 (j+1) 0 0,pO 8<|rI m.Row,pO 9<|rI q,pO 10<|.ptr 2 j 0 1,pO 11<|rI l.Col,pO 12<|.ptr 3 (j+1) 0 1,pO 13<|rI m.Col] BV R (by exact⟨oB [(2,.ptr 2 j 0 0)] [(2,some<|.box j 84<|BN l)]<|fB R Dg (.inl R) (λ_=>R) R,oB [(5,.ptr 2 j 0 0)] [(2,some<|.box j 84<|BN l)]<|AU (a:=rI l.Row) R AI (.inl R) R R,oB [(3,.ptr 3 (j+1) 0 0)] [(3,some<|.box (j+1) 84<|BN m)]<|fB R Dg (.inl R) (λ_=>R) R,oB [(7,.ptr 3 (j+1) 0 0)] [(3,some<|.box (j+1) 84<|BN m)]<|AU (a:=rI m.Row) R AI (.inl R) R R,oD (λ_=>[(6,rI l.Row),(8,rI m.Row)]) (λ_=>[]) λF e O n=>DJ (r:=rI q) (caps:=[]) (bs:=[rI l.Row,rI m.Row]) R (.inl R) R ⟨⟨_,(.inl R),.d R⟩,⟨_,(.inl R),.d R⟩,Za⟩ (λ_=>LJ<|w) R,oB [(2,.ptr 2 j 0 0)] [(2,some<|.box j 84<|BN l)]<|fB R Dt (.inl R) (λ_=>R) R,oB [(10,.ptr 2 j 0 1)] [(2,some<|.box j 84<|BN l)]<|AU (a:=rI l.Col) R AI (.inl R) R R,oB [(3,.ptr 3 (j+1) 0 0)] [(3,some<|.box (j+1) 84<|BN m)]<|fB R Dt (.inl R) (λ_=>R) R,oB [(12,.ptr 3 (j+1) 0 1)] [(3,some<|.box (j+1) 84<|BN m)]<|AU (a:=rI m.Col) R AI (.inl R) R R,Za⟩) λF T=>?_
 refine BU [0,1,2,3,4,5,6,7,8,9,10,11,12,13] [2,3] ?_
 exact AE E λI A J=>cL (LJ<|A) R<|sS R (Bo 15 R BL (f:=(AY .i64)) (l:=([q,I]:List Int)) ⟨R,⟨_,iL,R⟩,R,⟨_,iL,R⟩,Za⟩ R (λ_=>R) R)<|AE J λU B M=>cL (Q5<|B) R<|mA R<|aZ<|C _<|Zi<|yI M R
theorem XZ{C a c n r}(h:Nf C a c n=some r):AZ prog 105 [qc C,rI a,rI c,rB n] (rI r):=by
 unfold Nf at h
 refine mF func105 ntmps105 R λn0=>aU<|mA R<|aZ<|aS λK2 c2 I=>aU<|mM R<|xL Bm R<|mM R<|aZ<|Zf<|BI h λo1 E J l=>?_
 have J1:∀(u2:Unit) (i5:NN),o1=.nrm u2→K2 ⟨[],[],(i5 0),79⟩:=by
  intro u2 i5 e
  have h1:=J _ e
  exact c2 _<|zI h1 R id
 refine Zv (λ(M:Int) F=>⟨[(0,qc C),(1,rI a),(2,rI c),(3,rB n),(12,qc C),(13,rL C),(14,rI M)],[],(F 0),79⟩) (AH [n0]) E wk ?_
 intro M F v1 O j
 have h2:L0 C a c n M=some v1:=O;unfold L0 at h2
 refine aU<|xS R<|aZ<|aT λc6=>cI R h2 (λT=>?_) λT=>?_
 ·refine Zc<|c6 _<|aT λc7=>Zf<|aU<|mM R<|AE T λm U h4=>xI Bm R U<|xB ((BN m)) Dy R<|sS R (BB (cs:=GD) 10 R GE R R)<|mA R<|Zj R R (Az (ds:=(BN m)) R GO iL R iL R R R R)<|aZ<|aT λc9=>Zf<|aU<|lF Dg AI R R<|xS R<|mM R<|vF Dg AI R R<|vM R<|vQ R (Cw R (iR R)<|iR R)<|xO R<|mM R<|vF Dt AI R R<|vQ R (Bz R (iR R) iL)<|xO R<|mM R<|vF Dt AI R R<|vM R<|vQ R (Cw R (iR R)<|iR R)<|xO R<|mA R<|aZ<|cI R h4 (λV=>?_) λV=>?_
  ·exact zI (l _<|xH j V) R id
  refine aT λX=>aG [0,1,2,3,9,10,12,13,14] [10] ?_
  refine aR<|lF DG AI R R<|xS R<|mM R<|vF DG AI R R<|vQ R (BY R (iR R) iL)<|xO R<|mA R<|aZ<|X _<|cI R V (λZ=>?_) λZ=>?_
  ·exact zI (l _<|xH j Z) R id
  refine aU<|lF HK BE R R<|AE Z λr1 a0 h7=>cL (iX<|a0) R<|sQ R (A4 R iL)<|mA R<|aZ<|cI R h7 (λh8=>?_) λh8=>?_
  ·exact zI (l _<|xH j h8) R id
  refine Zc<|c9 _<|aT λa1=>aT λa2=>aG [0,1,2,3,9,10,12,13,14] [10] ?_
  refine aR<|lF Fv Ca R R<|AE h8 λe1 a6 h9=>cL (Ru<|a6) R<|mA R<|aZ<|a2 _<|aU<|mM R<|xU R<|aZ<|cI R h9 (λq=>?_) λq=>?_
  ·refine aT λa7=>aF [11] ?_
   exact aR<|mM R<|mA R<|aZ<|a7 _<|Zi<|yI (l _<|xH j q) R
  refine Zc<|a1 _<|aT λa8=>aU<|xC Dy R<|AE q λr2 aa ab=>cL (l9<|aa) R<|mM R<|vM R<|vQ R (A4 R<|iR R)<|xN R<|aZ<|cI R ab (λw=>?_) λw=>?_
  ·exact zI (l _<|xH j w) R id
  refine Zc<|a8 _<|aT λac=>aG [0,1,2,3,9,10,12,13,14] [10] ?_
  refine Zz BV (by kernel_rfl) ?_
  refine qP R (AK R iL)<|qP R (BY R iL iL)<|qP R (AK R iL)<|qO R (AK R iL)<|qO R (AK R iL)<|AE w λx5 ad ae=>qO R (CQ R (iR R) iL<|Af ad)<|AE ae λA af ag=>qO R (A9 R Bm.slice (iR R) (iR R) (λ_=>R)<|Af af)<|qO R (Cf (cs:=(BN A)) R Dy (iR R) R R)<|qO R (DU R Dy iL R R)<|AE ag λr3 ah ai=>OY (.one R R R) R R (r:=rI r3) (caps:=[]) (bs:=[.agg<|BN A,.agg<|BN m]) R iL R ⟨⟨_,(iR R),.g (cs:=[.int .i64 A.Row,.int .i64 A.Col,.str A.Text,.int .i64 A.Ref,.sl<|A.Attrs.map AG.row]) R R⟩,⟨_,(iR R),.g (cs:=[.int .i64 m.Row,.int .i64 m.Col,.str m.Text,.int .i64 m.Ref,.sl<|m.Attrs.map AG.row]) R R⟩,Za⟩ (λhg=>XV<|Af ah hg) R<|qO R (Cw R (iR R) iL)<|qP R (BK R iL<|iR R)<|AQ.nil<|ac _<|cI R ai (λB=>?_) λB=>?_
  ·exact zI (l _<|xH j B) R id
  exact Zc<|c7 _<|aR<|AE B λx7 aj ak=>xA R aj<|mM R<|Zh<|Zr ak (AH [((F 0)+1)]) wk
 exact Zm<|I _ _ wk<|J1 _ (AH [(F 0)])<|xH j T
theorem Yb{j a c r}(h:NS j a c=some r):AZ prog 106 [.agg<|A3 j,rI a,rI c] (rB r):=by
 unfold NS at h
 refine mF func106 ntmps106 R λA=>aU<|sS R (Aw (cs:=(A3 j)) 3 R iL R R)<|mA R<|aZ<|aU<|lF CV AI R R<|sQ R (Cw R iL iL)<|mM R<|vF Cv AI R R<|vQ R (Cw R (iR R) iL)<|xN R<|mM R<|vF Gg AI R R<|vQ R (Cw R (iR R) iL)<|xN R<|mM R<|vF GB AI R R<|vQ R (Cw R (iR R) iL)<|xN R<|mM R<|vF CV AI R R<|vM R<|vQ R (Bz R (iR R)<|iR R)<|xN R<|mM R<|vF Cv AI R R<|vM R<|vQ R (Bz R (iR R)<|iR R)<|xN R<|mM R<|vF Gg AI R R<|vM R<|vF CV AI R R<|AE h λB l q=>vQ R (CQ R (iR R) (iR R)<|Af l)<|vQ R (Ey R (iR R)<|iR R)<|xN R<|mM R<|vF GB AI R R<|vM R<|vF Cv AI R R<|AE q λC m w=>vQ R (CQ R (iR R) (iR R)<|Af m)<|vQ R (Ey R (iR R)<|iR R)<|xN R<|mA R<|aZ ?_
 exact Zi<|yB w R
theorem Y0{j l r}(h:OE j l=some r):AZ prog 107 [.agg<|A3 j,.agg<|A3 l] (rB r):=by
 unfold OE at h
 exact mF func107 ntmps107 R λm=>aU<|sS R (Aw (cs:=(A3 j)) 2 R iL R R)<|sS R (Aw (cs:=(A3 l)) 3 R iL R R)<|mA R<|aZ<|aU<|lF CV AI R R<|lF CV AI R R<|xS R<|mM R<|vF CV AI R R<|vF CV AI R R<|vQ R (A8 R (iR R)<|iR R)<|vQ R (AK R<|iR R)<|wQ R (fB R Cv iL fR R)<|wQ R (AU (a:=rI j.Col) R AI (iR R) R R)<|wQ R (fB R Cv iL fR R)<|wQ R (AU (a:=rI l.Col) R AI (iR R) R R)<|wQ R (Bz R (iR R)<|iR R)<|vQ R (BK R (iR R)<|iR R)<|xO R<|mA R<|aZ<|Zi<|yB h R
theorem aM{j l r}(h:Mx j l=some r):AZ prog 110 [.agg<|A3 j,.agg<|A3 l] (rB r):=by
 unfold Mx at h
 exact mF func110 ntmps110 R λI=>aU<|sS R (Aw (cs:=(A3 j)) 2 R iL R R)<|sS R (Aw (cs:=(A3 l)) 3 R iL R R)<|mA R<|aZ<|aU<|lF CV AI R R<|lF CV AI R R<|lF Gg AI R R<|AE h λJ m B=>xA R m<|xS R<|mM R<|vF CV AI R R<|vF CV AI R R<|vF Gg AI R R<|AE B λM q C=>vQ R (HO R (iR R) (iR R)<|Af q)<|vQ R (Bz R (iR R)<|iR R)<|xN R<|mM R<|vF Cv AI R R<|vF Cv AI R R<|vF GB AI R R<|AE C λO w E=>vQ R (HO R (iR R) (iR R)<|Af w)<|vQ R (Bz R (iR R)<|iR R)<|xN R<|mM R<|vF Cv AI R R<|vF Cv AI R R<|vF GB AI R R<|AE E λT A F=>vQ R (HO R (iR R) (iR R)<|Af A)<|vQ R (Bz R (iR R)<|iR R)<|xN R<|mA R<|aZ<|Zi<|yB F R
theorem ir{l:Ak}{m:Ak}{r:Bool}{j:Nat}(h:Ps l m=some r):Ax prog 109 1 [.agg<|A3 m,.ptr 1000 j 0 0] [(1000,some<|.box j 86<|A3 l)] (λq h'=>∃(i:Nat→Nat),q=rB r∧h'=[(1000,some<|.box j 86<|A3 l)]):=by
 unfold Ps at h
 refine DV func109 R R ntmps109 (Zq R) λB=>aU<|sS R (Aw (cs:=(A3 m)) 2 R iL R R)<|mA R<|aZ<|aU<|xC C3 R<|xC C3 R<|AE h λA w C=>cL (aM<|w) R<|mA R<|aZ ?_
 exact Zi<|ZA (s':=⟨[(3,rB A)],[(1000,some<|.box j 86<|A3 l)],(B+1),7⟩) wk<|Bf (λ(r:Bool) q h'=>∃(i:Nat→Nat),q=rB r∧h'=[(1000,some<|.box j 86<|A3 l)]) C<|by exact⟨rB A,[(1000,some<|.box j 86<|A3 l)],R,⟨.inr R,Za⟩,R,R,AH [],R,R⟩
theorem Xb{l:Ak}{m:List Ak}{r:Int}{j:Nat}(h:Pz l m=some r):Ax prog 137 1 [qd m,.fn 109 [.ptr 1000 j 0 0]] [(1000,some<|.box j 86<|A3 l)] (λq h'=>∃(i:Nat→Nat),q=rI r∧h'=[(1000,some<|.box j 86<|A3 l)]):=by
 unfold Pz at h
 refine DV func137 R R ntmps137 (Zq R) λn0=>aU<|mA R<|aZ<|aS λK2 c2 C=>aU<|mM R<|xL CW R<|mM R<|aZ<|Zf<|BI h λo1 w E F=>?_
 have J1:∀(u2:Unit) (I:NN),o1=.nrm u2→K2 ⟨[],[(1000,some<|.box j 86<|A3 l)],(I 0),19⟩:=by
  intro u2 I e
  have h1:=E _ e
  refine c2 _<|aU<|mA R<|aZ ?_
  exact Zi<|ZA (s':=⟨[(4,rI<|(-1))],[(1000,some<|.box j 86<|A3 l)],(I 0),19⟩) wk<|Bf (λ(r:Int) q h'=>∃(i:Nat→Nat),q=rI r∧h'=[(1000,some<|.box j 86<|A3 l)]) h1<|by exact⟨rI<|(-1),[(1000,some<|.box j 86<|A3 l)],R,⟨.inr R,Za⟩,R,R,AH [],R,R⟩
 refine Zv (λ(A:Int) J=>⟨[(0,qd m),(1,.fn 109 [.ptr 1000 j 0 0]),(7,rL m),(8,rI A)],[(1000,some<|.box j 86<|A3 l)],(J 0),19⟩) (AH [n0]) w wk ?_
 intro A J v1 M B
 have h2:L1 l m A=some v1:=M;unfold L1 at h2
 refine aU<|xS R<|aZ<|aT λc6=>cI R h2 (λO=>?_) λO=>?_
 ·refine Zc<|c6 _<|aT λc7=>Zf<|aU<|mM R<|mA R<|aZ<|aT λc9=>aR<|mM R<|mM R<|mM R<|AE O λx4 T h4=>xI CW R T<|xB ((A3 x4)) C3 R<|AE h4 λr1 U h5=>?_
  refine Zw [1000] (hc:=[(1000,some<|.box j 86<|A3 l)]) (bs:=[.agg<|A3 x4]) (caps:=[.ptr 1000 j 0 0]) R R R R iL R ⟨.inl ⟨iL,R⟩,Za⟩ ⟨R,R,R,Za⟩ (by decide) (ir U) ?_
  intro i6 n1
  refine BU [0,1,5,7,8,9,10,11,12,13,14,15,16] [1000] ?_
  refine aZ<|c9 _<|cI R h5 (λV=>?_) λV=>?_
  ·refine aT λX=>aG [5] [1000] ?_
   refine aR<|mM R<|mA R<|oZ X ?_
   exact Zi<|ZA (s':=⟨[(4,rI A)],[(1000,some<|.box j 86<|A3 l)],n1,19⟩) wk<|Bf (λ(r:Int) q h'=>∃(i:Nat→Nat),q=rI r∧h'=[(1000,some<|.box j 86<|A3 l)]) (F _<|xH B V)<|by exact⟨rI A,[(1000,some<|.box j 86<|A3 l)],R,⟨.inr R,Za⟩,R,R,AH [],R,R⟩
  refine Zc<|c7 _<|aG [0,1,7,8] [1000] ?_
  exact aR<|AE V λx5 Z h7=>xA R Z<|mM R<|Zh<|Zr h7 (AH [n1]) wk
 exact Zm<|C _ _ wk<|J1 _ (AH [(J 0)])<|xH B O
theorem mh{l:Ak}{m:List Ak}{r:Bool}{j:Nat}(h:LO l m=some r):Ax prog 108 1 [qd m,.fn 109 [.ptr 1000 j 0 0]] [(1000,some<|.box j 86<|A3 l)] (λq h'=>∃(i:Nat→Nat),q=rB r∧h'=[(1000,some<|.box j 86<|A3 l)]):=by
 unfold LO at h
 refine DV func108 R R ntmps108 (Zq R) λF=>aU<|mA R<|aZ<|aT λB=>aR<|mM R<|mM R<|AE h λA w C=>?_
 refine Zw [1000] (hc:=[(1000,some<|.box j 86<|A3 l)]) (bs:=[qd m,.fn 109 [.ptr 1000 j 0 0]]) (caps:=[]) R R R R iL R ⟨.inl ⟨iL,R⟩,.inl ⟨iL,R⟩,Za⟩ ⟨R,R,R,Za⟩ (by decide) (Xb w) ?_
 intro I E
 refine BU [0,1,4,5,6,7] [1000] ?_
 refine sQ R (Cw R iL iL)<|mA R<|oZ B ?_
 exact Zi<|ZA (s':=⟨[(4,rB<|(decide<|0≤A))],[(1000,some<|.box j 86<|A3 l)],E,9⟩) wk<|Bf (λ(r:Bool) q h'=>∃(i:Nat→Nat),q=rB r∧h'=[(1000,some<|.box j 86<|A3 l)]) C<|by exact⟨rB<|(decide<|0≤A),[(1000,some<|.box j 86<|A3 l)],R,⟨.inr R,Za⟩,R,R,AH [],R,R⟩
theorem jT{m r}(h:OR m=some r):AZ prog 74 (Qo m) (rI r):=by
 unfold OR at h
 refine mF func74 ntmps74 R λI=>aU<|sS R (Aw (cs:=(Bs m)) 1 R iL R R)<|mA R<|aZ<|aT λc2=>aU<|lF Fp AI R R<|xS R<|mM R<|vF Fp AI R R<|vQ R (BY R (iR R) iL)<|xO R<|mM R<|vF F3 AI R R<|vQ R (Bz R (iR R) iL)<|xO R<|mM R<|vF F3 AI R R<|vQ R (BY R (iR R) iL)<|xO R<|aZ<|cI R h (λJ=>?_) λJ=>?_
 ·exact zI J R id
 refine Zc<|c2 _<|aT λc5=>aT λc6=>aG [1] [1] ?_
 refine aR<|lF DS Dc R R<|lF Fp AI R R<|lF F3 AI R R<|AE J λe1 M h2=>cL (XZ<|M) R<|mA R<|aZ<|c6 _<|aU<|mM R<|xU R<|aZ<|cI R h2 (λO=>?_) λO=>?_
 ·refine aT λc8=>aF [3] ?_
  exact aR<|mM R<|mA R<|aZ<|c8 _<|Zi<|yI O R
 refine Zc<|c5 _<|aS λK9 c9 T=>aT λU=>aG [1] [1] ?_
 refine aR<|lF Dx EB R R<|xL CW R<|mM R<|aZ<|U _<|Zf<|BI O λo1 F V l=>?_
 have J1:∀(u2:Unit) (i5:NN),o1=.nrm u2→K9 ⟨[],[],(i5 0),81⟩:=by
  intro u2 i5 e
  have h4:=V _ e
  exact c9 _<|zI h4 R id
 refine Zv (λ(X:Int) C=>⟨[(1,.ptr 1 I 0 0),(35,qd m.Merges),(36,rL m.Merges),(37,rI X)],[(1,some<|.box I 44<|Bs m)],(C 0),81⟩) (AH [(I+1)]) F wk ?_
 intro X C v1 Z j
 have h5:NW m X=some v1:=Z;unfold NW at h5
 refine aU<|xS R<|aZ<|aT λa0=>cI R h5 (λh6=>?_) λh6=>?_
 ·refine Zc<|a0 _<|aT λa1=>Zf<|aU<|mM R<|AE h6 λq a2 h7=>xI CW R a2<|xB ((A3 q)) C3 R<|sS R (BB (cs:=Ek) 5 R GS R R)<|mA R<|Zj R R (Az (ds:=(A3 q)) R Fc iL R iL R R R R)<|aZ<|Zf<|aU<|xC C3 R<|lF Fp AI R R<|lF F3 AI R R<|AE h7 λr1 a6 h8=>cL (Yb<|a6) R<|sQ R (A4 R iL)<|mA R<|aZ<|cI R h8 (λh9=>?_) λh9=>?_
  ·exact zI (l _<|xH j h9) R id
  refine aT λa7=>aG [1,4,5,35,36,37] [1,5] ?_
  refine aR<|lF Gg AI R R<|xQ R<|mM R<|vF GB AI R R<|vQ R (A8 R (iR R) iL)<|xN R<|mA R<|aZ<|a7 _<|cI R h9 (λw=>?_) λw=>?_
  ·exact zI (l _<|xH j w) R id
  refine aT λa8=>?_
  refine Zz BV (by kernel_rfl) ?_
  refine qP R (AK R iL)<|qP R (BY R iL iL)<|qP R (AK R iL)<|qO R (fB R Dx iL fR R)<|qO R (AU (a:=qd m.Merges) R EB (iR R) R R)<|qO R (AK R iL)<|AE w λx5 aa ab=>qO R (CQ R (iR R) iL<|Af aa)<|AE ab λE ac ad=>qO R (A9 R CW.slice (iR R) (iR R) (λ_=>R)<|Af ac)<|qO R (Cf (cs:=(A3 E)) R C3 (iR R) R R)<|qO R (DU R C3 iL R R)<|AE ad λr2 ae af=>OY (.one R R R) R R (r:=rB r2) (caps:=[]) (bs:=[.agg<|A3 E,.agg<|A3 q]) R iL R ⟨⟨_,(iR R),.g (cs:=[.int .i64 E.Row,.int .i64 E.Col,.int .i64 E.H,.int .i64 E.W]) R R⟩,⟨_,(iR R),.g (cs:=[.int .i64 q.Row,.int .i64 q.Col,.int .i64 q.H,.int .i64 q.W]) R R⟩,Za⟩ (λhg=>Y0<|Af ae hg) R<|qO R (A4 R<|iR R)<|qP R (BK R iL<|iR R)<|qP R (EF R iL)<|AQ.nil<|a8 _<|cI R af (λA=>?_) λA=>?_
  ·exact zI (l _<|xH j A) R id
  refine aT λag=>aG [1,4,5,35,36,37] [1,5] ?_
  refine aR<|lF Dx EB R R<|mM R<|AE A λl1 ah ai=>?_
  refine sQ R (Wf R CW.slice iL (by exact R) (by exact⟨_,iL⟩) (λ_=>R) λ_=>ah) ?_
  refine sQ R (HD (bs:=[.ptr 5 (C 0) 0 0]) R<|by exact⟨iL,Za⟩) ?_
  refine AE ai λr3 aj ak=>?_
  refine Zw [5] (hc:=[(1000,some<|.box (C 0) 86<|A3 q)]) (bs:=[qd l1,.fn 109 [.ptr 1000 (C 0) 0 0]]) (caps:=[]) R R R R iL R ⟨.inl ⟨iL,R⟩,.inl ⟨iL,R⟩,Za⟩ ⟨R,R,R,Za⟩ (by decide) (mh aj) ?_
  intro i6 n1
  refine BU [1,4,5,35,36,37,74,75,76,77,78,79] [1,5] ?_
  refine mA R<|aZ<|ag _<|cI R ak (λB=>?_) λB=>?_
  ·exact zI (l _<|xH j B) R id
  refine Zc<|a1 _<|aG [1,35,36,37] [1] ?_
  exact aR<|AE B λx7 al an=>xA R al<|mM R<|Zh<|Zr an (AH [n1]) wk
 exact Zm<|T _ _ wk<|J1 _ (AH [(C 0)])<|xH j h6
theorem fJ{k j r}(h:Nx k j=some r):AZ prog 75 [rI k,qc j] (rI r):=by
 unfold Nx at h
 refine mF func75 ntmps75 R λX=>aU<|mA R<|aZ<|aS λZ c2 A=>aU<|mM R<|xL Bm R<|mM R<|aZ<|Zf<|BI h λo1 l B C=>?_
 have J1:∀(T:Unit) (U:NN),o1=.nrm T→Z ⟨[],[],(U 0),36⟩:=by
  intro T U e
  have h1:=B _ e
  exact c2 _<|zI h1 R id
 refine Zv (λ(E:Int) q=>⟨[(0,rI k),(7,qc j),(8,rL j),(9,rI E)],[],(q 0),36⟩) (AH [X]) l wk ?_
 intro E q v1 F m
 have V:Nz k j E=some v1:=F;unfold Nz at V
 refine aU<|xS R<|aZ<|aT λc6=>cI R V (λI=>?_) λI=>?_
 ·refine Zc<|c6 _<|aT λc7=>Zf<|aU<|AE I λw J h4=>xI Bm R J<|xB ((BN w)) Dy R<|sS R (BB (cs:=GD) 6 R GE R R)<|Zj R R (Az (ds:=(BN w)) R GO iL R iL R R R R)<|aZ<|aU<|mM R<|xQ R<|mM R<|vF HK BE R R<|vQ R (EA R (iR R) iL)<|vQ R (AK R<|iR R)<|wQ R (fB R Fv iL fR R)<|wQ R (AU (a:=qa w.Attrs) R Ca (iR R) R R)<|wQ R (DM R BA.slice<|iR R)<|wQ R (BY R (iR R) iL)<|vQ R (Ct R (iR R)<|iR R)<|xN R<|mM R<|vM R<|vQ R (A8 R (iR R) iL)<|vQ R (AK R<|iR R)<|wQ R (fB R DG iL fR R)<|wQ R (AU (a:=rI w.Ref) R AI (iR R) R R)<|wQ R (DK R (iR R) iL)<|vQ R (BK R (iR R)<|iR R)<|xO R<|aZ<|cI R h4 (λM=>?_) λM=>?_
  ·exact zI (C _<|xH m M) R id
  refine Zc<|c7 _<|aF [0,7,8,9] ?_
  exact aR<|AE M λx5 O h6=>xA R O<|mM R<|Zh<|Zr h6 (AH [((q 0)+1)]) wk
 exact Zm<|A _ _ wk<|J1 _ (AH [(q 0)])<|xH m I
theorem lS{l r}(h:Ja l=some r):AZ prog 138 [rS l] (rB r):=by
 unfold Ja at h
 refine mF func138 ntmps138 R λn0=>aU<|mA R<|aZ<|aT λc2=>aU<|mM R<|sQ R (E5 R iL iL)<|mM R<|vM R<|vQ R (Db R underlying9<|iR R)<|vQ R (BY R (iR R) iL)<|xO R<|mM R<|vM R<|vM R<|vQ R (Db R underlying9<|iR R)<|AE h λx1 B h1=>vQ R (CQ R (iR R) iL<|Af B)<|AE h1 λa0 m h2=>vQ R (CP R underlying9 (iR R) (iR R)<|Af m)<|vQ R (A8 R (iR R) iL)<|xO R<|aZ<|cI R h2 (λC=>?_) λC=>?_
 ·exact zB C R id
 refine Zc<|c2 _<|aS λK5 c5 E=>aT λc6=>aF [0] ?_
 refine aR<|mM R<|sQ R (Db R underlying9 iL)<|mM R<|aZ<|c6 _<|Zf<|BI C λo1 q F I=>?_
 have J1:∀(X:Unit) (Z:NN),o1=.nrm X→K5 ⟨[],[],(Z 0),35⟩:=by
  intro X Z e
  have h4:=F _ e
  exact c5 _<|zB h4 R id
 refine Zv (λ(J:Int) A=>⟨[(0,rS l),(20,rL l),(21,rI J)],[],(A 0),35⟩) (AH [n0]) q wk ?_
 intro J A v1 M w
 have h5:J0 l J=some v1:=M;unfold J0 at h5
 refine aU<|xS R<|aZ<|aT λc9=>cI R h5 (λO=>?_) λO=>?_
 ·refine Zc<|c9 _<|aT λT=>Zf<|aU<|mM R<|mA R<|aZ<|aU<|mM R<|mM R<|AE O λa1 j h7=>sQ R (CP R underlying9 iL iL λ_=>j)<|xS R<|mM R<|vM R<|vM R<|vQ R (CP R underlying9 (iR R) (iR R) λ_=>j)<|vQ R (BY R (iR R) iL)<|xO R<|aZ<|cI R h7 (λU=>?_) λU=>?_
  ·exact zB (I _<|xH w U) R id
  refine Zc<|T _<|aF [0,20,21] ?_
  exact aR<|AE U λx5 V h9=>xA R V<|mM R<|Zh<|Zr h9 (AH [(A 0)]) wk
 exact Zm<|E _ _ wk<|J1 _ (AH [(A 0)])<|xH w O
theorem bZ{j r}(h:KK j=some r):AZ prog 111 (fg j) (rI r):=by
 unfold KK at h
 refine mF func111 ntmps111 R λC=>aU<|sS R (Aw (cs:=(BX j)) 1 R iL R R)<|mA R<|aZ<|aT λc2=>Zf<|aU<|lF FO AI R R<|xU R<|mM R<|vF FO AI R R<|vQ R (DK R (iR R) iL)<|xN R<|mA R<|aZ<|cI R h (λM=>?_) λM=>?_
 ·exact zI M R id
 refine aT λc5=>aG [1] [1] ?_
 refine aR<|lF Hm AI R R<|xS R<|mM R<|vF Hm AI R R<|vQ R (BY R (iR R) iL)<|xO R<|mM R<|vF Jt AI R R<|vQ R (Bz R (iR R) iL)<|xO R<|mM R<|vF Jt AI R R<|vQ R (BY R (iR R) iL)<|xO R<|mM R<|vF FF AI R R<|vQ R (Bz R (iR R) iL)<|xO R<|mM R<|vF FF AI R R<|vQ R (BY R (iR R) iL)<|xO R<|mA R<|aZ<|c5 _<|cI R M (λO=>?_) λO=>?_
 ·exact zI O R id
 refine aS λK7 c7 E=>aT λc8=>aG [1] [1] ?_
 refine aR<|lF FO AI R R<|xQ R<|mM R<|vF LQ BE R R<|vQ R (EA R (iR R) iL)<|vQ R (AK R<|iR R)<|wQ R (fB R If iL fR R)<|wQ R (AU (a:=rS j.Value) R BE (iR R) R R)<|wQ R (EA R (iR R) iL)<|vQ R (Ct R (iR R)<|iR R)<|xN R<|mA R<|aZ<|c8 _<|Ba O λp1 F T=>?_
 have J1:∀(U:Bool) (J:NN),p1=U→K7 ⟨[(1,.ptr 1 C 0 0),(41,rB U)],[(1,some<|.box C 129<|BX j)],(J 0),116⟩:=by
  intro U J e
  have h3:=T _ e
  refine c7 _<|cI R h3 (λV=>?_) λV=>?_
  ·exact zI V R id
  refine aU<|lF FO AI R R<|xQ R<|mM R<|vF GZ AI R R<|vQ R (Bz R (iR R) iL)<|vQ R (AK R<|iR R)<|wQ R (fB R GZ iL fR R)<|wQ R (AU (a:=rI j.Parent) R AI (iR R) R R)<|wQ R (BY R (iR R) iL)<|vQ R (Ct R (iR R)<|iR R)<|xN R<|mA R<|aZ<|cI R V (λX=>?_) λX=>?_
  ·exact zI X R id
  refine aS λZ a0 l=>aT λa1=>aG [1] [1] ?_
  refine aR<|lF FO AI R R<|xQ R<|mM R<|vF LH BE R R<|AE X λr1 a2 h6=>vL (λhg=>lS<|Af a2 hg) R<|vQ R (A4 R<|iR R)<|xN R<|mA R<|aZ<|a1 _<|Ba h6 λp2 I a6=>?_
  have J2:∀(x2:Bool) (i2:NN),p2=x2→Z ⟨[(1,.ptr 1 C 0 0),(82,rB x2)],[(1,some<|.box C 129<|BX j)],(i2 0),116⟩:=by
   intro x2 i2 e
   have h7:=a6 _ e
   refine a0 _<|cI R h7 (λh8=>?_) λh8=>?_
   ·exact zI h8 R id
   refine aU<|lF FO AI R R<|xQ R<|mM R<|vF If BE R R<|vQ R (EA R (iR R) iL)<|xN R<|mM R<|vF If BE R R<|AE h8 λr2 a7 h9=>vL (λhg=>UJ<|Af a7 hg) R<|vQ R (A4 R<|iR R)<|xN R<|mA R<|aZ<|cI R h9 (λm=>?_) λm=>?_
   ·exact zI m R id
   exact Zc<|c2 _<|zI m R id
  refine aC R (λq=>?_) λq=>?_
  ·have w:=Cd q I
   exact Zc<|l _ _ wk<|J2 _ (AH [(J 0)]) (Zg w).symm
  ·have w:=CY q I
   refine aG [1] [1] ?_
   exact aR<|lF FO AI R R<|xQ R<|mM R<|vF LQ BE R R<|AE w λr3 a8 aa=>vL (λhg=>W3<|Af a8 hg) R<|vQ R (A4 R<|iR R)<|xN R<|mA R<|Zh<|l _ _ wk<|J2 _ (AH [(J 0)]) (Zg aa).symm
 refine aC R (λA=>?_) λA=>?_
 ·have B:=Cd A F
  exact Zc<|E _ _ wk<|J1 _ (AH [(C+1)]) (Zg B).symm
 ·have B:=CY A F
  refine aG [1] [1] ?_
  exact aR<|lF FO AI R R<|xQ R<|mM R<|vF GZ AI R R<|vQ R (DK R (iR R) iL)<|vQ R (AK R<|iR R)<|wQ R (fB R LH iL fR R)<|wQ R (AU (a:=rS j.Place) R BE (iR R) R R)<|wQ R (EA R (iR R) iL)<|vQ R (Ct R (iR R)<|iR R)<|xN R<|mA R<|Zh<|E _ _ wk<|J1 _ (AH [(C+1)]) (Zg B).symm
theorem mV{l m r}(h:JF l m=some r):AZ prog 112 [.agg<|BX l,.agg<|BX m] (rI r):=by
 unfold JF at h
 refine mF func112 ntmps112 R λj=>aU<|sS R (Aw (cs:=(BX l)) 2 R iL R R)<|sS R (Aw (cs:=(BX m)) 3 R iL R R)<|mA R<|aZ<|aT λC=>AE h λq w E=>?_
 refine rP 9 [pO 5<|.ptr 2 j 0 0,pO 6<|rI l.Clock,pO 7<|.ptr 3 (j+1) 0 0,pO 8<|rI m.Clock,pO 9<|rI q,pO 10<|.ptr 2 j 0 1,pO 11<|rI l.Site,pO 12<|.ptr 3 (j+1) 0 1,pO 13<|rI m.Site] BV R (by exact⟨oB [(2,.ptr 2 j 0 0)] [(2,some<|.box j 129<|BX l)]<|fB R Hm (.inl R) (λ_=>R) R,oB [(5,.ptr 2 j 0 0)] [(2,some<|.box j 129<|BX l)]<|AU (a:=rI l.Clock) R AI (.inl R) R R,oB [(3,.ptr 3 (j+1) 0 0)] [(3,some<|.box (j+1) 129<|BX m)]<|fB R Hm (.inl R) (λ_=>R) R,oB [(7,.ptr 3 (j+1) 0 0)] [(3,some<|.box (j+1) 129<|BX m)]<|AU (a:=rI m.Clock) R AI (.inl R) R R,oD (λ_=>[(6,rI l.Clock),(8,rI m.Clock)]) (λ_=>[]) λF e O n=>DJ (r:=rI q) (caps:=[]) (bs:=[rI l.Clock,rI m.Clock]) R (.inl R) R ⟨⟨_,(.inl R),.d R⟩,⟨_,(.inl R),.d R⟩,Za⟩ (λ_=>LJ<|w) R,oB [(2,.ptr 2 j 0 0)] [(2,some<|.box j 129<|BX l)]<|fB R Jt (.inl R) (λ_=>R) R,oB [(10,.ptr 2 j 0 1)] [(2,some<|.box j 129<|BX l)]<|AU (a:=rI l.Site) R AI (.inl R) R R,oB [(3,.ptr 3 (j+1) 0 0)] [(3,some<|.box (j+1) 129<|BX m)]<|fB R Jt (.inl R) (λ_=>R) R,oB [(12,.ptr 3 (j+1) 0 1)] [(3,some<|.box (j+1) 129<|BX m)]<|AU (a:=rI m.Site) R AI (.inl R) R R,Za⟩) λF T=>?_
 refine BU [0,1,2,3,4,5,6,7,8,9,10,11,12,13] [2,3] ?_
 exact AE E λI A J=>cL (LJ<|A) R<|sS R (Bo 15 R BL (f:=(AY .i64)) (l:=([q,I]:List Int)) ⟨R,⟨_,iL,R⟩,R,⟨_,iL,R⟩,Za⟩ R (λ_=>R) R)<|AE J λU B M=>cL (Q5<|B) R<|mA R<|aZ<|C _<|Zi<|yI M R
theorem ki{w r}(h:Jc w=some r):AZ prog 76 [qf w] (rI r):=by
 unfold Jc at h
 refine mF func76 ntmps76 R λn0=>aU<|mA R<|aZ<|aS λK2 c2 E=>aU<|mM R<|xL Dq R<|mM R<|aZ<|Zf<|BI h λo1 A F B=>?_
 have J1:∀(u2:Unit) (i5:NN),o1=.nrm u2→K2 ⟨[],[],(i5 0),31⟩:=by
  intro u2 i5 e
  have h1:=F _ e
  exact c2 _<|zI h1 R id
 refine Zv (λ(I:Int) C=>⟨[(0,qf w),(6,qf w),(7,rL w),(8,rI I)],[],(C 0),31⟩) (AH [n0]) A wk ?_
 intro I C v1 J m
 have h2:JA w I=some v1:=J;unfold JA at h2
 refine aU<|xS R<|aZ<|aT λc6=>cI R h2 (λM=>?_) λM=>?_
 ·refine Zc<|c6 _<|aT λc7=>Zf<|aU<|mM R<|AE M λj O h4=>xI Dq R O<|xB ((BX j)) GI R<|sS R (BB (cs:=PE) 4 R Pg R R)<|mA R<|Zj R R (Az (ds:=(BX j)) R QJ iL R iL R R R R)<|aZ<|aT λc9=>aU<|xC GI R<|AE h4 λe1 T h5=>cL (bZ<|T) R<|mA R<|aZ<|aU<|mM R<|xU R<|aZ<|cI R h5 (λU=>?_) λU=>?_
  ·refine aT λV=>aF [5] ?_
   exact aR<|mM R<|mA R<|aZ<|V _<|Zi<|yI (B _<|xH m U) R
  refine Zc<|c9 _<|aT λX=>aG [0,3,4,6,7,8] [4] ?_
  refine Zz BV (by kernel_rfl) ?_
  refine qP R (AK R iL)<|qP R (BY R iL iL)<|qP R (AK R iL)<|qO R (AK R iL)<|qO R (AK R iL)<|AE U λx5 Z h7=>qO R (CQ R (iR R) iL<|Af Z)<|AE h7 λl a0 h8=>qO R (A9 R Dq.slice (iR R) (iR R) (λ_=>R)<|Af a0)<|qO R (Cf (cs:=(BX l)) R GI (iR R) R R)<|qO R (DU R GI iL R R)<|AE h8 λr1 a1 h9=>OY (.one R R R) R R (r:=rI r1) (caps:=[]) (bs:=[.agg<|BX l,.agg<|BX j]) R iL R ⟨⟨_,(iR R),.g (cs:=[.int .i64 l.Clock,.int .i64 l.Site,.int .i64 l.Kind,.int .i64 l.Item,.int .i64 l.Parent,.str l.Place,.str l.Name,.str l.Value]) R R⟩,⟨_,(iR R),.g (cs:=[.int .i64 j.Clock,.int .i64 j.Site,.int .i64 j.Kind,.int .i64 j.Item,.int .i64 j.Parent,.str j.Place,.str j.Name,.str j.Value]) R R⟩,Za⟩ (λhg=>mV<|Af a1 hg) R<|qO R (Cw R (iR R) iL)<|qP R (BK R iL<|iR R)<|AQ.nil<|X _<|cI R h9 (λq=>?_) λq=>?_
  ·exact zI (B _<|xH m q) R id
  exact Zc<|c7 _<|aR<|AE q λx7 a2 a6=>xA R a2<|mM R<|Zh<|Zr a6 (AH [((C 0)+1)]) wk
 exact Zm<|E _ _ wk<|J1 _ (AH [(C 0)])<|xH m M
theorem jr{n1 r}(h:Cz n1=some r):AZ prog 36 (Io n1) (rI r):=by
 unfold Cz at h
 refine mF func36 ntmps36 R λA=>aU<|sS R (Aw (cs:=(At n1)) 1 R iL R R)<|mA R<|aZ<|aT λc2=>Zf<|aU<|lF Dp AI R R<|xS R<|mM R<|vF Dp AI R R<|vQ R (BY R (iR R) iL)<|xO R<|mA R<|aZ<|cI R h (λV=>?_) λV=>?_
 ·exact zI V R id
 refine aT λc5=>aG [1] [1] ?_
 refine aR<|lF CT AI R R<|xS R<|mM R<|vF CT AI R R<|vQ R (Cw R (iR R) iL)<|xO R<|mM R<|vF Dp AI R R<|vQ R (A8 R (iR R) iL)<|vF CT AI R R<|vQ R (A8 R (iR R) iL)<|vQ R (WO R underlying4 (iR R)<|iR R)<|xO R<|mA R<|aZ<|c5 _<|cI R V (λX=>?_) λX=>?_
 ·exact zI X R id
 refine Zc<|c2 _<|aT λc7=>aT λc8=>aG [1] [1] ?_
 refine aR<|lF Kz Ca R R<|AE X λe1 Z h3=>cL (Ru<|Z) R<|mA R<|aZ<|c8 _<|aU<|mM R<|xU R<|aZ<|cI R h3 (λh4=>?_) λh4=>?_
 ·exact aU<|mM R<|mA R<|aZ<|Zi<|yI h4 R
 refine Zc<|c7 _<|aT λa0=>?_
 refine Zz BV (by kernel_rfl) ?_
 refine qP R (fB R CT iL fR R)<|qP R (AU (a:=rI n1.Kind) R AI iL R R)<|AE h4 λl O h5=>AQ.stepC R R R (r:=rB l) (caps:=[]) (bs:=[rI n1.Kind]) R iL R ⟨⟨_,iL,.d R⟩,Za⟩ (λ_=>Vi<|O) R<|qP R (AK R iL)<|qO R (fB R CT iL fR R)<|qO R (AU (a:=rI n1.Kind) R AI (iR R) R R)<|AE h5 λm a1 h6=>OY (.one R R R) R R (r:=rB m) (caps:=[]) (bs:=[rI n1.Kind]) R iL R ⟨⟨_,(iR R),.d R⟩,Za⟩ (λhg=>lQ<|Af a1 hg) R<|qP R (Ct R iL<|iR R)<|qP R (fB R CT iL fR R)<|qP R (AU (a:=rI n1.Kind) R AI iL R R)<|AE h6 λj B h7=>AQ.stepC R R R (r:=rB j) (caps:=[]) (bs:=[rI n1.Kind]) R iL R ⟨⟨_,iL,.d R⟩,Za⟩ (λ_=>lI<|B) R<|qP R (EF R iL)<|qP R (EF R iL)<|AQ.nil<|a0 _<|aT λa2=>aS λa6 a7 C=>aG [1,4,5] [1] ?_
 refine aR<|mM R<|sQ R (A4 R iL)<|mM R<|vF EH EN R R<|vQ R (DM R B1.slice<|iR R)<|vQ R (BY R (iR R) iL)<|xN R<|mM R<|vM R<|vQ R (A4 R<|iR R)<|vQ R (AK R<|iR R)<|wQ R (fB R DF iL fR R)<|wQ R (GL (ds:=(Bs n1.Grid)) R Fm (iR R) R R R) ?_
 refine wQ R (Bq R dT (q:=[]) (by exact Za) (cs:=PJ)<|by rfl) ?_
 refine Ba h7 λp1 T a8=>?_
 have J1:∀(x1:Bool) (i1:NN),p1=x1→a6 ⟨[(1,.ptr 1 A 0 0),(4,rB<|(l||m)),(5,rB j),(81,rB x1)],[(1,some<|.box A 47<|At n1)],(i1 0),107⟩:=by
  intro x1 i1 e
  have h8:=a8 _ e
  refine a7 _<|cI R h8 (λh9=>?_) λh9=>?_
  ·exact zI h9 R id
  refine Zc<|a2 _<|aT λaa=>Zf<|aU<|mM R<|mA R<|aZ<|cI R h9 (λF=>?_) λF=>?_
  ·refine aT λab=>?_
   refine Zz BV (by kernel_rfl) ?_
   exact qP R (fB R EH iL fR R)<|qP R (AU (a:=qe n1.Flow) R EN iL R R)<|qP R (fB R CT iL fR R)<|qP R (AU (a:=rI n1.Kind) R AI iL R R)<|AQ.stepC R R R (r:=rB l) (caps:=[]) (bs:=[rI n1.Kind]) R iL R ⟨⟨_,iL,.d R⟩,Za⟩ (λ_=>Vi<|O) R<|AE F λr4 ac ad=>AQ.stepC R R R (r:=rI r4) (caps:=[]) (bs:=[qe n1.Flow,rB l]) R iL R ⟨⟨_,iL,.d R⟩,⟨_,iL,.d R⟩,Za⟩ (λ_=>lR<|ac) R<|qP R (EF R iL)<|AQ.nil<|ab _<|Zi<|yI ad R
  refine aU<|mM R<|mA R<|aZ<|cI R F (λI=>?_) λI=>?_
  ·refine aT λae=>aU<|sQ R (fB R DF iL fR R)<|sQ R (GL (ds:=(Bs n1.Grid)) R Fm iL R R R)<|AE I λe2 af ag=>cL (jT<|af) R<|mA R<|aZ<|aT λah=>aG [1,6] [1] ?_
   refine aR<|mM R<|xU R<|aZ<|ah _<|cI R ag (λJ=>?_) λJ=>?_
   ·exact aU<|mM R<|mA R<|aZ<|Zi<|yI J R
   exact Zc<|ae _<|aU<|lF CT AI R R<|sQ R (fB R DF iL fR R)<|lF DS Dc R R<|AE J λr5 ai aj=>cL (fJ<|ai) R<|mA R<|aZ<|Zi<|yI aj R
  exact Zc<|aa _<|aU<|lF Fw GM R R<|AE I λr6 ak al=>cL (ki<|ak) R<|mA R<|aZ<|Zi<|yI al R
 refine AL.split (((!(l||m))&&(0<(n1.Flow.length:Int)))==false) (λq=>?_) λq=>?_
 ·have E:=Cd q T
  refine AL.weak (by exact Lj (e':=[(1,.ptr 1 A 0 0),(4,rB<|(l||m)),(5,rB j),(51,rB<|(l||m)),(52,rB<|(!(l||m))),(53,rB<|(!(l||m))),(58,rB<|((!(l||m))&&(0<(n1.Flow.length:Int)))),(59,rB<|((!(l||m))&&(0<(n1.Flow.length:Int)))),(60,rB j),(61,rB<|(!j)),(62,rB<|(!j)),(63,.whn ((!j)==true)<|.ptr 1 A 0 4),(64,.whn ((!j)==true)<|.agg<|Bs n1.Grid),(65,.whn ((!j)==true)<|.agg PJ)]) q ⟨.inl R,.inl R,.inl R,.inl R,.inl R,.inl R,.inl R,.inl R,.inr iL,.inr iL,.inr iL,.inr<|.inr<|.inl ⟨_,_,R,R⟩,.inr<|.inr<|.inl ⟨_,_,R,R⟩,.inr<|.inr<|.inl ⟨_,_,R,R⟩,Za⟩) ?_
  refine AL.split ((!j)==true) (λw=>?_) λw=>?_
  ·have M:=Cd w E
   refine AL.weak (by exact Lj (e':=[(1,.ptr 1 A 0 0),(4,rB<|(l||m)),(5,rB j),(51,rB<|(l||m)),(52,rB<|(!(l||m))),(53,rB<|(!(l||m))),(58,rB<|((!(l||m))&&(0<(n1.Flow.length:Int)))),(59,rB<|((!(l||m))&&(0<(n1.Flow.length:Int)))),(60,rB j),(61,rB<|(!j)),(62,rB<|(!j)),(63,.ptr 1 A 0 4),(64,.agg<|Bs n1.Grid),(65,.agg PJ)]) w ⟨.inl R,.inl R,.inl R,.inl R,.inl R,.inl R,.inl R,.inl R,.inl R,.inl R,.inl R,.inr iL,.inr iL,.inr iL,Za⟩) ?_
   refine AL.weak (by exact Ae.cv (e':=[(1,.ptr 1 A 0 0),(4,rB<|(l||m)),(5,rB j),(51,rB<|(l||m)),(52,rB<|(!(l||m))),(53,rB<|(!(l||m))),(58,rB<|((!(l||m))&&(0<(n1.Flow.length:Int)))),(59,rB<|((!(l||m))&&(0<(n1.Flow.length:Int)))),(60,rB j),(61,rB<|(!j)),(62,rB<|(!j)),(63,.ptr 1 A 0 4),(64,.agg<|Bs n1.Grid),(65,.agg [rI 0,rI 0,.r<|.sl [],.r<|.sl []])]) (h':=[(1,some<|.box A 47<|At n1)]) ⟨jL,jL,jL,jL,jL,jL,jL,jL,jL,jL,jL,jL,jL,.inr ⟨_,_,R,R,⟨.inl R,.inl R,.inr<|.inr ⟨R,R⟩,.inr<|.inr ⟨R,R⟩,Za⟩⟩,Za⟩ ⟨.inl R,Za⟩ nL) ?_
   exact AE M λr7 an ao=>F8 (.one R R R) w R R (DJ (r:=rB r7) (caps:=[]) (bs:=[.agg<|Bs n1.Grid,.agg [rI 0,rI 0,.r<|.sl [],.r<|.sl []]]) R (.inl R) R ⟨⟨_,(.inl R),.g (cs:=[.int .i64 n1.Grid.Rows,.int .i64 n1.Grid.Cols,.sl<|n1.Grid.Cells.map Am.row,.sl<|n1.Grid.Merges.map Ak.row]) R R⟩,⟨_,(.inl R),.g (cs:=[.int .i64 0,.int .i64 0,.sl<|[].map Am.row,.sl<|[].map Ak.row]) R R⟩,Za⟩ (λ_=>mR<|an) R)<|F8 (.one R R R) w R R (CS (A4 R<|.inl R) _)<|F8 (.one R R R) q R R (CS (BK R (.inl R)<|.inl R) _)<|sQ R (Ct R iL iL)<|mM R<|vF CT AI R R<|AE ao λr8 aq ar=>vL (λhg=>Qt<|Af aq hg) R<|vQ R (A4 R<|iR R)<|vQ R (AK R<|iR R)<|wQ R (fB R Fw iL fR R)<|wQ R (AU (a:=qf n1.Draw) R GM (iR R) R R)<|wQ R (DM R Dq.slice<|iR R)<|wQ R (BY R (iR R) iL)<|vQ R (BK R (iR R)<|iR R)<|xO R<|Zh<|C _ _ wk<|J1 _ (AH [(A+1)]) (Zg ar).symm
  ·have M:=CY w E
   exact Eh (.one R R R) w R R<|Eh (.one R R R) w R R<|F8 (.one R R R) q R R (CS (BK R (.inl R)<|iR R) _)<|sQ R (Ct R iL iL)<|mM R<|vF CT AI R R<|AE M λr9 au av=>vL (λhg=>Qt<|Af au hg) R<|vQ R (A4 R<|iR R)<|vQ R (AK R<|iR R)<|wQ R (fB R Fw iL fR R)<|wQ R (AU (a:=qf n1.Draw) R GM (iR R) R R)<|wQ R (DM R Dq.slice<|iR R)<|wQ R (BY R (iR R) iL)<|vQ R (BK R (iR R)<|iR R)<|xO R<|Zh<|C _ _ wk<|J1 _ (AH [(A+1)]) (Zg av).symm
 ·have E:=CY q T
  exact Eh (.two R R R) (VN q) R R<|Eh (.two R R R) (VN q) R R<|Eh (.one R R R) q R R<|xO R<|mM R<|vF CT AI R R<|AE E λax U aw=>vL (λhg=>Qt<|Af U hg) R<|vQ R (A4 R<|iR R)<|vQ R (AK R<|iR R)<|wQ R (fB R Fw iL fR R)<|wQ R (AU (a:=qf n1.Draw) R GM (iR R) R R)<|wQ R (DM R Dq.slice<|iR R)<|wQ R (BY R (iR R) iL)<|vQ R (BK R (iR R)<|iR R)<|xO R<|Zh<|C _ _ wk<|J1 _ (AH [(A+1)]) (Zg aw).symm
theorem So{q r}(h:HU q=some r):AZ prog 42 [qe q] (.r<|.sl<|r.map<|AY .i64):=by
 unfold HU at h
 refine mF func42 ntmps42 R λF=>aU<|mA R<|aZ<|aU<|mA R<|aZ<|aS λK3 c3 M=>aU<|mM R<|xL B1 R<|mM R<|aZ<|Zf<|Ba h λo1 C O=>?_
 have J1:∀(j:List Int) (I:NN),o1=j→K3 ⟨[(3,.own 5003<|I 0)],[(5003,some<|.arr (I 0) 3 1<|j.map<|AY .i64)],(I 1),22⟩:=by
  intro j I e
  have h1:=O _ e
  exact c3 _<|aU<|mM R<|mA R<|aZ<|Zi<|CG (P:=prog) (λ(r:(List Int))=>.r<|.sl<|r.map<|AY .i64) h1 iL<|.t<|.one<|.own R
 refine Ch (λ(J:Int) (l:List Int) w=>⟨[(3,.own 5003<|w 0),(6,qe q),(7,rL q),(8,rI J)],[(5003,some<|.arr (w 0) 3 1<|l.map<|AY .i64)],(w 1),22⟩) (AH [F,(F+1)]) C (Zx (Zx (F9 3 5003 3 1 (by decide) R)<|by exact Ae.cv (e':=[(0,qe q),(2,cZ),(3,.own 5003 F),(6,qe q),(7,rL q),(8,rI 0)]) (h':=[(5003,some<|.arr F 3 1<|([]:List Int).map<|AY .i64)]) ⟨jL,jL,jL,jL,jL,jL,Za⟩ ⟨.inl R,Za⟩ nL) wk) ?_
 intro J l w v1 T U
 have h2:FD q J l=some v1:=T;unfold FD at h2
 refine aU<|xS R<|aZ<|aT λc7=>cI R h2 (λV=>?_) λV=>?_
 ·refine Zc<|c7 _<|aS λK8 c8 E=>Zf<|Ba V λp1 X Z=>?_
  have J2:∀(m:List Int) (B:NN),p1=m→K8 ⟨[(3,.own 5003<|B 0),(6,qe q),(7,rL q),(8,rI J)],[(5003,some<|.arr (B 0) 3 1<|m.map<|AY .i64)],(B 1),22⟩:=by
   intro m B e
   have h4:=Z _ e
   exact c8 _<|aR<|AE h4 λx4 a0 h5=>xA R a0<|mM R<|Zh<|ZG h5 (AH [(B 0),(B 1)]) wk
  refine aU<|AE X λx5 a1 h6=>xI B1 R a1<|xB ((CF x5)) IA R<|sS R (BB (cs:=Mf) 5 R MT R R)<|Zj R R (Az (ds:=(CF x5)) R LL iL R iL R R R R)<|aZ<|aU<|lF Dh AI R R<|xU R<|aZ<|cI R h6 (λh7=>?_) λh7=>?_
  ·exact aR<|mM R<|lF Dh AI R R<|sS R (Bo 18 R BL (f:=(AY .i64)) (l:=([x5.Ref]:List Int)) ⟨R,⟨_,iL,R⟩,Za⟩ R (λ_=>R) R)<|AE h7 λa2 A h8=>sS R (DB R BL iL R (.inr<|.inl ⟨_,_,iL,R⟩) A)<|mA R<|Zh<|E _ _ wk<|J2 _ (AH [((w 1)+2),((w 1)+3)]) (Zg h8).symm
  exact Zc<|E _ _ wk<|J2 _ (AH [(w 0),((w 1)+1)]) (Zg h7).symm
 exact Zm<|M _ _ wk<|J1 _ (AH [(w 0),(w 1)])<|xH U V
theorem gw{w r}(h:JC w=some r):Ax prog 42 1 [qe w] [] (λM h'=>∃(i:Nat→Nat),M=.own 1000 (i 0)∧h'=[(1000,some<|.arr (i 0) 3 1<|r.map<|AY .i64)]):=by
 unfold JC at h
 refine DV func42 R R ntmps42 (Zq R) λI=>aU<|mA R<|aZ<|aU<|mA R<|aZ<|aS λK3 c3 O=>aU<|mM R<|xL B1 R<|mM R<|aZ<|Zf<|Ba h λo1 E T=>?_
 have J1:∀(j:List Int) (l:NN),o1=j→K3 ⟨[(3,.own 5003<|l 0)],[(5003,some<|.arr (l 0) 3 1<|j.map<|AY .i64)],(l 1),22⟩:=by
  intro j l e
  have h1:=T _ e
  refine c3 _<|aU<|mM R<|mA R<|aZ ?_
  exact Zi<|ZA (s':=⟨[(2,.own 1000<|l 1)],[(1000,some<|.arr (l 1) 3 1<|j.map<|AY .i64)],((l 1)+1),22⟩) (Zx (Zx (Ae.ren 2 5003 1000 R R R)<|by exact Ae.cv (e':=[(2,.own 1000<|l 1)]) (h':=[(1000,some<|.arr (l 1) 3 1<|j.map<|AY .i64)]) ⟨jL,Za⟩ ⟨.inl R,Za⟩ nL) wk)<|Bf (λ(r:(List Int)) M h'=>∃(i:Nat→Nat),M=.own 1000 (i 0)∧h'=[(1000,some<|.arr (i 0) 3 1<|r.map<|AY .i64)]) h1<|by exact⟨.own 1000<|l 1,[(1000,some<|.arr (l 1) 3 1<|j.map<|AY .i64)],R,⟨.inr R,Za⟩,R,R,AH [(l 1)],R,R⟩
 refine Ch (λ(J:Int) (m:List Int) A=>⟨[(3,.own 5003<|A 0),(6,qe w),(7,rL w),(8,rI J)],[(5003,some<|.arr (A 0) 3 1<|m.map<|AY .i64)],(A 1),22⟩) (AH [I,(I+1)]) E (Zx (Zx (F9 3 5003 3 1 (by decide) R)<|by exact Ae.cv (e':=[(0,qe w),(2,cZ),(3,.own 5003 I),(6,qe w),(7,rL w),(8,rI 0)]) (h':=[(5003,some<|.arr I 3 1<|([]:List Int).map<|AY .i64)]) ⟨jL,jL,jL,jL,jL,jL,Za⟩ ⟨.inl R,Za⟩ nL) wk) ?_
 intro J m A v1 U V
 have h2:EY w J m=some v1:=U;unfold EY at h2
 refine aU<|xS R<|aZ<|aT λc7=>cI R h2 (λX=>?_) λX=>?_
 ·refine Zc<|c7 _<|aS λK8 c8 F=>Zf<|Ba X λp1 Z a0=>?_
  have J2:∀(q:List Int) (C:NN),p1=q→K8 ⟨[(3,.own 5003<|C 0),(6,qe w),(7,rL w),(8,rI J)],[(5003,some<|.arr (C 0) 3 1<|q.map<|AY .i64)],(C 1),22⟩:=by
   intro q C e
   have h4:=a0 _ e
   exact c8 _<|aR<|AE h4 λx4 a1 h5=>xA R a1<|mM R<|Zh<|ZG h5 (AH [(C 0),(C 1)]) wk
  refine aU<|AE Z λx5 a2 h6=>xI B1 R a2<|xB ((CF x5)) IA R<|sS R (BB (cs:=Mf) 5 R MT R R)<|Zj R R (Az (ds:=(CF x5)) R LL iL R iL R R R R)<|aZ<|aU<|lF Dh AI R R<|xU R<|aZ<|cI R h6 (λh7=>?_) λh7=>?_
  ·exact aR<|mM R<|lF Dh AI R R<|sS R (Bo 18 R BL (f:=(AY .i64)) (l:=([x5.Ref]:List Int)) ⟨R,⟨_,iL,R⟩,Za⟩ R (λ_=>R) R)<|AE h7 λa6 B h8=>sS R (DB R BL iL R (.inr<|.inl ⟨_,_,iL,R⟩) B)<|mA R<|Zh<|F _ _ wk<|J2 _ (AH [((A 1)+2),((A 1)+3)]) (Zg h8).symm
  exact Zc<|F _ _ wk<|J2 _ (AH [(A 0),((A 1)+1)]) (Zg h7).symm
 exact Zm<|O _ _ wk<|J1 _ (AH [(A 0),(A 1)])<|xH V X
theorem eX{n1 r}(h:GX n1=some r):AZ prog 38 (Io n1) (.r<|.sl<|r.map<|AY .i64):=by
 unfold GX at h
 refine mF func38 ntmps38 R λn0=>aU<|sS R (Aw (cs:=(At n1)) 1 R iL R R)<|mA R<|aZ<|aT λc2=>aR<|lF EH EN R R<|AE h λw1 I h1=>?_
 refine Zw [8] (hc:=[]) (bs:=[qe n1.Flow]) (caps:=[]) R R R R iL R ⟨.inl ⟨iL,R⟩,Za⟩ Za (by decide) (gw I) ?_
 intro i1 n2
 refine BU [0,1,2,6,7,8] [1,8] ?_
 refine mA R<|aZ<|c2 _<|aS λK3 c3 J=>aU<|sQ R (fB R DF iL fR R)<|lF DS Dc R R<|xL Bm R<|mM R<|aZ<|Zf<|Ba h1 λo1 B M=>?_
 have J1:∀(j:List Int) (E:NN),o1=j→K3 ⟨[(3,.own 8<|E 0)],[(8,some<|.arr (E 0) 3 1<|j.map<|AY .i64)],(E 1),27⟩:=by
  intro j E e
  have h2:=M _ e
  exact c3 _<|aU<|mM R<|mA R<|aZ<|Zi<|CG (P:=prog) (λ(r:(List Int))=>.r<|.sl<|r.map<|AY .i64) h2 iL<|.t<|.one<|.own R
 refine Ch (λ(F:Int) (l:List Int) q=>⟨[(3,.own 8<|q 0),(11,qc n1.Grid.Cells),(12,rL n1.Grid.Cells),(13,rI F)],[(8,some<|.arr (q 0) 3 1<|l.map<|AY .i64)],(q 1),27⟩) (AH [(i1 0),n2]) B wk ?_
 intro F l q v1 O T
 have h3:Ds n1 F l=some v1:=O;unfold Ds at h3
 refine aU<|xS R<|aZ<|aT λc7=>cI R h3 (λU=>?_) λU=>?_
 ·refine Zc<|c7 _<|aS λK8 c8 C=>Zf<|Ba U λp1 V X=>?_
  have J2:∀(m:List Int) (A:NN),p1=m→K8 ⟨[(3,.own 8<|A 0),(11,qc n1.Grid.Cells),(12,rL n1.Grid.Cells),(13,rI F)],[(8,some<|.arr (A 0) 3 1<|m.map<|AY .i64)],(A 1),27⟩:=by
   intro m A e
   have h5:=X _ e
   exact c8 _<|aR<|AE h5 λx4 Z h6=>xA R Z<|mM R<|Zh<|ZG h6 (AH [(A 0),(A 1)]) wk
  refine aU<|AE V λx5 a0 h7=>xI Bm R a0<|xB ((BN x5)) Dy R<|sS R (BB (cs:=GD) 5 R GE R R)<|Zj R R (Az (ds:=(BN x5)) R GO iL R iL R R R R)<|aZ<|aU<|lF DG AI R R<|xU R<|aZ<|cI R h7 (λh8=>?_) λh8=>?_
  ·exact aR<|mM R<|lF DG AI R R<|sS R (Bo 23 R BL (f:=(AY .i64)) (l:=([x5.Ref]:List Int)) ⟨R,⟨_,iL,R⟩,Za⟩ R (λ_=>R) R)<|AE h8 λa1 w h9=>sS R (DB R BL iL R (.inr<|.inl ⟨_,_,iL,R⟩) w)<|mA R<|Zh<|C _ _ wk<|J2 _ (AH [((q 1)+2),((q 1)+3)]) (Zg h9).symm
  exact Zc<|C _ _ wk<|J2 _ (AH [(q 0),((q 1)+1)]) (Zg h8).symm
 exact Zm<|J _ _ wk<|J1 _ (AH [(q 0),(q 1)])<|xH T U
theorem TN{n1 i r}(h:LD n1 i=some r):AZ prog 80 [.agg<|At n1,rI i] (rI r):=by
 unfold LD at h
 refine mF func80 ntmps80 R λq=>aU<|sS R (Aw (cs:=(At n1)) 2 R iL R R)<|mA R<|aZ<|aT λm=>Zf<|aU<|lF Dp AI R R<|mM R<|xS R<|mA R<|aZ<|cI R h (λj=>?_) λj=>?_
 ·exact zI j R id
 refine aU<|lF Dp AI R R<|mM R<|sQ R (BY R iL iL)<|mA R<|aZ<|cI R j (λl=>?_) λl=>?_
 ·exact zI l R id
 exact Zc<|m _<|zI l R id
theorem jQ{l a r}(h:Lx l a=some r):AZ prog 79 [qb l,rI a,.fn 80 []] (.tup [rI r.1,rB r.2]):=by
 unfold Lx at h
 refine mF func79 ntmps79 R λn0=>aU<|mA R<|mA R<|aZ<|aU<|mM R<|xL Bh R<|mA R<|aZ<|aU<|mM R<|mA R<|mA R<|aZ<|aS λK4 c4 A=>Zf<|Ba h λo1 m B=>?_
 have J1:∀(i8:Int) (i9:NN),o1=i8→K4 ⟨[(0,qb l),(1,rI a),(2,.fn 80 []),(8,rL l),(9,rI i8)],[],(i9 0),49⟩:=by
  intro i8 i9 e
  have h1:=B _ e
  exact c4 _<|aU<|mM R<|mM R<|mM R<|xS R<|mM R<|vM R<|vM R<|vM R<|AE h1 λj C h2=>vQ R (A9 R Bh.slice (iR R) (iR R) (λ_=>R)<|Af C)<|vQ R (Cf (cs:=(At j)) R DO (iR R) R R)<|vM R<|AE h2 λr1 E h3=>AL.stepW (.one R R R) R R (DJ (r:=rI r1) (caps:=[]) (bs:=[.agg<|At j,rI a]) R (iR R) R ⟨⟨_,(iR R),.g (cs:=[.int .i64 j.ID,.int .i64 j.Kind,.sl<|j.Attrs.map AG.row,.sl<|j.Flow.map AP.row,.int .i64 j.Grid.Rows,.int .i64 j.Grid.Cols,.sl<|j.Grid.Cells.map Am.row,.sl<|j.Grid.Merges.map Ak.row,.sl<|j.Draw.map Au.row]) R R⟩,⟨_,(iR R),.d R⟩,Za⟩ (λhg=>TN<|Af E hg) R)<|vQ R (A8 R (iR R) iL)<|xN R<|mA R<|mA R<|aZ<|Zi<|EP (P:=prog) (λ(r:Int × Bool)=>rI r.1) (λ(r:Int × Bool)=>rB r.2) h3 iL (.t<|.d R)<|.t<|.d R
 refine Ch (λ(F:Int) (I:Int) q=>⟨[(0,qb l),(1,rI a),(2,.fn 80 []),(8,rL l),(9,rI F),(10,rI I)],[],(q 0),49⟩) (AH [n0]) m wk ?_
 intro F I q v1 J M
 have h4:Er l a F I=some v1:=J;unfold Er at h4
 refine aT λc6=>aU<|mM R<|mM R<|xS R<|aZ<|cI R h4 (λO=>?_) λO=>?_
 ·refine Zc<|c6 _<|Zf<|aU<|mM R<|mM R<|AE O λx3 T h6=>xA R T<|sQ R (D8 R underlying3 underlying73 iL)<|sQ R (RR (b:=1) R iL iL)<|sQ R (D8 R underlying73 underlying3 iL)<|mA R<|aZ<|aT λc9=>aF [0,1,2,8,9,10,11] ?_
  refine aR<|mM R<|mM R<|mM R<|AE h6 λx4 U h7=>xI Bh R U<|xB ((At x4)) DO R<|mM R<|AE h7 λr2 V h8=>cL (TN<|V) R<|xS R<|aZ<|c9 _<|cI R h8 (λX=>?_) λX=>?_
  ·refine aF [0,1,2,8,10,11] ?_
   exact aR<|mM R<|AE X λa0 w Z=>xA R w<|mA R<|Zh<|ZG Z (AH [(q 0)]) wk
  refine aF [0,1,2,8,9,11] ?_
  exact aR<|mM R<|mA R<|Zh<|ZG X (AH [(q 0)]) wk
 exact Zm<|A _ _ wk<|J1 _ (AH [(q 0)])<|xH M O
theorem OU{d1 i r}(h:FB d1 i=some r):AZ prog 41 [.agg [qb d1.Nodes],rI i] (.tup [rI r.1,rB r.2]):=by
 unfold FB at h
 exact mF func41 ntmps41 R λw=>aU<|sS R (Aw (cs:=[qb d1.Nodes]) 2 R iL R R)<|mA R<|mA R<|aZ<|aU<|lF B8 B6 R R<|mM R<|Ee h λl m j q=>sS R (DJ (r:=.tup [rI l,rB m]) (caps:=[]) (bs:=[qb d1.Nodes,rI i,.fn 80 []]) R iL R ⟨⟨_,iL,.d R⟩,⟨_,iL,.d R⟩,⟨_,iL,.one<|.closed (.fn 80 []) R⟩,Za⟩ (λ_=>jQ<|j) R)<|xX R<|xX R<|mA R<|mA R<|aZ<|Zi<|EP (P:=prog) (λ(r:Int × Bool)=>rI r.1) (λ(r:Int × Bool)=>rB r.2) q iL (.t<|.d R)<|.t<|.d R
theorem fN{j v1 r}(h:Nq j v1=some r):AZ prog 62 [.r<|.sl<|j.map<|AY .i64,rI v1] (rI r):=by
 unfold Nq at h
 refine mF func62 ntmps62 R λX=>aU<|mA R<|aZ<|aS λZ c2 w=>aU<|mM R<|xL BL R<|mM R<|aZ<|Zf<|BI h λo1 l A B=>?_
 have J1:∀(T:Unit) (U:NN),o1=.nrm T→Z ⟨[],[],(U 0),19⟩:=by
  intro T U e
  have h1:=A _ e
  exact c2 _<|zI h1 R id
 refine Zv (λ(C:Int) q=>⟨[(0,.r<|.sl<|j.map<|AY .i64),(1,rI v1),(7,rL j),(8,rI C)],[],(q 0),19⟩) (AH [X]) l wk ?_
 intro C q v2 E m
 have V:IQ j v1 C=some v2:=E;unfold IQ at V
 refine aU<|xS R<|aZ<|aT λc6=>cI R V (λF=>?_) λF=>?_
 ·refine Zc<|c6 _<|aT λc7=>Zf<|aU<|mM R<|mA R<|aZ<|aU<|mM R<|mM R<|mM R<|AE F λx4 I h4=>xI BL R I<|xV (.int .i64 x4) AI R<|xQ R<|aZ<|cI R h4 (λJ=>?_) λJ=>?_
  ·refine aT λM=>aF [5] ?_
   exact aR<|mM R<|mA R<|aZ<|M _<|Zi<|yI (B _<|xH m J) R
  refine Zc<|c7 _<|aF [0,1,7,8] ?_
  exact aR<|AE J λx5 O h6=>xA R O<|mM R<|Zh<|Zr h6 (AH [(q 0)]) wk
 exact Zm<|w _ _ wk<|J1 _ (AH [(q 0)])<|xH m F
theorem YB{l v1 r}(h:Jo l v1=some r):AZ prog 34 [.r<|.sl<|l.map<|AY .i64,rI v1] (rB r):=by
 unfold Jo at h
 exact mF func34 ntmps34 R λq=>aU<|mA R<|aZ<|aU<|mM R<|mM R<|AE h λw j m=>cL (fN<|j) R<|sQ R (Cw R iL iL)<|mA R<|aZ<|Zi<|yB m R
theorem gC{p k r}(h:KG p k=some r):AZ prog 77 [rI p,rI k] (rB r):=by
 unfold KG at h
 refine mF func77 ntmps77 R λC=>aU<|mA R<|aZ<|aU<|mA R<|aZ<|aS λK3 c3 j=>aU<|mM R<|aZ<|Zf<|Ba h λp1 E J=>?_
 have l:∀(M:List Int) (i1:NN),p1=M→K3 ⟨[(1,rI k),(5,.r<|.sl<|M.map<|AY .i64)],[],(i1 0),29⟩:=by
  intro M i1 e
  have h1:=J _ e
  exact c3 _<|aU<|mM R<|mM R<|AE h1 λr1 O h2=>cL (YB<|O) R<|mA R<|aZ<|Zi<|yB h2 R
 refine aU<|xQ R<|mA R<|aZ<|aC R (λm=>?_) λm=>?_
 ·have T:=Cd m E
  refine aR<|sS R (Bo 9 R BL (f:=(AY .i64)) (l:=([1,6,7,10,11,12]:List Int)) ⟨R,⟨_,iL,R⟩,R,⟨_,iL,R⟩,R,⟨_,iL,R⟩,R,⟨_,iL,R⟩,R,⟨_,iL,R⟩,R,⟨_,iL,R⟩,Za⟩ R (λ_=>R) R)<|mA R<|Zh ?_
  exact j _ _ (Zx (by exact Ae.frz (e':=[(0,rI p),(1,rI k),(4,rB false),(5,.r<|.sl<|[1,6,7,10,11,12].map<|AY .i64),(6,rI p),(7,rB<|(decide<|p=0)),(8,rB<|(decide<|p=0)),(9,.r<|.sl<|[1,6,7,10,11,12].map<|AY .i64)]) (h':=[]) 9 R ⟨jL,jL,jL,.inl<|.inr<|.inr ⟨R,R⟩,jL,jL,jL,.inl<|.inr<|.inr ⟨R,R⟩,Za⟩ Za) wk)<|l _ (AH [(C+1)]) (Zg T).symm
 ·have T:=CY m E
  refine aU<|xQ R<|mA R<|aZ<|cI R T (λU=>?_) λU=>?_
  ·refine aR<|sS R (Bo 12 R BL (f:=(AY .i64)) (l:=([2,4,5,10]:List Int)) ⟨R,⟨_,iL,R⟩,R,⟨_,iL,R⟩,R,⟨_,iL,R⟩,R,⟨_,iL,R⟩,Za⟩ R (λ_=>R) R)<|mA R<|Zh ?_
   exact j _ _ (Zx (by exact Ae.frz (e':=[(0,rI p),(1,rI k),(4,rB false),(5,.r<|.sl<|[2,4,5,10].map<|AY .i64),(6,rI p),(7,rB<|(decide<|p=0)),(8,rB<|(decide<|p=0)),(10,rB<|(decide<|p=1)),(11,rB<|(decide<|p=1)),(12,.r<|.sl<|[2,4,5,10].map<|AY .i64)]) (h':=[]) 12 R ⟨jL,jL,jL,.inl<|.inr<|.inr ⟨R,R⟩,jL,jL,jL,jL,jL,.inl<|.inr<|.inr ⟨R,R⟩,Za⟩ Za) wk)<|l _ (AH [(C+1)]) (Zg U).symm
  refine aU<|xQ R<|mA R<|aZ<|cI R U (λV=>?_) λV=>?_
  ·refine aF [1] ?_
   refine aR<|sS R (Bo 15 R BL (f:=(AY .i64)) (l:=([4,5,10]:List Int)) ⟨R,⟨_,iL,R⟩,R,⟨_,iL,R⟩,R,⟨_,iL,R⟩,Za⟩ R (λ_=>R) R)<|mA R<|Zh ?_
   exact j _ _ (Zx (by exact Ae.frz (e':=[(1,rI k),(5,.r<|.sl<|[4,5,10].map<|AY .i64),(15,.r<|.sl<|[4,5,10].map<|AY .i64)]) (h':=[]) 15 R ⟨jL,.inl<|.inr<|.inr ⟨R,R⟩,.inl<|.inr<|.inr ⟨R,R⟩,Za⟩ Za) wk)<|l _ (AH [(C+1)]) (Zg V).symm
  refine aS λK9 c9 F=>aU<|xQ R<|mA R<|aZ<|Ba V λp2 I X=>?_
  have J2:∀(A:Bool) (B:NN),p2=A→K9 ⟨[(1,rI k),(5,cZ),(6,rI p),(16,rB A)],[],(B 0),29⟩:=by
   intro A B e
   have h6:=X _ e
   refine c9 _<|cI R h6 (λZ=>?_) λZ=>?_
   ·refine aR<|sS R (Bo 19 R BL (f:=(AY .i64)) (l:=([5]:List Int)) ⟨R,⟨_,iL,R⟩,Za⟩ R (λ_=>R) R)<|mA R<|Zh ?_
    exact j _ _ (Zx (by exact Ae.frz (e':=[(1,rI k),(5,.r<|.sl<|[5].map<|AY .i64),(6,rI p),(16,rB A),(19,.r<|.sl<|[5].map<|AY .i64)]) (h':=[]) 19 R ⟨jL,.inl<|.inr<|.inr ⟨R,R⟩,jL,jL,.inl<|.inr<|.inr ⟨R,R⟩,Za⟩ Za) wk)<|l _ (AH [((B 0)+1)]) (Zg Z).symm
   refine aU<|xQ R<|mA R<|aZ<|cI R Z (λh8=>?_) λh8=>?_
   ·refine aR<|sS R (Bo 22 R BL (f:=(AY .i64)) (l:=([3]:List Int)) ⟨R,⟨_,iL,R⟩,Za⟩ R (λ_=>R) R)<|mA R<|Zh ?_
    exact j _ _ (Zx (by exact Ae.frz (e':=[(1,rI k),(5,.r<|.sl<|[3].map<|AY .i64),(6,rI p),(16,rB A),(20,rB<|(decide<|p=2)),(21,rB<|(decide<|p=2)),(22,.r<|.sl<|[3].map<|AY .i64)]) (h':=[]) 22 R ⟨jL,.inl<|.inr<|.inr ⟨R,R⟩,jL,jL,jL,jL,.inl<|.inr<|.inr ⟨R,R⟩,Za⟩ Za) wk)<|l _ (AH [((B 0)+1)]) (Zg h8).symm
   refine aU<|xQ R<|mA R<|aZ<|cI R h8 (λh9=>?_) λh9=>?_
   ·refine aR<|sS R (Bo 25 R BL (f:=(AY .i64)) (l:=([8,9]:List Int)) ⟨R,⟨_,iL,R⟩,R,⟨_,iL,R⟩,Za⟩ R (λ_=>R) R)<|mA R<|Zh ?_
    exact j _ _ (Zx (by exact Ae.frz (e':=[(1,rI k),(5,.r<|.sl<|[8,9].map<|AY .i64),(6,rI p),(16,rB A),(20,rB<|(decide<|p=2)),(21,rB<|(decide<|p=2)),(23,rB<|(decide<|p=7)),(24,rB<|(decide<|p=7)),(25,.r<|.sl<|[8,9].map<|AY .i64)]) (h':=[]) 25 R ⟨jL,.inl<|.inr<|.inr ⟨R,R⟩,jL,jL,jL,jL,jL,jL,.inl<|.inr<|.inr ⟨R,R⟩,Za⟩ Za) wk)<|l _ (AH [((B 0)+1)]) (Zg h9).symm
   refine Zc ?_
   exact j _ _ ((by exact Ae.cv ⟨jL,.inl<|.inr<|.inr ⟨R,R⟩,Za⟩ Za nL))<|l _ (AH [(B 0)]) (Zg h9).symm
  refine aC R (λq=>?_) λq=>?_
  ·have w:=Cd q I
   exact Zc<|F _ _ wk<|J2 _ (AH [C]) (Zg w).symm
  ·have w:=CY q I
   refine aF [1,5,6] ?_
   exact aR<|xQ R<|mA R<|Zh<|F _ _ wk<|J2 _ (AH [C]) (Zg w).symm
theorem cJ{d1 k a r}(h:FV d1 k a=some r):AZ prog 37 [.agg [qb d1.Nodes],rI k,.r<|.sl<|a.map<|AY .i64] (rI r):=by
 unfold FV at h
 refine mF func37 ntmps37 R λw=>aU<|sS R (Aw (cs:=[qb d1.Nodes]) 3 R iL R R)<|mA R<|aZ<|aS λK2 c2 A=>aU<|mM R<|xL BL R<|mM R<|aZ<|Zf<|BI h λo1 l B m=>?_
 have J1:∀(u2:Unit) (i5:NN),o1=.nrm u2→K2 ⟨[],[],(i5 0),35⟩:=by
  intro u2 i5 e
  have h1:=B _ e
  exact c2 _<|zI h1 R id
 refine Zv (λ(C:Int) q=>⟨[(1,rI k),(3,.ptr 3 w 0 0),(11,.r<|.sl<|a.map<|AY .i64),(12,rL a),(13,rI C)],[(3,some<|.box w 24 [qb d1.Nodes])],(q 0),35⟩) (AH [(w+1)]) l wk ?_
 intro C q v1 E j
 have h2:EJ d1 k a C=some v1:=E;unfold EJ at h2
 refine aU<|xS R<|aZ<|aT λc6=>cI R h2 (λF=>?_) λF=>?_
 ·refine Zc<|c6 _<|aT λc7=>Zf<|aU<|AE F λx4 I h4=>xI BL R I<|xV (.int .i64 x4) AI R<|mA R<|aZ<|aU<|xC B7 R<|mM R<|Ee h4 λr1 r2 J h5=>cL (OU<|J) R<|mM R<|xX R<|xX R<|mA R<|mA R<|aZ<|aT λM=>aT λO=>aG [1,3,9,10,11,12,13] [3] ?_
  refine aR<|mM R<|sQ R (A4 R iL)<|aZ<|O _<|cI R h5 (λT=>?_) λT=>?_
  ·exact zI (m _<|xH j T) R id
  refine Zc<|M _<|aU<|mM R<|lF B8 B6 R R<|mM R<|AE T λx5 U h7=>xI Bh R U<|sQ R (BH R CT iL)<|xV (.int .i64 x5.Kind) AI R<|AE h7 λr3 V h8=>cL (gC<|V) R<|sQ R (A4 R iL)<|aZ<|cI R h8 (λX=>?_) λX=>?_
  ·exact zI (m _<|xH j X) R id
  refine Zc<|c7 _<|aG [1,3,11,12,13] [3] ?_
  exact aR<|AE X λx6 Z a0=>xA R Z<|mM R<|Zh<|Zr a0 (AH [(q 0)]) wk
 exact Zm<|A _ _ wk<|J1 _ (AH [(q 0)])<|xH j F
theorem PQ{d1 r}(h:ET d1=some r):AZ prog 17 [.agg [qb d1.Nodes]] (rI r):=by
 unfold ET at h
 refine mF func17 ntmps17 R λl=>aU<|sS R (Aw (cs:=[qb d1.Nodes]) 1 R iL R R)<|mA R<|aZ<|aT λc2=>aU<|lF B8 B6 R R<|xL Bh R<|xQ R<|aZ<|cI R h (λX=>?_) λX=>?_
 ·exact zI X R id
 refine Zc<|c2 _<|aS λK5 c5 Z=>aU<|lF B8 B6 R R<|xL Bh R<|mM R<|aZ<|Zf<|BI X λo1 B a0 C=>?_
 have J1:∀(u2:Unit) (i5:NN),o1=.nrm u2→K5 ⟨[(1,.ptr 1 l 0 0)],[(1,some<|.box l 24 [qb d1.Nodes])],(i5 0),67⟩:=by
  intro u2 i5 e
  have h2:=a0 _ e
  refine c5 _<|aS λK7 c7 a1=>aU<|lF B8 B6 R R<|xL Bh R<|mM R<|aZ<|Zf<|BI h2 λo2 E a2 a6=>?_
  have J2:∀(u4:Unit) (F:NN),o2=.nrm u4→K7 ⟨[],[],(F 0),67⟩:=by
   intro u4 F e
   have h3:=a2 _ e
   exact c7 _<|zI h3 R id
  refine Zv (λ(x5:Int) i8=>⟨[(1,.ptr 1 l 0 0),(51,qb d1.Nodes),(52,rL d1.Nodes),(53,rI x5)],[(1,some<|.box l 24 [qb d1.Nodes])],(i8 0),67⟩) (AH [(i5 0)]) E wk ?_
  intro x5 i8 v1 a7 I
  have h4:D1 d1 x5=some v1:=a7;unfold D1 at h4
  refine aU<|xS R<|aZ<|aT λa8=>cI R h4 (λh5=>?_) λh5=>?_
  ·refine Zc<|a8 _<|aT λaa=>Zf<|aU<|AE h5 λj ab h6=>xI Bh R ab<|xB ((At j)) DO R<|sS R (BB (cs:=FT) 7 R Hs R R)<|Zj R R (Az (ds:=(At j)) R Gw iL R iL R R R R)<|aZ<|aT λac=>AE h6 λr1 ad h7=>?_
   refine rP 5 [pO 57<|.agg [qb d1.Nodes],pO 58<|.ptr 7 (i8 0) 0 1,pO 59<|rI j.Kind,pO 60<|.agg<|At j,pO 61<|.r<|.sl<|r1.map<|AY .i64] BV R (by exact⟨oB [(1,.ptr 1 l 0 0)] [(1,some<|.box l 24 [qb d1.Nodes])]<|DU R B7 (.inl R) R R,oB [(7,.ptr 7 (i8 0) 0 0)] [(7,some<|.box (i8 0) 47<|At j)]<|fB R CT (.inl R) (λ_=>R) R,oB [(58,.ptr 7 (i8 0) 0 1)] [(7,some<|.box (i8 0) 47<|At j)]<|AU (a:=rI j.Kind) R AI (.inl R) R R,oB [(7,.ptr 7 (i8 0) 0 0)] [(7,some<|.box (i8 0) 47<|At j)]<|DU R DO (.inl R) R R,oD (λ_=>[(60,.agg<|At j)]) (λ_=>[]) λG1 e h' n=>Cb (r:=.r<|.sl<|r1.map<|AY .i64) (caps:=[]) (bs:=(Io j)) R (.inl R) R ⟨.inl ⟨(.inl R),R⟩,Za⟩ λ_=>eX<|ad,Za⟩) λG1 n1=>?_
   refine BU [1,7,51,52,53,54,55,56,57,58,59,60,61] [1,7] ?_
   refine AE h7 λe1 ae h8=>cL (cJ<|ae) R<|mA R<|aZ<|ac _<|aT λaf=>aG [1,8,51,52,53] [1] ?_
   refine aR<|mM R<|xU R<|aZ<|af _<|cI R h8 (λh9=>?_) λh9=>?_
   ·exact aU<|mM R<|mA R<|aZ<|Zi<|yI (a6 _<|xH I h9) R
   exact Zc<|aa _<|aR<|AE h9 λx8 ag ah=>xA R ag<|mM R<|Zh<|Zr ah (AH [n1]) wk
  exact Zm<|a1 _ _ wk<|J2 _ (AH [(i8 0)])<|xH I h5
 refine Zv (λ(x2:Int) U=>⟨[(1,.ptr 1 l 0 0),(14,qb d1.Nodes),(15,rL d1.Nodes),(16,rI x2)],[(1,some<|.box l 24 [qb d1.Nodes])],(U 0),67⟩) (AH [(l+1)]) B wk ?_
 intro x2 U v2 ai m
 have J:C0 d1 x2=some v2:=ai;unfold C0 at J
 refine aU<|xS R<|aZ<|aT λaj=>cI R J (λq=>?_) λq=>?_
 ·refine Zc<|aj _<|aT λak=>Zf<|aU<|mM R<|AE q λV al an=>xI Bh R al<|xB ((At V)) DO R<|sS R (BB (cs:=FT) 4 R Hs R R)<|mA R<|Zj R R (Az (ds:=(At V)) R Gw iL R iL R R R R)<|aZ<|aT λao=>aU<|xC DO R<|AE an λe2 aq ar=>cL (jr<|aq) R<|mA R<|aZ<|aU<|mM R<|xU R<|aZ<|cI R ar (λw=>?_) λw=>?_
  ·refine aT λau=>aF [5] ?_
   exact aR<|mM R<|mA R<|aZ<|au _<|Zi<|yI (C _<|xH m w) R
  refine Zc<|ao _<|aT λav=>aG [1,3,4,14,15,16] [1,4] ?_
  refine Zz BV (by kernel_rfl) ?_
  refine qP R (AK R iL)<|qP R (A8 R iL iL)<|qP R (AK R iL)<|qO R (fB R Dp iL fR R)<|qO R (AU (a:=rI V.ID) R AI (iR R) R R)<|qO R (DK R (iR R) iL)<|qP R (BK R iL<|iR R)<|qP R (AK R iL)<|qO R (AK R iL)<|qO R (BY R (iR R) iL)<|qO R (AK R<|iR R)<|qT R (fB R Dp iL fR R)<|qT R (AU (a:=rI V.ID) R AI (iR R) R R)<|qT R (fB R B8 iL fR R)<|qT R (AU (a:=qb d1.Nodes) R B6 (iR R) R R)<|qT R (AK R iL)<|AE w λb0 M aw=>qT R (CQ R (iR R) iL<|Af M)<|AE aw λax O ay=>qT R (A9 R Bh.slice (iR R) (iR R) (λ_=>R)<|Af O)<|qT R (BH R Dp<|iR R)<|qT R (Bc (d:=.int .i64 ax.ID) R AI (iR R) R)<|qT R (Ey R (iR R)<|iR R)<|qO R (BK R (iR R)<|iR R)<|qP R (Ct R iL<|iR R)<|AQ.nil<|av _<|cI R ay (λA=>?_) λA=>?_
  ·exact zI (C _<|xH m A) R id
  exact Zc<|ak _<|aR<|AE A λb1 T az=>xA R T<|mM R<|Zh<|Zr az (AH [((U 0)+1)]) wk
 exact Zm<|Z _ _ wk<|J1 _ (AH [(U 0)])<|xH m q
theorem cD{r}(h:PK=some r):AZ prog 20 [] (.agg<|CF r):=by
 unfold PK at h
 refine mF func20 ntmps20 R λl=>aU<|sS R (BB (cs:=Mf) 0 R MT R R)<|aZ<|aT λj=>aR ?_
 refine sQ R (Bq R Ll (q:=[(0,_)]) (by exact⟨R,R,R,iL,Za⟩) (cs:=L3)<|by rfl) ?_
 refine Zj R R (Az (ds:=L3) R LL iL R iL R R R R)<|oZ j ?_
 exact Zi<|CG (P:=prog) (λ(r:AP)=>.agg<|CF r) h iL<|.a IA R R R<|.agg<|by exact⟨.closed _ R,.closed _ R,.nil,Za⟩
theorem gx{j r}(h:QP j=some r):AZ prog 19 [qe j] (.agg [qb r.Nodes]):=by
 unfold QP at h
 refine mF func19 ntmps19 R λl=>aU<|sS R (BB (cs:=[cZ]) 2 R QW R R)<|aZ<|aT λm=>aR ?_
 refine sQ R (Bq R Ll (q:=[(1,_)]) (by exact⟨R,R,R,iL,Za⟩) (cs:=Ns)<|by rfl) ?_
 refine sS R (Bo 4 R B1 (f:=AP.row) (l:=([(AP.mk 0 2 [])]:List AP)) ⟨R,⟨_,iL,R⟩,Za⟩ R (λ_=>R) R) ?_
 refine sQ R (Bq R QZ (q:=[(0,_),(3,_)]) (by exact⟨R,R,R,iL,R,R,R,iL,Za⟩) (cs:=[rI 1,rI 0,cZ,.own 4<|l+1,rI 0,rI 0,cZ,cZ,cZ])<|by rfl) ?_
 refine mM R ?_
 refine sQ R (Bq R QZ (q:=[(0,_),(1,_),(3,_)]) (by exact⟨R,R,R,iL,R,R,R,iL,R,R,R,iL,Za⟩) (cs:=[rI 2,rI 1,cZ,qe j,rI 0,rI 0,cZ,cZ,cZ])<|by rfl) ?_
 refine AL.weak (by exact Ae.frz (e':=[(0,qe j),(2,.ptr 2 l 0 0),(3,.agg Ns),(4,.r<|.sl<|[(AP.mk 0 2 [])].map AP.row),(5,.agg SN),(6,qe j),(7,.agg [rI 2,rI 1,cZ,qe j,rI 0,rI 0,cZ,cZ,cZ])]) (h':=[(2,some<|.box l 24 [cZ])]) 4 R ⟨jL,jL,jL,.inl<|.inr<|.inr ⟨R,R⟩,.inr ⟨_,_,R,R,⟨.inl R,.inl R,.inl R,.inr<|.inr ⟨R,R⟩,.inl R,.inl R,.inl R,.inl R,.inl R,Za⟩⟩,jL,jL,Za⟩ ⟨R,.inl R,Za⟩) ?_
 refine sS R (Bo 8 R Bh (f:=AX.row) (l:=([(AX.mk 1 0 [] [(AP.mk 0 2 [])] (A5.mk 0 0 [] []) []),(AX.mk 2 1 [] j (A5.mk 0 0 [] []) [])]:List AX)) ⟨R,⟨_,iL,R⟩,R,⟨_,iL,R⟩,Za⟩ R (λ_=>R) R) ?_
 refine sQ R (Bq R SB (q:=[(0,_)]) (by exact⟨R,R,R,iL,Za⟩) (cs:=[.own 8<|l+2])<|by rfl) ?_
 refine Zj R R (Az (ds:=[.own 8<|l+2]) R OF iL R iL R R R R)<|oZ m ?_
 exact Zi<|CG (P:=prog) (λ(r:AN)=>.agg [qb r.Nodes]) h iL<|.a B7 R R R<|.agg<|by exact⟨.own R,Za⟩
theorem RK{j q r}(h:JQ j q=some r):AZ prog 63 [qa j,qa q] (rB r):=by
 unfold JQ at h
 refine mF func63 ntmps63 R λn0=>aU<|mA R<|aZ<|aT λc2=>aU<|mM R<|xL BA R<|mM R<|xL BA R<|xU R<|aZ<|cI R h (λA=>?_) λA=>?_
 ·exact zB A R id
 refine Zc<|c2 _<|aS λK5 c5 B=>aU<|mM R<|xL BA R<|mM R<|aZ<|Zf<|BI A λo1 l C E=>?_
 have J1:∀(Z:Unit) (i5:NN),o1=.nrm Z→K5 ⟨[],[],(i5 0),26⟩:=by
  intro Z i5 e
  have h2:=C _ e
  exact c5 _<|zB h2 R id
 refine Zv (λ(F:Int) w=>⟨[(0,qa j),(1,qa q),(12,rL j),(13,rI F)],[],(w 0),26⟩) (AH [n0]) l wk ?_
 intro F w v1 I m
 have h3:OC j q F=some v1:=I;unfold OC at h3
 refine aU<|xS R<|aZ<|aT λc9=>cI R h3 (λJ=>?_) λJ=>?_
 ·refine Zc<|c9 _<|aT λM=>Zf<|aU<|mM R<|mA R<|aZ<|aT λO=>?_
  refine Zz BV (by kernel_rfl) ?_
  refine qP R (AK R iL)<|qP R (AK R iL)<|AE J λx4 T h5=>qP R (A9 R BA.slice iL iL (λ_=>R) λ_=>T)<|qP R (Cf (cs:=(CA x4)) R EG iL R R)<|qP R (AK R iL)<|qP R (AK R iL)<|AE h5 λx5 U h6=>qP R (A9 R BA.slice iL iL (λ_=>R) λ_=>U)<|qP R (Cf (cs:=(CA x5)) R EG iL R R)<|qP R (NP R Tt iL iL R)<|AQ.nil<|O _<|cI R h6 (λV=>?_) λV=>?_
  ·exact zB (E _<|xH m V) R id
  refine Zc<|M _<|aF [0,1,12,13] ?_
  exact aR<|AE V λx6 X h8=>xA R X<|mM R<|Zh<|Zr h8 (AH [(w 0)]) wk
 exact Zm<|B _ _ wk<|J1 _ (AH [(w 0)])<|xH m J
theorem Xi{j l r}(h:Mt j l=some r):AZ prog 97 [.agg<|CF j,.agg<|CF l] (rB r):=by
 unfold Mt at h
 exact mF func97 ntmps97 R λw=>aU<|sS R (Aw (cs:=(CF j)) 2 R iL R R)<|sS R (Aw (cs:=(CF l)) 3 R iL R R)<|mA R<|aZ<|aU<|lF Fy AI R R<|lF Fy AI R R<|xQ R<|mM R<|vF Dh AI R R<|vF Dh AI R R<|vQ R (A8 R (iR R)<|iR R)<|xN R<|mM R<|vF OI Ca R R<|vF OI Ca R R<|AE h λA m q=>vL (λhg=>RK<|Af m hg) R<|xN R<|mA R<|aZ<|Zi<|yB q R
theorem lb{j A r}(h:Lo j A=some r):AZ prog 64 [qe j,qe A] (rB r):=by
 unfold Lo at h
 refine mF func64 ntmps64 R λn0=>aU<|mA R<|aZ<|aT λc2=>aU<|mM R<|xL B1 R<|mM R<|xL B1 R<|xU R<|aZ<|cI R h (λC=>?_) λC=>?_
 ·exact zB C R id
 refine Zc<|c2 _<|aS λK5 c5 E=>aU<|mM R<|xL B1 R<|mM R<|aZ<|Zf<|BI C λo1 l F I=>?_
 have J1:∀(u2:Unit) (i5:NN),o1=.nrm u2→K5 ⟨[],[],(i5 0),27⟩:=by
  intro u2 i5 e
  have h2:=F _ e
  exact c5 _<|zB h2 R id
 refine Zv (λ(J:Int) B=>⟨[(0,qe j),(1,qe A),(12,rL j),(13,rI J)],[],(B 0),27⟩) (AH [n0]) l wk ?_
 intro J B v1 M m
 have h3:MO j A J=some v1:=M;unfold MO at h3
 refine aU<|xS R<|aZ<|aT λc9=>cI R h3 (λO=>?_) λO=>?_
 ·refine Zc<|c9 _<|aT λT=>Zf<|aU<|mM R<|mA R<|aZ<|aT λU=>?_
  refine Zz BV (by kernel_rfl) ?_
  refine qP R (AK R iL)<|qP R (AK R iL)<|AE O λq V h5=>qP R (A9 R B1.slice iL iL (λ_=>R) λ_=>V)<|qP R (Cf (cs:=(CF q)) R IA iL R R)<|qP R (AK R iL)<|qP R (AK R iL)<|AE h5 λw X h6=>qP R (A9 R B1.slice iL iL (λ_=>R) λ_=>X)<|qP R (Cf (cs:=(CF w)) R IA iL R R)<|AE h6 λr1 Z h7=>AQ.stepC R R R (r:=rB r1) (caps:=[]) (bs:=[.agg<|CF q,.agg<|CF w]) R iL R ⟨⟨_,iL,.g (cs:=[.int .i64 q.Char,.int .i64 q.Ref,.sl<|q.Attrs.map AG.row]) R R⟩,⟨_,iL,.g (cs:=[.int .i64 w.Char,.int .i64 w.Ref,.sl<|w.Attrs.map AG.row]) R R⟩,Za⟩ (λ_=>Xi<|Z) R<|qP R (A4 R iL)<|AQ.nil<|U _<|cI R h7 (λh8=>?_) λh8=>?_
  ·exact zB (I _<|xH m h8) R id
  refine Zc<|T _<|aF [0,1,12,13] ?_
  exact aR<|AE h8 λx6 a0 h9=>xA R a0<|mM R<|Zh<|Zr h9 (AH [(B 0)]) wk
 exact Zm<|E _ _ wk<|J1 _ (AH [(B 0)])<|xH m O
theorem fS{j l r}(h:MK j l=some r):AZ prog 129 [.agg<|BN j,.agg<|BN l] (rB r):=by
 unfold MK at h
 exact mF func129 ntmps129 R λA=>aU<|sS R (Aw (cs:=(BN j)) 2 R iL R R)<|sS R (Aw (cs:=(BN l)) 3 R iL R R)<|mA R<|aZ<|aT λq=>aR<|lF Dg AI R R<|lF Dg AI R R<|xQ R<|mM R<|vF Dt AI R R<|vF Dt AI R R<|vQ R (A8 R (iR R)<|iR R)<|xN R<|mM R<|vF HK BE R R<|vF HK BE R R<|vQ R (E5 R (iR R)<|iR R)<|xN R<|mM R<|vF DG AI R R<|vF DG AI R R<|vQ R (A8 R (iR R)<|iR R)<|xN R<|mM R<|vF Fv Ca R R<|vF Fv Ca R R<|AE h λB m w=>vL (λhg=>RK<|Af m hg) R<|xN R<|mA R<|aZ<|q _<|Zi<|yB w R
theorem lO{m A r}(h:Lk m A=some r):AZ prog 98 [qc m,qc A] (rB r):=by
 unfold Lk at h
 refine mF func98 ntmps98 R λn0=>aU<|mA R<|aZ<|aT λc2=>aU<|mM R<|xL Bm R<|mM R<|xL Bm R<|xU R<|aZ<|cI R h (λC=>?_) λC=>?_
 ·exact zB C R id
 refine Zc<|c2 _<|aS λK5 c5 E=>aU<|mM R<|xL Bm R<|mM R<|aZ<|Zf<|BI C λo1 q F I=>?_
 have J1:∀(u2:Unit) (i5:NN),o1=.nrm u2→K5 ⟨[],[],(i5 0),27⟩:=by
  intro u2 i5 e
  have h2:=F _ e
  exact c5 _<|zB h2 R id
 refine Zv (λ(J:Int) B=>⟨[(0,qc m),(1,qc A),(12,rL m),(13,rI J)],[],(B 0),27⟩) (AH [n0]) q wk ?_
 intro J B v1 M w
 have h3:MG m A J=some v1:=M;unfold MG at h3
 refine aU<|xS R<|aZ<|aT λc9=>cI R h3 (λO=>?_) λO=>?_
 ·refine Zc<|c9 _<|aT λT=>Zf<|aU<|mM R<|mA R<|aZ<|aT λU=>?_
  refine Zz BV (by kernel_rfl) ?_
  refine qP R (AK R iL)<|qP R (AK R iL)<|AE O λj V h5=>qP R (A9 R Bm.slice iL iL (λ_=>R) λ_=>V)<|qP R (Cf (cs:=(BN j)) R Dy iL R R)<|qP R (AK R iL)<|qP R (AK R iL)<|AE h5 λl X h6=>qP R (A9 R Bm.slice iL iL (λ_=>R) λ_=>X)<|qP R (Cf (cs:=(BN l)) R Dy iL R R)<|AE h6 λr1 Z h7=>AQ.stepC R R R (r:=rB r1) (caps:=[]) (bs:=[.agg<|BN j,.agg<|BN l]) R iL R ⟨⟨_,iL,.g (cs:=[.int .i64 j.Row,.int .i64 j.Col,.str j.Text,.int .i64 j.Ref,.sl<|j.Attrs.map AG.row]) R R⟩,⟨_,iL,.g (cs:=[.int .i64 l.Row,.int .i64 l.Col,.str l.Text,.int .i64 l.Ref,.sl<|l.Attrs.map AG.row]) R R⟩,Za⟩ (λ_=>fS<|Z) R<|qP R (A4 R iL)<|AQ.nil<|U _<|cI R h7 (λh8=>?_) λh8=>?_
  ·exact zB (I _<|xH w h8) R id
  refine Zc<|T _<|aF [0,1,12,13] ?_
  exact aR<|AE h8 λx6 a0 h9=>xA R a0<|mM R<|Zh<|Zr h9 (AH [(B 0)]) wk
 exact Zm<|E _ _ wk<|J1 _ (AH [(B 0)])<|xH w O
theorem ZP{j q r}(h:No j q=some r):AZ prog 99 [qd j,qd q] (rB r):=by
 unfold No at h
 refine mF func99 ntmps99 R λn0=>aU<|mA R<|aZ<|aT λc2=>aU<|mM R<|xL CW R<|mM R<|xL CW R<|xU R<|aZ<|cI R h (λA=>?_) λA=>?_
 ·exact zB A R id
 refine Zc<|c2 _<|aS λK5 c5 B=>aU<|mM R<|xL CW R<|mM R<|aZ<|Zf<|BI A λo1 l C E=>?_
 have J1:∀(Z:Unit) (i5:NN),o1=.nrm Z→K5 ⟨[],[],(i5 0),26⟩:=by
  intro Z i5 e
  have h2:=C _ e
  exact c5 _<|zB h2 R id
 refine Zv (λ(F:Int) w=>⟨[(0,qd j),(1,qd q),(12,rL j),(13,rI F)],[],(w 0),26⟩) (AH [n0]) l wk ?_
 intro F w v1 I m
 have h3:Mn j q F=some v1:=I;unfold Mn at h3
 refine aU<|xS R<|aZ<|aT λc9=>cI R h3 (λJ=>?_) λJ=>?_
 ·refine Zc<|c9 _<|aT λM=>Zf<|aU<|mM R<|mA R<|aZ<|aT λO=>?_
  refine Zz BV (by kernel_rfl) ?_
  refine qP R (AK R iL)<|qP R (AK R iL)<|AE J λx4 T h5=>qP R (A9 R CW.slice iL iL (λ_=>R) λ_=>T)<|qP R (Cf (cs:=(A3 x4)) R C3 iL R R)<|qP R (AK R iL)<|qP R (AK R iL)<|AE h5 λx5 U h6=>qP R (A9 R CW.slice iL iL (λ_=>R) λ_=>U)<|qP R (Cf (cs:=(A3 x5)) R C3 iL R R)<|qP R (NP R UA iL iL R)<|AQ.nil<|O _<|cI R h6 (λV=>?_) λV=>?_
  ·exact zB (E _<|xH m V) R id
  refine Zc<|M _<|aF [0,1,12,13] ?_
  exact aR<|AE V λx6 X h8=>xA R X<|mM R<|Zh<|Zr h8 (AH [(w 0)]) wk
 exact Zm<|B _ _ wk<|J1 _ (AH [(w 0)])<|xH m J
theorem ZF{j l r}(h:Mi j l=some r):AZ prog 65 [.agg<|Bs j,.agg<|Bs l] (rB r):=by
 unfold Mi at h
 exact mF func65 ntmps65 R λB=>aU<|sS R (Aw (cs:=(Bs j)) 2 R iL R R)<|sS R (Aw (cs:=(Bs l)) 3 R iL R R)<|mA R<|aZ<|aU<|lF Fp AI R R<|lF Fp AI R R<|xQ R<|mM R<|vF F3 AI R R<|vF F3 AI R R<|vQ R (A8 R (iR R)<|iR R)<|xN R<|mM R<|vF DS Dc R R<|vF DS Dc R R<|AE h λC m w=>vL (λhg=>lO<|Af m hg) R<|xN R<|mM R<|vF Dx EB R R<|vF Dx EB R R<|AE w λE q A=>vL (λhg=>ZP<|Af q hg) R<|xN R<|mA R<|aZ<|Zi<|yB A R
theorem bV{j q r}(h:MB j q=some r):AZ prog 66 [qf j,qf q] (rB r):=by
 unfold MB at h
 refine mF func66 ntmps66 R λn0=>aU<|mA R<|aZ<|aT λc2=>aU<|mM R<|xL Dq R<|mM R<|xL Dq R<|xU R<|aZ<|cI R h (λA=>?_) λA=>?_
 ·exact zB A R id
 refine Zc<|c2 _<|aS λK5 c5 B=>aU<|mM R<|xL Dq R<|mM R<|aZ<|Zf<|BI A λo1 l C E=>?_
 have J1:∀(Z:Unit) (i5:NN),o1=.nrm Z→K5 ⟨[],[],(i5 0),26⟩:=by
  intro Z i5 e
  have h2:=C _ e
  exact c5 _<|zB h2 R id
 refine Zv (λ(F:Int) w=>⟨[(0,qf j),(1,qf q),(12,rL j),(13,rI F)],[],(w 0),26⟩) (AH [n0]) l wk ?_
 intro F w v1 I m
 have h3:Lu j q F=some v1:=I;unfold Lu at h3
 refine aU<|xS R<|aZ<|aT λc9=>cI R h3 (λJ=>?_) λJ=>?_
 ·refine Zc<|c9 _<|aT λM=>Zf<|aU<|mM R<|mA R<|aZ<|aT λO=>?_
  refine Zz BV (by kernel_rfl) ?_
  refine qP R (AK R iL)<|qP R (AK R iL)<|AE J λx4 T h5=>qP R (A9 R Dq.slice iL iL (λ_=>R) λ_=>T)<|qP R (Cf (cs:=(BX x4)) R GI iL R R)<|qP R (AK R iL)<|qP R (AK R iL)<|AE h5 λx5 U h6=>qP R (A9 R Dq.slice iL iL (λ_=>R) λ_=>U)<|qP R (Cf (cs:=(BX x5)) R GI iL R R)<|qP R (NP R mK iL iL R)<|AQ.nil<|O _<|cI R h6 (λV=>?_) λV=>?_
  ·exact zB (E _<|xH m V) R id
  refine Zc<|M _<|aF [0,1,12,13] ?_
  exact aR<|AE V λx6 X h8=>xA R X<|mM R<|Zh<|Zr h8 (AH [(w 0)]) wk
 exact Zm<|B _ _ wk<|J1 _ (AH [(w 0)])<|xH m J
theorem bG{j l r}(h:Lr j l=some r):AZ prog 35 [.agg<|At j,.agg<|At l] (rB r):=by
 unfold Lr at h
 exact mF func35 ntmps35 R λJ=>aU<|sS R (Aw (cs:=(At j)) 2 R iL R R)<|sS R (Aw (cs:=(At l)) 3 R iL R R)<|mA R<|aZ<|aT λB=>aR<|lF Dp AI R R<|lF Dp AI R R<|xQ R<|mM R<|vF CT AI R R<|vF CT AI R R<|vQ R (A8 R (iR R)<|iR R)<|xN R<|mM R<|vF Kz Ca R R<|vF Kz Ca R R<|AE h λM m C=>vL (λhg=>RK<|Af m hg) R<|xN R<|mM R<|vF EH EN R R<|vF EH EN R R<|AE C λO q E=>vL (λhg=>lb<|Af q hg) R<|xN R<|mM R<|vQ R (fB R DF iL fR R)<|vQ R (GL (ds:=(Bs j.Grid)) R Fm (iR R) R R R)<|vQ R (fB R DF iL fR R)<|vQ R (GL (ds:=(Bs l.Grid)) R Fm (iR R) R R R)<|AE E λT w F=>vL (λhg=>ZF<|Af w hg) R<|xN R<|mM R<|vF Fw GM R R<|vF Fw GM R R<|AE F λU A I=>vL (λhg=>bV<|Af A hg) R<|xN R<|mA R<|aZ<|B _<|Zi<|yB I R
theorem ik{m q r}(h:Nb m q=some r):AZ prog 15 [.agg [qb m.Nodes],.agg [qb q.Nodes]] (rB r):=by
 unfold Nb at h
 refine mF func15 ntmps15 R λw=>aU<|sS R (Aw (cs:=[qb m.Nodes]) 2 R iL R R)<|sS R (Aw (cs:=[qb q.Nodes]) 3 R iL R R)<|mA R<|aZ<|aT λc2=>aU<|lF B8 B6 R R<|xL Bh R<|lF B8 B6 R R<|xL Bh R<|xU R<|aZ<|cI R h (λE=>?_) λE=>?_
 ·exact zB E R id
 refine Zc<|c2 _<|aS λK5 c5 F=>aT λc6=>aG [2,3] [2,3] ?_
 refine aR<|lF B8 B6 R R<|xL Bh R<|mM R<|aZ<|c6 _<|Zf<|BI E λo1 A I J=>?_
 have J1:∀(u2:Unit) (i5:NN),o1=.nrm u2→K5 ⟨[],[],(i5 0),32⟩:=by
  intro u2 i5 e
  have h2:=I _ e
  exact c5 _<|zB h2 R id
 refine Zv (λ(M:Int) C=>⟨[(2,.ptr 2 w 0 0),(3,.ptr 3 (w+1) 0 0),(15,rL m.Nodes),(16,rI M)],[(2,some<|.box w 24 [qb m.Nodes]),(3,some<|.box (w+1) 24 [qb q.Nodes])],(C 0),32⟩) (AH [(w+2)]) A wk ?_
 intro M C v1 O B
 have h3:Lw m q M=some v1:=O;unfold Lw at h3
 refine aU<|xS R<|aZ<|aT λc9=>cI R h3 (λT=>?_) λT=>?_
 ·refine Zc<|c9 _<|aT λU=>Zf<|aU<|mM R<|mA R<|aZ<|aT λV=>?_
  refine Zz BV (by kernel_rfl) ?_
  refine qP R (fB R B8 iL fR R)<|qP R (AU (a:=qb m.Nodes) R B6 iL R R)<|qP R (AK R iL)<|AE T λj X h5=>qP R (A9 R Bh.slice iL iL (λ_=>R) λ_=>X)<|qP R (Cf (cs:=(At j)) R DO iL R R)<|qP R (fB R B8 iL fR R)<|qP R (AU (a:=qb q.Nodes) R B6 iL R R)<|qP R (AK R iL)<|AE h5 λl Z h6=>qP R (A9 R Bh.slice iL iL (λ_=>R) λ_=>Z)<|qP R (Cf (cs:=(At l)) R DO iL R R)<|AE h6 λr1 a0 h7=>AQ.stepC R R R (r:=rB r1) (caps:=[]) (bs:=[.agg<|At j,.agg<|At l]) R iL R ⟨⟨_,iL,.g (cs:=[.int .i64 j.ID,.int .i64 j.Kind,.sl<|j.Attrs.map AG.row,.sl<|j.Flow.map AP.row,.int .i64 j.Grid.Rows,.int .i64 j.Grid.Cols,.sl<|j.Grid.Cells.map Am.row,.sl<|j.Grid.Merges.map Ak.row,.sl<|j.Draw.map Au.row]) R R⟩,⟨_,iL,.g (cs:=[.int .i64 l.ID,.int .i64 l.Kind,.sl<|l.Attrs.map AG.row,.sl<|l.Flow.map AP.row,.int .i64 l.Grid.Rows,.int .i64 l.Grid.Cols,.sl<|l.Grid.Cells.map Am.row,.sl<|l.Grid.Merges.map Ak.row,.sl<|l.Draw.map Au.row]) R R⟩,Za⟩ (λ_=>bG<|a0) R<|qP R (A4 R iL)<|AQ.nil<|V _<|cI R h7 (λh8=>?_) λh8=>?_
  ·exact zB (J _<|xH B h8) R id
  refine Zc<|U _<|aG [2,3,15,16] [2,3] ?_
  exact aR<|AE h8 λx6 a2 h9=>xA R a2<|mM R<|Zh<|Zr h9 (AH [(C 0)]) wk
 exact Zm<|F _ _ wk<|J1 _ (AH [(C 0)])<|xH B T
theorem cB{r}(h:Lm=some r):AZ prog 5 [] (rB r):=by
 unfold Lm at h
 refine mF func5 ntmps5 R λU=>aU<|mA R<|aZ<|aS λZ c2 q=>aR<|AE h λl w h1=>sS R (Cb (r:=.agg [qb l.Nodes]) (caps:=[]) (bs:=[]) R iL R Za λ_=>W1<|w)<|AE h1 λm C h2=>cL (PQ<|C) R<|xQ R<|mM R<|Ba h2 λp1 A E=>?_
 have V:∀(F:Bool) (X:NN),p1=F→Z ⟨[(0,rB F)],[],(X 0),11⟩:=by
  intro F X e
  have h3:=E _ e
  exact c2 _<|Zi<|yB h3 R
 refine AL.split ((decide<|m=0)==true) (λj=>?_) λj=>?_
 ·have I:=Cd j A
  refine AL.weak (by exact Lj (e':=[(0,rB false),(1,.agg [qb l.Nodes]),(2,rI m),(3,rB<|(decide<|m=0)),(4,rB<|(decide<|m=0))]) j ⟨.inl R,.inl R,.inl R,.inl R,.inl R,Za⟩) ?_
  refine F8 (.one R R R) j R R (Cb (r:=.agg [qb l.Nodes]) (caps:=[]) (bs:=[]) R (.inl R) R Za λ_=>W1<|w)<|AE I λB J h5=>F8 (.one R R R) j R R (Cb (r:=.agg<|CF B) (caps:=[]) (bs:=[]) R (.inl R) R Za λ_=>cD<|J)<|F8 (.one R R R) j R R (Bo 7 R B1 (f:=AP.row) (l:=([B]:List AP)) ⟨R,⟨_,(.inl R),R⟩,Za⟩ R (λ_=>R) R) ?_
  refine AL.weak (by exact Ae.frz (e':=[(0,rB false),(1,.agg [qb l.Nodes]),(2,rI m),(3,rB<|(decide<|m=0)),(4,rB<|(decide<|m=0)),(5,.agg [qb l.Nodes]),(6,.agg<|CF B),(7,.r<|.sl<|[B].map AP.row)]) (h':=[]) 7 R ⟨jL,jL,jL,jL,jL,jL,jL,.inl<|.inr<|.inr ⟨R,R⟩,Za⟩ Za) ?_
  exact AE h5 λM O h6=>F8 (.one R R R) j R R (Cb (r:=.agg [qb M.Nodes]) (caps:=[]) (bs:=[.r<|.sl<|[B].map AP.row]) R (.inl R) R ⟨.inl ⟨(.inl R),R⟩,Za⟩ λ_=>gx<|O)<|AE h6 λr6 T h7=>F8 (.one R R R) j R R (DJ (r:=rB r6) (caps:=[]) (bs:=[.agg [qb l.Nodes],.agg [qb M.Nodes]]) R (.inl R) R ⟨⟨_,(.inl R),.g (cs:=[.sl<|l.Nodes.map AX.row]) R R⟩,⟨_,(.inl R),.g (cs:=[.sl<|M.Nodes.map AX.row]) R R⟩,Za⟩ (λ_=>ik<|T) R)<|sQ R (BK R iL iL)<|mA R<|Zh<|q _ _ wk<|V _ (AH [(U+1)]) (Zg h7).symm
 ·have I:=CY j A
  exact Eh (.one R R R) j R R<|Eh (.one R R R) j R R<|Eh (.one R R R) j R R<|Eh (.one R R R) j R R<|Eh (.one R R R) j R R<|xN R<|mA R<|Zh<|q _ _ wk<|V _ (AH [U]) (Zg I).symm
theorem bC{B r}(h:Ms B=some r):AZ prog 78 [qe B] (qe r):=by
 unfold Ms at h
 refine mF func78 ntmps78 R λn0=>aU<|mA R<|aZ<|aU<|mM R<|xL B1 R<|AE h λa1 C h1=>sS R (Uk 8 R B1 (f:=AP.row) (z0:=(AP.mk 0 0 [])) Zy iL iL C)<|mA R<|aZ<|aS λK3 c3 M=>aU<|mM R<|xL B1 R<|mM R<|aZ<|Zf<|Ba h1 λo1 E O=>?_
 have J1:∀(w:List AP) (J:NN),o1=w→K3 ⟨[(3,.own 8<|J 0)],[(8,some<|.arr (J 0) 60 3<|w.map AP.row)],(J 1),29⟩:=by
  intro w J e
  have h2:=O _ e
  exact c3 _<|aU<|mM R<|mA R<|aZ<|Zi<|CG (P:=prog) (λ(r:(List AP))=>qe r) h2 iL<|.t<|.one<|.own R
 refine Ch (λ(A:Int) (m:List AP) j=>⟨[(3,.own 8<|j 0),(9,qe B),(10,rL B),(11,rI A)],[(8,some<|.arr (j 0) 60 3<|m.map AP.row)],(j 1),29⟩) (AH [n0,(n0+1)]) E wk ?_
 intro A m j v1 T U
 have h3:IS B A m=some v1:=T;unfold IS at h3
 refine aU<|xS R<|aZ<|aT λc7=>cI R h3 (λV=>?_) λV=>?_
 ·refine Zc<|c7 _<|aT λc8=>Zf<|aU<|mM R<|AE V λl X h5=>xI B1 R X<|xB ((CF l)) IA R<|sS R (BB (cs:=Mf) 5 R MT R R)<|mA R<|Zj R R (Az (ds:=(CF l)) R LL iL R iL R R R R)<|aZ<|AE h5 λF Z h6=>?_
  refine Li 10 [pO 16<|.own 8<|j 0,pO 17<|rI A,pO 18<|.ptr 5 (j 1) 0 0,pO 19<|rI l.Char,pO 20<|.ptr 5 (j 1) 0 1,pO 21<|rI l.Ref,pO 22<|.ptr 5 (j 1) 0 2,pO 23<|qa l.Attrs,⟨some 24,(λq=>.own 24<|q 8),some (24,(λq=>some<|.arr (q 8) 123 2<|F.map AG.row)),[8]⟩,⟨some 25,(λq=>.agg [rI l.Char,rI l.Ref,.own 24<|q 8]),none,[8]⟩] BV (by kernel_rfl) (by exact⟨λ_ _ h=>⟨R,λ_ _ e=>by cases e⟩,λ_ _ h=>⟨R,λ_ _ e=>by cases e⟩,λ_ _ h=>⟨R,λ_ _ e=>by cases e⟩,λ_ _ h=>⟨R,λ_ _ e=>by cases e⟩,λ_ _ h=>⟨R,λ_ _ e=>by cases e⟩,λ_ _ h=>⟨R,λ_ _ e=>by cases e⟩,λ_ _ h=>⟨R,λ_ _ e=>by cases e⟩,λ_ _ h=>⟨R,λ_ _ e=>by cases e⟩,λ_ _ h=>⟨by simp only[h 8 R],λ_ _ e=>by cases e;simp only[h 8 R]⟩,λ_ _ h=>⟨by simp only[h 8 R],λ_ _ e=>by cases e⟩,Za⟩) R (by exact⟨oB [(3,.own 8<|j 0)] [(8,some<|.arr (j 0) 60 3<|m.map AP.row)]<|AK R<|.inl R,oB [(4,rI A)] []<|AK R<|.inl R,oB [(5,.ptr 5 (j 1) 0 0)] [(5,some<|.box (j 1) 60<|CF l)]<|fB R Fy (.inl R) (λ_=>R) R,oB [(18,.ptr 5 (j 1) 0 0)] [(5,some<|.box (j 1) 60<|CF l)]<|AU (a:=rI l.Char) R AI (.inl R) R R,oB [(5,.ptr 5 (j 1) 0 0)] [(5,some<|.box (j 1) 60<|CF l)]<|fB R Dh (.inl R) (λ_=>R) R,oB [(20,.ptr 5 (j 1) 0 1)] [(5,some<|.box (j 1) 60<|CF l)]<|AU (a:=rI l.Ref) R AI (.inl R) R R,oB [(5,.ptr 5 (j 1) 0 0)] [(5,some<|.box (j 1) 60<|CF l)]<|fB R OI (.inl R) (λ_=>R) R,oB [(22,.ptr 5 (j 1) 0 2)] [(5,some<|.box (j 1) 60<|CF l)]<|AU (a:=qa l.Attrs) R Ca (.inl R) R R,oM (λ_=>[(23,qa l.Attrs)]) (λ_=>[]) R λq e h' n=>Ka 24 (f:=AG.row) R BA (.inl R) (.inl ⟨(.inl R),λ_=>R⟩) Z,oC (λq=>[(19,rI l.Char),(21,rI l.Ref),(24,.own 24<|q 8)]) (λq=>[(24,some<|.arr (q 8) 123 2<|F.map AG.row)]) λq e h'=>Bq R Ll (q:=[(0,_),(1,_),(2,_)]) (by exact⟨R,R,R,(.inl R),R,R,R,(.inl R),R,R,R,(.inl R),Za⟩) (cs:=[rI l.Char,rI l.Ref,.own 24<|q 8])<|by rfl,Za⟩) λq n1=>?_
  refine BU [3,4,5,9,10,11,12,13,14,15,16,17,18,19,20,21,22,23,24,25] [5,8,24] ?_
  refine AE h6 λx5 I h7=>sQ R (GT R B1.slice iL R iL λ_=>I) ?_
  refine AL.weak (by exact Ae.frz (e':=[(3,.own 8<|j 0),(4,rI A),(5,.ptr 5 (j 1) 0 0),(9,qe B),(10,rL B),(11,rI A),(12,rB<|(decide<|A<(B.length:Int))),(13,rI A),(14,.rop (AP.row l) 0),(15,.agg<|CF l),(16,.own 8<|j 0),(17,rI A),(18,.ptr 5 (j 1) 0 0),(19,rI l.Char),(20,.ptr 5 (j 1) 0 1),(21,rI l.Ref),(22,.ptr 5 (j 1) 0 2),(23,qa l.Attrs),(24,qa F),(25,.agg [rI l.Char,rI l.Ref,qa F]),(26,.ptr 8 (j 0) A.toNat 0)]) (h':=[(5,some<|.box (j 1) 60<|CF l),(8,some<|.arr (j 0) 60 3<|m.map AP.row)]) 24 R ⟨jL,jL,jL,jL,jL,jL,jL,jL,jL,jL,jL,jL,jL,jL,jL,jL,jL,jL,.inl<|.inr<|.inr ⟨R,R⟩,.inr ⟨_,_,R,R,⟨.inl R,.inl R,.inr<|.inr ⟨R,R⟩,Za⟩⟩,jL,Za⟩ ⟨R,.inl R,R,.inl R,Za⟩) ?_
  refine Zj R R (SS (v:=(AP.mk l.Char l.Ref F)) R LL iL R I iL R R R R)<|aZ<|c8 _<|aG [3,9,10,11] [8] ?_
  exact aR<|AE h7 λx6 a0 h8=>xA R a0<|mM R<|Zh<|ZG h8 (AH [(j 0),n1]) wk
 exact Zm<|M _ _ wk<|J1 _ (AH [(j 0),(j 1)])<|xH U V
theorem fy{n1 r}(h:Mo n1=some r):AZ prog 39 (Io n1) (.agg<|At r):=by
 unfold Mo at h
 refine mF func39 ntmps39 R λj=>aU<|sS R (Aw (cs:=(At n1)) 1 R iL R R)<|sS R (BB (cs:=FT) 2 R Hs R R)<|aZ<|aU<|lF Kz Ca R R<|AE h λI J h1=>sS R (Ka 8 (f:=AG.row) R BA iL (.inl ⟨iL,λ_=>R⟩) J)<|sQ R (fB R Kz iL fR R)<|Zj R R (Az (ds:=[rI n1.ID,rI n1.Kind,.own 8<|j+2,qe n1.Flow,rI n1.Grid.Rows,rI n1.Grid.Cols,qc n1.Grid.Cells,qd n1.Grid.Merges,qf n1.Draw]) R Jq iL R iL R R R R)<|aZ<|aU<|lF EH EN R R<|AE h1 λB M h2=>sS R (Cb (r:=qe B) (caps:=[]) (bs:=[qe n1.Flow]) R iL R ⟨.inl ⟨iL,R⟩,Za⟩ λ_=>bC<|M)<|sQ R (fB R EH iL fR R)<|Zj R R (Az (ds:=[rI n1.ID,rI n1.Kind,.own 8<|j+2,qe B,rI n1.Grid.Rows,rI n1.Grid.Cols,qc n1.Grid.Cells,qd n1.Grid.Merges,qf n1.Draw]) R jw iL R iL R R R R)<|aZ<|aT λc4=>aG [1,2] [1,2,8] ?_
 refine aR<|lF Fw GM R R<|AE h2 λO T h3=>sS R (Ka 16 (f:=Au.row) R Dq iL (.inl ⟨iL,λ_=>R⟩) T)<|sQ R (fB R Fw iL fR R)<|Zj R R (Az (ds:=[rI n1.ID,rI n1.Kind,.own 8<|j+2,qe B,rI n1.Grid.Rows,rI n1.Grid.Cols,qc n1.Grid.Cells,qd n1.Grid.Merges,.own 16<|j+3]) R il iL R iL R R R R)<|aZ<|c4 _<|aU<|sQ R (fB R DF iL fR R)<|sQ R (GL (ds:=(Bs n1.Grid)) R Fm iL R R R)<|sS R (BB (cs:=PJ) 3 R cC R R)<|Zj R R (Az (ds:=(Bs n1.Grid)) R U3 iL R iL R R R R)<|aZ<|aU<|lF Dx EB R R<|AE h3 λl3 U h4=>sS R (Ka 22 (f:=Ak.row) R CW iL (.inl ⟨iL,λ_=>R⟩) U)<|sQ R (fB R Dx iL fR R)<|Zj R R (Az (ds:=[rI n1.Grid.Rows,rI n1.Grid.Cols,qc n1.Grid.Cells,.own 22<|j+5]) R jF iL R iL R R R R)<|aZ<|aT λc7=>aG [1,2,3] [1,2,3,8,16,22] ?_
 refine aR<|lF DS Dc R R<|AE h4 λF V h5=>sS R (Ka 26 (f:=Am.row) R Bm iL (.inl ⟨iL,λ_=>R⟩) V)<|sQ R (fB R DS iL fR R)<|Zj R R (Az (ds:=[rI n1.Grid.Rows,rI n1.Grid.Cols,.own 26<|j+6,.own 22<|j+5]) R YY iL R iL R R R R)<|aZ<|c7 _<|aS λK8 c8 X=>aU<|lF DS Dc R R<|sQ R (Jv R Bm.slice iL R)<|mM R<|aZ<|Zf<|Ba h5 λo1 C Z=>?_
 have J1:∀(g4:A5) (w:NN),o1=g4→K8 ⟨[(1,.ptr 1 j 0 0),(2,.ptr 2 (j+1) 0 0),(3,.ptr 3 (j+4) 0 0)],[(1,some<|.box j 47 [rI n1.ID,rI n1.Kind,.own 8<|j+2,qe B,rI n1.Grid.Rows,rI n1.Grid.Cols,qc n1.Grid.Cells,qd n1.Grid.Merges,.own 16<|j+3]),(2,some<|.box (j+1) 47 FT),(3,some<|.box (j+4) 44 [rI g4.Rows,rI g4.Cols,.own 26<|w 0,.own 22<|w 1]),(8,some<|.arr (j+2) 123 2<|I.map AG.row),(16,some<|.arr (j+3) 129 8<|O.map Au.row),(22,some<|.arr (w 1) 86 4<|g4.Merges.map Ak.row),(26,some<|.arr (w 0) 84 5<|g4.Cells.map Am.row)],(w 2),48⟩:=by
  intro g4 w e
  have h6:=Z _ e
  refine c8 _<|aU<|xC Fm R<|sQ R (fB R DF iL fR R)<|Zj R R (Az (ds:=[rI n1.ID,rI n1.Kind,.own 8<|j+2,qe B,rI g4.Rows,rI g4.Cols,.own 26<|w 0,.own 22<|w 1,.own 16<|j+3]) R U3 iL R iL R R R R)<|aZ<|aU<|xC DO R<|Zj R R (Az (ds:=[rI n1.ID,rI n1.Kind,.own 8<|j+2,qe B,rI g4.Rows,rI g4.Cols,.own 26<|w 0,.own 22<|w 1,.own 16<|j+3]) R Gw iL R iL R R R R)<|aZ ?_
  exact Zi<|CG (P:=prog) (λ(r:AX)=>.agg<|At r) h6 iL<|.a DO R R R<|.agg<|by exact⟨.closed _ R,.closed _ R,.own R,.closed _ R,.closed _ R,.closed _ R,.own R,.own R,.own R,Za⟩
 refine Ch (λ(q:Int) (g2:A5) l=>⟨[(1,.ptr 1 j 0 0),(2,.ptr 2 (j+1) 0 0),(3,.ptr 3 (j+4) 0 0),(29,.own 26<|l 0),(30,rL F),(31,rI q)],[(1,some<|.box j 47 [rI n1.ID,rI n1.Kind,.own 8<|j+2,qe B,rI n1.Grid.Rows,rI n1.Grid.Cols,qc n1.Grid.Cells,qd n1.Grid.Merges,.own 16<|j+3]),(2,some<|.box (j+1) 47 FT),(3,some<|.box (j+4) 44 [rI g2.Rows,rI g2.Cols,.own 26<|l 0,.own 22<|l 1]),(8,some<|.arr (j+2) 123 2<|I.map AG.row),(16,some<|.arr (j+3) 129 8<|O.map Au.row),(22,some<|.arr (l 1) 86 4<|g2.Merges.map Ak.row),(26,some<|.arr (l 0) 84 5<|g2.Cells.map Am.row)],(l 2),48⟩) (AH [(j+6),(j+5),(j+7)]) C wk ?_
 intro q g2 l v1 a0 a1
 have h7:Ju F q g2=some v1:=a0;unfold Ju at h7
 refine aU<|xS R<|aZ<|aT λa2=>cI R h7 (λh8=>?_) λh8=>?_
 ·refine Zc<|a2 _<|aT λa6=>Zf<|aU<|mM R<|AE h8 λm A h9=>sQ R (GT R Bm.slice iL R iL λ_=>A)<|sQ R (VI (cs:=(BN m)) R Dy iL fR (λ_=>A) R)<|sS R (BB (cs:=GD) 5 R GE R R)<|mA R<|Zj R R (Az (ds:=(BN m)) R GO iL R iL R R R R)<|aZ<|AE h9 λl5 a7 a8=>?_
  refine Li 6 [pO 36<|.ptr 3 (j+4) 0 2,pO 37<|.own 26<|l 0,pO 38<|rI q,pO 39<|.ptr 5 (l 2) 0 4,pO 40<|qa m.Attrs,⟨some 41,(λE=>.own 41<|E 5),some (41,(λE=>some<|.arr (E 5) 123 2<|l5.map AG.row)),[5]⟩] BV (by kernel_rfl) (by exact⟨λ_ _ h=>⟨R,λ_ _ e=>by cases e⟩,λ_ _ h=>⟨R,λ_ _ e=>by cases e⟩,λ_ _ h=>⟨R,λ_ _ e=>by cases e⟩,λ_ _ h=>⟨R,λ_ _ e=>by cases e⟩,λ_ _ h=>⟨R,λ_ _ e=>by cases e⟩,λ_ _ h=>⟨by simp only[h 5 R],λ_ _ e=>by cases e;simp only[h 5 R]⟩,Za⟩) R (by exact⟨oB [(3,.ptr 3 (j+4) 0 0)] [(3,some<|.box (j+4) 44 [rI g2.Rows,rI g2.Cols,.own 26<|l 0,.own 22<|l 1])]<|fB R DS (.inl R) (λ_=>R) R,oB [(36,.ptr 3 (j+4) 0 2)] [(3,some<|.box (j+4) 44 [rI g2.Rows,rI g2.Cols,.own 26<|l 0,.own 22<|l 1])]<|AU (a:=.own 26<|l 0) R Dc (.inl R) R R,oB [(4,rI q)] []<|AK R<|.inl R,oB [(5,.ptr 5 (l 2) 0 0)] [(5,some<|.box (l 2) 84<|BN m)]<|fB R Fv (.inl R) (λ_=>R) R,oB [(39,.ptr 5 (l 2) 0 4)] [(5,some<|.box (l 2) 84<|BN m)]<|AU (a:=qa m.Attrs) R Ca (.inl R) R R,oM (λ_=>[(40,qa m.Attrs)]) (λ_=>[]) R λE e h' n=>Ka 41 (f:=AG.row) R BA (.inl R) (.inl ⟨(.inl R),λ_=>R⟩) a7,Za⟩) λE n2=>?_
  refine BU [1,2,3,4,5,29,30,31,32,33,34,35,36,37,38,39,40,41] [1,2,3,5,8,16,22,26,41] ?_
  refine sQ R (GT R Bm.slice iL R iL λ_=>A)<|sQ R (H5 (ob:=.arr _ _ _ _) R Fv iL fR R) ?_
  refine AL.weak (by exact Ae.frz (e':=[(1,.ptr 1 j 0 0),(2,.ptr 2 (j+1) 0 0),(3,.ptr 3 (j+4) 0 0),(4,rI q),(5,.ptr 5 (l 2) 0 0),(29,.own 26<|l 0),(30,rL F),(31,rI q),(32,rB<|(decide<|q<(F.length:Int))),(33,rI q),(34,.ptr 26 (l 0) q.toNat 0),(35,.agg<|BN m),(36,.ptr 3 (j+4) 0 2),(37,.own 26<|l 0),(38,rI q),(39,.ptr 5 (l 2) 0 4),(40,qa m.Attrs),(41,qa l5),(42,.ptr 26 (l 0) q.toNat 0),(43,.ptr 26 (l 0) q.toNat 4)]) (h':=[(1,some<|.box j 47 [rI n1.ID,rI n1.Kind,.own 8<|j+2,qe B,rI n1.Grid.Rows,rI n1.Grid.Cols,qc n1.Grid.Cells,qd n1.Grid.Merges,.own 16<|j+3]),(2,some<|.box (j+1) 47 FT),(3,some<|.box (j+4) 44 [rI g2.Rows,rI g2.Cols,.own 26<|l 0,.own 22<|l 1]),(5,some<|.box (l 2) 84<|BN m),(8,some<|.arr (j+2) 123 2<|I.map AG.row),(16,some<|.arr (j+3) 129 8<|O.map Au.row),(22,some<|.arr (l 1) 86 4<|g2.Merges.map Ak.row),(26,some<|.arr (l 0) 84 5<|g2.Cells.map Am.row)]) 41 R ⟨jL,jL,jL,jL,jL,jL,jL,jL,jL,jL,jL,jL,jL,jL,jL,jL,jL,.inl<|.inr<|.inr ⟨R,R⟩,jL,jL,Za⟩ ⟨R,.inl R,R,.inl R,R,.inl R,R,.inl R,R,.inl R,R,.inl R,R,.inl R,R,.inl R,Za⟩) ?_
  refine Zj R R (TC (v:=(Am.mk m.Row m.Col m.Text m.Ref l5)) R Jq iL R A iL R R R R)<|aZ<|a6 _<|aG [1,2,3,29,30,31] [1,2,3,8,16,22,26] ?_
  exact aR<|AE a8 λx5 aa ab=>xA R aa<|mM R<|Zh<|ZG ab (AH [(l 0),(l 1),n2]) wk
 exact Zm<|X _ _ wk<|J1 _ (AH [(l 0),(l 1),(l 2)])<|xH a1 h8
theorem gb{d1 r}(h:Me d1=some r):AZ prog 21 [.agg [qb d1.Nodes]] (.agg [qb r.Nodes]):=by
 unfold Me at h
 refine mF func21 ntmps21 R λj=>aU<|sS R (Aw (cs:=[qb d1.Nodes]) 1 R iL R R)<|sS R (BB (cs:=[cZ]) 2 R QW R R)<|aZ<|aT λc2=>aR<|lF B8 B6 R R<|xL Bh R<|AE h λl1 F h1=>sS R (Uk 9 R Bh (f:=AX.row) (z0:=(AX.mk 0 0 [] [] (A5.mk 0 0 [] []) [])) mO iL iL F) ?_
 refine sQ R (Bq R SB (q:=[(0,_)]) (by exact⟨R,R,R,iL,Za⟩) (cs:=[.own 9<|j+2])<|by rfl) ?_
 refine sS R (BB (cs:=[cZ]) 3 R QW R R)<|Zj R R (Az (ds:=[.own 9<|j+2]) R OF iL R iL R R R R)<|aZ<|c2 _<|aS λK3 c3 I=>aU<|lF B8 B6 R R<|xL Bh R<|mM R<|aZ<|Zf<|Ba h1 λo1 A J=>?_
 have J1:∀(m:AN) (B:NN),o1=m→K3 ⟨[(2,.ptr 2 (j+1) 0 0),(3,.ptr 3 (j+3) 0 0)],[(2,some<|.box (j+1) 24 [cZ]),(3,some<|.box (j+3) 24 [.own 9<|B 0]),(9,some<|.arr (B 0) 47 9<|m.Nodes.map AX.row)],(B 1),27⟩:=by
  intro m B e
  have h2:=J _ e
  refine c3 _<|aU<|xC B7 R<|Zj R R (Az (ds:=[.own 9<|B 0]) R OF iL R iL R R R R)<|aZ ?_
  exact Zi<|CG (P:=prog) (λ(r:AN)=>.agg [qb r.Nodes]) h2 iL<|.a B7 R R R<|.agg<|by exact⟨.own R,Za⟩
 refine Ch (λ(C:Int) (q:AN) l=>⟨[(2,.ptr 2 (j+1) 0 0),(3,.ptr 3 (j+3) 0 0),(12,qb d1.Nodes),(13,rL d1.Nodes),(14,rI C)],[(2,some<|.box (j+1) 24 [cZ]),(3,some<|.box (j+3) 24 [.own 9<|l 0]),(9,some<|.arr (l 0) 47 9<|q.Nodes.map AX.row)],(l 1),27⟩) (AH [(j+2),(j+4)]) A wk ?_
 intro C q l v1 M O
 have h3:Hh d1 C q=some v1:=M;unfold Hh at h3
 refine aU<|xS R<|aZ<|aT λc7=>cI R h3 (λT=>?_) λT=>?_
 ·refine Zc<|c7 _<|aT λc8=>Zf<|aU<|mM R<|AE T λw U h5=>xI Bh R U<|xB ((At w)) DO R<|sS R (BB (cs:=FT) 5 R Hs R R)<|mA R<|Zj R R (Az (ds:=(At w)) R Gw iL R iL R R R R)<|aZ<|AE h5 λV X h6=>?_
  refine rP 5 [pO 19<|.ptr 3 (j+3) 0 0,pO 20<|.own 9<|l 0,pO 21<|rI C,pO 22<|.agg<|At w,pO 23<|.agg<|At V] BV R (by exact⟨oB [(3,.ptr 3 (j+3) 0 0)] [(3,some<|.box (j+3) 24 [.own 9<|l 0])]<|fB R B8 (.inl R) (λ_=>R) R,oB [(19,.ptr 3 (j+3) 0 0)] [(3,some<|.box (j+3) 24 [.own 9<|l 0])]<|AU (a:=.own 9<|l 0) R B6 (.inl R) R R,oB [(4,rI C)] []<|AK R<|.inl R,oB [(5,.ptr 5 (l 1) 0 0)] [(5,some<|.box (l 1) 47<|At w)]<|DU R DO (.inl R) R R,oD (λ_=>[(22,.agg<|At w)]) (λ_=>[]) λG1 e h' n=>Cb (r:=.agg<|At V) (caps:=[]) (bs:=(Io w)) R (.inl R) R ⟨.inl ⟨(.inl R),R⟩,Za⟩ λ_=>fy<|X,Za⟩) λG1 n1=>?_
  refine BU [2,3,4,5,12,13,14,15,16,17,18,19,20,21,22,23] [2,3,5,9] ?_
  refine AE h6 λx5 E h7=>sQ R (GT R Bh.slice iL R iL λ_=>E)<|Zj R R (SS (v:=V) R Gw iL R E iL R R R R)<|aZ<|c8 _<|aG [2,3,12,13,14] [2,3,9] ?_
  exact aR<|AE h7 λx6 Z h8=>xA R Z<|mM R<|Zh<|ZG h8 (AH [(l 0),n1]) wk
 exact Zm<|I _ _ wk<|J1 _ (AH [(l 0),(l 1)])<|xH O T
theorem jP{d1 r}(h:Pj d1=some r):Ax prog 6 1 [.agg [qb d1.Nodes]] [] (λm h'=>∃(i:Nat→Nat),m=.fn 22 [.ptr 1000 (i 0) 0 0]∧h'=[(1000,some<|.box (i 0) 24 [qb r.Nodes])]):=by
 unfold Pj at h
 refine DV func6 R R ntmps6 (Zq R) λj=>aU<|sS R (Aw (cs:=[qb d1.Nodes]) 1000 R iL R R)<|mA R<|aZ<|aU<|xC B7 R<|AE h λl q w=>sS R (Cb (r:=.agg [qb l.Nodes]) (caps:=[]) (bs:=[.agg [qb d1.Nodes]]) R iL R ⟨.inl ⟨iL,R⟩,Za⟩ λ_=>gb<|q)<|Zj R R (Az (ds:=[qb l.Nodes]) R OF iL R iL R R R R)<|aZ<|aT λA=>aR ?_
 refine sQ R (HD (bs:=[.ptr 1000 j 0 0]) R<|by exact⟨iL,Za⟩) ?_
 refine mA R<|oZ A ?_
 exact Zi<|ZA (s':=⟨[(2,.fn 22 [.ptr 1000 j 0 0])],[(1000,some<|.box j 24 [qb l.Nodes])],(j+1),6⟩) wk<|Bf (λ(r:AN) m h'=>∃(i:Nat→Nat),m=.fn 22 [.ptr 1000 (i 0) 0 0]∧h'=[(1000,some<|.box (i 0) 24 [qb r.Nodes])]) w<|by exact⟨.fn 22 [.ptr 1000 j 0 0],[(1000,some<|.box j 24 [qb l.Nodes])],R,⟨.inr R,Za⟩,R,R,AH [j],R,R⟩
theorem Yj{B:List (List RV)→Option Bool}{m:List (List RV)}{v1:Ab}{r:Bool × (List<|List RV)}{l:Nat}{j:Nat}{q:Ec}(h:Gb B m v1=some r)(C:q.P=prog∧q.A=B):Ax prog 24 2 [.agg<|Bj v1,.ptr 1000 l 0 0] [(1000,some<|.box l 63 [.yld 1001 j]),(1001,some<|.cal j q m)] (λw h'=>∃(i:Nat→Nat),w=rB r.1∧h'=[(1000,some<|.box l 63 [.yld 1001 j]),(1001,some<|.cal j q r.2)]):=by
 unfold Gb at h
 refine DV func24 R R ntmps24 (Zq R) λF=>aU<|sS R (Aw (cs:=(Bj v1)) 2 R iL R R)<|mA R<|aZ<|aT λI=>mz<|Di.step R R R (CS (AU (a:=.yld 1001 j) R bR (.inl R) R R) _)<|Di.step R R R (CS (fB R DT (.inl R) fR R) _)<|Di.step R R R (CS (AU (a:=rI v1.id) R AI (.inl R) R R) _)<|Di.step R R R (CS (fB R bY (.inl R) fR R) _)<|Di.step R R R (CS (AU (a:=rI v1.parent) R AI (.inl R) R R) _)<|AE h λE A J=>?_
 refine Di.stepC (W:=q) (y:=[.int .i64 v1.id,.int .i64 v1.parent]) C.1 R R R R (.inl R) ⟨(.inl R),(.inl R),Za⟩ R R (by rw[C.2];exact A) ?_
 refine Di.step R R R (CS (EF R<|.inl R) _)<|Di.nil<|I _ ?_
 exact Zi<|ZA (s':=⟨[(3,rB E)],[(1000,some<|.box l 63 [.yld 1001 j]),(1001,some<|.cal j q<|m++[[.int .i64 v1.id,.int .i64 v1.parent]])],(F+1),10⟩) wk<|Bf (λ(r:Bool × (List<|List RV)) w h'=>∃(i:Nat→Nat),w=rB r.1∧h'=[(1000,some<|.box l 63 [.yld 1001 j]),(1001,some<|.cal j q r.2)]) J<|by exact⟨rB E,[(1000,some<|.box l 63 [.yld 1001 j]),(1001,some<|.cal j q<|m++[[.int .i64 v1.id,.int .i64 v1.parent]])],R,⟨.inr R,.inr R,Za⟩,R,R,AH [],R,R⟩
theorem Sw{m b c r}(h:Fs m b c=some r):AZ prog 43 [.agg<|Bs m,rI b,rI c] (.agg<|A3 r):=by
 unfold Fs at h
 refine mF func43 ntmps43 R λj=>aU<|sS R (Aw (cs:=(Bs m)) 3 R iL R R)<|sS R (BB (cs:=Ek) 6 R GS R R)<|aZ<|aT λc2=>aR<|mM R<|mM R ?_
 refine sQ R (Bq R Tn (q:=[(0,_),(1,_),(2,_),(3,_)]) (by exact⟨R,R,R,iL,R,R,R,iL,R,R,R,iL,R,R,R,iL,Za⟩) (cs:=[rI b,rI c,rI 1,rI 1])<|by rfl) ?_
 refine sS R (BB (cs:=Ek) 7 R GS R R)<|Zj R R (Az (ds:=[rI b,rI c,rI 1,rI 1]) R Fc iL R iL R R R R)<|aZ<|c2 _<|aS λK3 c3 B=>aU<|lF Dx EB R R<|xL CW R<|mM R<|aZ<|Zf<|BI h λo1 q C E=>?_
 have J1:∀(u2:Unit) (i5:NN),o1=.nrm u2→K3 ⟨[(6,.ptr 6 (j+1) 0 0),(7,.ptr 7 (j+2) 0 0)],[(6,some<|.box (j+1) 86 Ek),(7,some<|.box (j+2) 86 [rI b,rI c,rI 1,rI 1])],(i5 0),51⟩:=by
  intro u2 i5 e
  have h1:=C _ e
  exact c3 _<|aU<|xC C3 R<|Zj R R (Az (ds:=[rI b,rI c,rI 1,rI 1]) R Fc iL R iL R R R R)<|aZ<|Zi<|CG (P:=prog) (λ(r:Ak)=>.agg<|A3 r) h1 iL<|.a C3 R R R<|.g (cs:=[.int .i64 b,.int .i64 c,.int .i64 1,.int .i64 1]) R R
 refine Zv (λ(F:Int) A=>⟨[(1,rI b),(2,rI c),(6,.ptr 6 (j+1) 0 0),(7,.ptr 7 (j+2) 0 0),(14,qd m.Merges),(15,rL m.Merges),(16,rI F)],[(6,some<|.box (j+1) 86 Ek),(7,some<|.box (j+2) 86 [rI b,rI c,rI 1,rI 1])],(A 0),51⟩) (AH [(j+3)]) q wk ?_
 intro F A v1 I w
 have h2:IU m b c F=some v1:=I;unfold IU at h2
 refine aU<|xS R<|aZ<|aT λc7=>cI R h2 (λJ=>?_) λJ=>?_
 ·refine Zc<|c7 _<|aT λc8=>Zf<|aU<|AE J λl M h4=>xI CW R M<|xB ((A3 l)) C3 R<|sS R (BB (cs:=Ek) 9 R GS R R)<|Zj R R (Az (ds:=(A3 l)) R Fc iL R iL R R R R)<|aZ<|aT λO=>aR<|mM R<|lF CV AI R R<|sQ R (Cw R iL iL)<|mM R<|vM R<|vF CV AI R R<|AE h4 λx5 T h5=>vQ R (CQ R (iR R) (iR R)<|Af T)<|vF Gg AI R R<|vQ R (Bz R (iR R)<|iR R)<|xN R<|mM R<|vM R<|vF Cv AI R R<|vQ R (Cw R (iR R)<|iR R)<|xN R<|mM R<|vM R<|vF Cv AI R R<|AE h5 λx6 U h6=>vQ R (CQ R (iR R) (iR R)<|Af U)<|vF GB AI R R<|vQ R (Bz R (iR R)<|iR R)<|xN R<|aZ<|O _<|cI R h6 (λV=>?_) λV=>?_
  ·refine aT λX=>aG [6,9] [6,9] ?_
   exact aR<|xC C3 R<|Zj R R (Az (ds:=(A3 l)) R Fc iL R iL R R R R)<|aZ<|X _<|Zi<|CG (P:=prog) (λ(r:Ak)=>.agg<|A3 r) (E _<|xH w V) iL<|.a C3 R R R<|.g (cs:=[.int .i64 l.Row,.int .i64 l.Col,.int .i64 l.H,.int .i64 l.W]) R R
  refine Zc<|c8 _<|aG [1,2,6,7,14,15,16] [6,7] ?_
  exact aR<|AE V λx7 Z h8=>xA R Z<|mM R<|Zh<|Zr h8 (AH [((A 0)+1)]) wk
 exact Zm<|B _ _ wk<|J1 _ (AH [(A 0)])<|xH w J
theorem Rc{w:List AG}{A:AG}{B:AG}{r:(List AG)}{j:Nat}{l:Nat}(h:JE w A B=some r):Ax prog 155 2 [.agg<|CA A,.agg<|CA B,.ptr 1000 j 0 0] [(1000,some<|.box j 39 [.own 1001 l]),(1001,some<|.arr l 123 2<|w.map AG.row)] (λq h'=>∃(i:Nat→Nat),q=.tup []∧h'=[(1000,some<|.box j 39 [.own 1001<|i 0]),(1001,some<|.arr (i 0) 123 2<|r.map AG.row)]):=by
 unfold JE at h
 refine DV func155 R R ntmps155 (Zq R) λm=>aU<|sS R (Aw (cs:=(CA A)) 3 R iL R R)<|sS R (Aw (cs:=(CA B)) 4 R iL R R)<|aZ<|Zf<|aU<|lF EX BE R R<|sQ R (E5 R iL iL)<|mA R<|aZ<|cI R h (λC=>?_) λC=>?_
 ·refine aR<|sQ R (AU (a:=.own 1001 l) R Ca iL R R)<|xC EG R<|sS R (Bo 11 R BA (f:=AG.row) (l:=([A]:List AG)) ⟨R,⟨_,iL,R⟩,Za⟩ R (λ_=>R) R)<|AE C λJ E O=>sS R (DB R BA iL R (.inr<|.inl ⟨_,_,iL,R⟩) E)<|Zj R R (Az (ds:=[.own 1001<|m+3]) R Jq iL R iL R R R R)<|Zh ?_
  exact ZA (s':=⟨[],[(1000,some<|.box j 39 [.own 1001<|m+3]),(1001,some<|.arr (m+3) 123 2<|J.map AG.row)],(m+4),21⟩) wk<|Bf (λ(r:(List AG)) q h'=>∃(i:Nat→Nat),q=.tup []∧h'=[(1000,some<|.box j 39 [.own 1001<|i 0]),(1001,some<|.arr (i 0) 123 2<|r.map AG.row)]) O<|by exact⟨.tup [],[(1000,some<|.box j 39 [.own 1001<|m+3]),(1001,some<|.arr (m+3) 123 2<|J.map AG.row)],⟨_,R,Za⟩,⟨.inr R,.inr R,Za⟩,R,R,AH [(m+3)],R,R⟩
 refine aU<|lF Ii BE R R<|sQ R (EA R iL iL)<|mA R<|aZ<|cI R C (λF=>?_) λF=>?_
 ·refine aG [2,4] [4,1000,1001] ?_
  refine aR<|sQ R (AU (a:=.own 1001 l) R Ca iL R R)<|xC EG R<|sS R (Bo 19 R BA (f:=AG.row) (l:=([B]:List AG)) ⟨R,⟨_,iL,R⟩,Za⟩ R (λ_=>R) R)<|AE F λM I T=>sS R (DB R BA iL R (.inr<|.inl ⟨_,_,iL,R⟩) I)<|Zj R R (Az (ds:=[.own 1001<|m+3]) R Jq iL R iL R R R R)<|Zh ?_
  exact ZA (s':=⟨[],[(1000,some<|.box j 39 [.own 1001<|m+3]),(1001,some<|.arr (m+3) 123 2<|M.map AG.row)],(m+4),21⟩) wk<|Bf (λ(r:(List AG)) q h'=>∃(i:Nat→Nat),q=.tup []∧h'=[(1000,some<|.box j 39 [.own 1001<|i 0]),(1001,some<|.arr (i 0) 123 2<|r.map AG.row)]) T<|by exact⟨.tup [],[(1000,some<|.box j 39 [.own 1001<|m+3]),(1001,some<|.arr (m+3) 123 2<|M.map AG.row)],⟨_,R,Za⟩,⟨.inr R,.inr R,Za⟩,R,R,AH [(m+3)],R,R⟩
 refine Zc ?_
 exact ZA (s':=⟨[],[(1000,some<|.box j 39 [.own 1001 l]),(1001,some<|.arr l 123 2<|w.map AG.row)],(m+2),21⟩) wk<|Bf (λ(r:(List AG)) q h'=>∃(i:Nat→Nat),q=.tup []∧h'=[(1000,some<|.box j 39 [.own 1001<|i 0]),(1001,some<|.arr (i 0) 123 2<|r.map AG.row)]) F<|by exact⟨.tup [],[(1000,some<|.box j 39 [.own 1001 l]),(1001,some<|.arr l 123 2<|w.map AG.row)],⟨_,R,Za⟩,⟨.inr R,.inr R,Za⟩,R,R,AH [l],R,R⟩
theorem lq{c1:List AG}{B:List AG}{C:List AG}{r:(List AG)}{j:Nat}{l:Nat}(h:M4 c1 B C=some r):Ax prog 154 2 [qa B,qa C,.fn 155 [.ptr 1000 j 0 0]] [(1000,some<|.box j 39 [.own 1001 l]),(1001,some<|.arr l 123 2<|c1.map AG.row)] (λE h'=>∃(i:Nat→Nat),E=.tup []∧h'=[(1000,some<|.box j 39 [.own 1001<|i 0]),(1001,some<|.arr (i 0) 123 2<|r.map AG.row)]):=by
 unfold M4 at h
 refine DV func154 R R ntmps154 (Zq R) λn0=>aU<|mA R<|mA R<|aZ<|Zf<|BI h λo4 w av F=>FI (λ(I:Int) (J:Int) (o2:List AG) m=>⟨[(0,qa B),(1,qa C),(2,.fn 155 [.ptr 1000 j 0 0]),(6,rI I),(7,rI J)],[(1000,some<|.box j 39 [.own 1001<|m 0]),(1001,some<|.arr (m 0) 123 2<|o2.map AG.row)],(m 1),92⟩) (AH [l,n0]) w wk ?_
 intro I J o2 m v1 M O
 have h1:OA B C I J o2=some v1:=M;unfold OA at h1
 refine aT λC2=>aU<|mM R<|mM R<|xL BA R<|xS R<|mM R<|vM R<|vM R<|vQ R (DM R BA.slice<|iR R)<|vQ R (Bz R (iR R)<|iR R)<|xO R<|aZ<|cI R h1 (λT=>?_) λT=>?_
 ·refine Zc<|C2 _<|Zf<|Zf<|aT λC4=>?_
  refine Zz BV (by kernel_rfl) ?_
  refine qP R (AK R iL)<|qP R (AK R iL)<|qP R (DM R BA.slice iL)<|qP R (A8 R iL iL)<|qP R (AK R iL)<|qO R (AK R iL)<|qO R (AK R iL)<|qO R (DM R BA.slice<|iR R)<|qO R (Bz R (iR R)<|iR R)<|qO R (AK R<|iR R)<|qT R (AK R iL)<|qT R (AK R iL)<|AE T λx1 U h3=>qT R (A9 R BA.slice (iR R) (iR R) (λ_=>R)<|Af U)<|qT R (BH R EX<|iR R)<|qT R (Bc (d:=.str x1.Name) R BE (iR R) R)<|qT R (AK R iL)<|qT R (AK R iL)<|AE h3 λx2 V h4=>qT R (A9 R BA.slice (iR R) (iR R) (λ_=>R)<|Af V)<|qT R (BH R EX<|iR R)<|qT R (Bc (d:=.str x2.Name) R BE (iR R) R)<|qT R (Nh R (iR R)<|iR R)<|qO R (BK R (iR R)<|iR R)<|qP R (Ct R iL<|iR R)<|qP R (EF R iL)<|AQ.nil<|C4 _<|cI R h4 (λX=>?_) λX=>?_
  ·refine aT λC5=>aG [0,1,2,6,7] [1000,1001] ?_
   refine aR<|mM R<|mM R<|mM R<|AE X λx3 Z h6=>xI BA R Z<|xB ((CA x3)) EG R ?_
   refine sQ R (Bq R QV (q:=[]) (by exact Za) (cs:=[.r<|.str [],.r<|.str []])<|by rfl) ?_
   refine AE h6 λw1 a0 h7=>?_
   refine Zw [1000,1001] (hc:=[(1000,some<|.box j 39 [.own 1001<|m 0]),(1001,some<|.arr (m 0) 123 2<|o2.map AG.row)]) (bs:=[.agg<|CA x3,.agg [.r<|.str [],.r<|.str []]]) (caps:=[.ptr 1000 j 0 0]) R R R R iL R ⟨.inl ⟨iL,R⟩,.inl ⟨iL,R⟩,Za⟩ ⟨R,R,R,R,R,R,Za⟩ (by decide) (Rc a0) ?_
   intro i8 n1
   refine BU [0,1,2,6,7,56,57,58,59,60,61,62] [1000,1001] ?_
   exact aZ<|C5 _<|aR<|mM R<|AE h7 λi9 a2 h8=>xA R a2<|mA R<|Zh<|D0.mk h8 (AH [(i8 0),n1]) wk
  refine aT λC6=>aG [0,1,2,6,7] [1000,1001] ?_
  refine Zz BV (by kernel_rfl) ?_
  refine qP R (AK R iL)<|qP R (AK R iL)<|qP R (DM R BA.slice iL)<|qP R (A8 R iL iL)<|qP R (AK R iL)<|qO R (AK R iL)<|qO R (AK R iL)<|AE X λx4 a6 h9=>qO R (A9 R BA.slice (iR R) (iR R) (λ_=>R)<|Af a6)<|qO R (BH R EX<|iR R)<|qO R (Bc (d:=.str x4.Name) R BE (iR R) R)<|qO R (AK R iL)<|qO R (AK R iL)<|AE h9 λx5 a7 a8=>qO R (A9 R BA.slice (iR R) (iR R) (λ_=>R)<|Af a7)<|qO R (BH R EX<|iR R)<|qO R (Bc (d:=.str x5.Name) R BE (iR R) R)<|qO R (Nh R (iR R)<|iR R)<|qP R (Ct R iL<|iR R)<|qP R (EF R iL)<|AQ.nil<|C6 _<|cI R a8 (λq=>?_) λq=>?_
  ·refine aT λC7=>aR<|mM R ?_
   refine sQ R (Bq R QV (q:=[]) (by exact Za) (cs:=[.r<|.str [],.r<|.str []])<|by rfl) ?_
   refine mM R<|mM R<|AE q λx6 aa ab=>xI BA R aa<|xB ((CA x6)) EG R<|AE ab λw2 ac ad=>?_
   refine Zw [1000,1001] (hc:=[(1000,some<|.box j 39 [.own 1001<|m 0]),(1001,some<|.arr (m 0) 123 2<|o2.map AG.row)]) (bs:=[.agg [.r<|.str [],.r<|.str []],.agg<|CA x6]) (caps:=[.ptr 1000 j 0 0]) R R R R iL R ⟨.inl ⟨iL,R⟩,.inl ⟨iL,R⟩,Za⟩ ⟨R,R,R,R,R,R,Za⟩ (by decide) (Rc ac) ?_
   intro ae n2
   refine BU [0,1,2,6,7,65,66,67,68,69,70,82,83,84,85,86,87,88,89] [1000,1001] ?_
   refine aZ<|C7 _<|aG [0,1,2,6,7] [1000,1001] ?_
   exact aR<|mM R<|AE ad λj4 af ag=>xA R af<|mA R<|Zh<|D0.mk ag (AH [(ae 0),n2]) wk
  refine aT λC8=>?_
  refine XF 9 BV (by kernel_rfl) R R ?_
  refine AT.step R R R (AK R iL)<|AT.step R R R (AK R iL)<|AT.step R R R (AK R iL)<|AE q λx7 ah ai=>AT.step R R R (A9 R BA.slice iL iL (λ_=>R) λ_=>ah)<|AT.step R R R (Cf (cs:=(CA x7)) R EG iL R R)<|AT.step R R R (AK R iL)<|AT.step R R R (AK R iL)<|AE ai λx8 aj ak=>AT.step R R R (A9 R BA.slice iL iL (λ_=>R) λ_=>aj)<|AT.step R R R (Cf (cs:=(CA x8)) R EG iL R R)<|AT.nil<|AE ak λw3 al an=>?_
  refine Zw [1000,1001] (hc:=[(1000,some<|.box j 39 [.own 1001<|m 0]),(1001,some<|.arr (m 0) 123 2<|o2.map AG.row)]) (bs:=[.agg<|CA x7,.agg<|CA x8]) (caps:=[.ptr 1000 j 0 0]) R R R R iL R ⟨.inl ⟨iL,R⟩,.inl ⟨iL,R⟩,Za⟩ ⟨R,R,R,R,R,R,Za⟩ (by decide) (Rc al) ?_
  intro ao n3
  refine BU [0,1,2,6,7,18,19,20,21,22,23,24,25,26,27,65,66,67,68,69,70,82] [1000,1001] ?_
  refine aZ<|C8 _<|aG [0,1,2,6,7] [1000,1001] ?_
  exact aR<|mM R<|AE an λaw A aq=>xA R A<|mM R<|AE aq λj5 ar au=>xA R ar<|mA R<|mA R<|Zh<|D0.mk au (AH [(ao 0),n3]) wk
 refine Zm ?_
 exact ZA (s':=⟨[],[(1000,some<|.box j 39 [.own 1001<|m 0]),(1001,some<|.arr (m 0) 123 2<|o2.map AG.row)],(m 1),92⟩) wk<|Bf (λ(r:(List AG)) E h'=>∃(i:Nat→Nat),E=.tup []∧h'=[(1000,some<|.box j 39 [.own 1001<|i 0]),(1001,some<|.arr (i 0) 123 2<|r.map AG.row)]) (F _<|xH O T)<|by exact⟨.tup [],[(1000,some<|.box j 39 [.own 1001<|m 0]),(1001,some<|.arr (m 0) 123 2<|o2.map AG.row)],⟨_,R,Za⟩,⟨.inr R,.inr R,Za⟩,R,R,AH [(m 0)],R,R⟩
theorem XY{l c r}(h:LT l c=some r):AZ prog 139 [qa l,qa c] (qa r):=by
 unfold LT at h
 refine mF func139 ntmps139 R λj=>aU<|mA R<|aZ<|aU<|sS R (BB (cs:=[cZ]) 5 R RG R R)<|aZ<|aT λq=>aR<|mM R<|mM R ?_
 refine sQ R (HD (bs:=[.ptr 5 j 0 0]) R<|by exact⟨iL,Za⟩) ?_
 refine AL.weak (Zx (TF 5 0 3050 123 2 (by decide) R R<|by decide)<|by exact Ae.cv (e':=[(0,qa l),(1,qa c),(4,cZ),(5,.ptr 5 j 0 0),(6,qa l),(7,qa c),(8,.fn 155 [.ptr 5 j 0 0])]) (h':=[(5,some<|.box j 39 [.own 3050<|j+1]),(3050,some<|.arr (j+1) 123 2<|([]:List AG).map AG.row)]) ⟨jL,jL,jL,jL,jL,jL,jL,Za⟩ ⟨.inl R,.inl R,Za⟩ nL) ?_
 refine AE h λB m w=>?_
 refine Zw [5,3050] (hc:=[(1000,some<|.box j 39 [.own 1001<|j+1]),(1001,some<|.arr (j+1) 123 2<|([]:List AG).map AG.row)]) (bs:=[qa l,qa c,.fn 155 [.ptr 1000 j 0 0]]) (caps:=[]) R R R R iL R ⟨.inl ⟨iL,R⟩,.inl ⟨iL,R⟩,.inl ⟨iL,R⟩,Za⟩ ⟨R,R,R,R,R,R,Za⟩ (by decide) (lq m) ?_
 intro A C
 refine BU [0,1,4,5,6,7,8,9] [5,3050] ?_
 exact aZ<|q _<|aU<|sQ R (AU (a:=.own 3050<|A 0) R Ca iL R R)<|mA R<|aZ<|Zi<|CG (P:=prog) (λ(r:(List AG))=>qa r) w iL<|.t<|.one<|.own R
theorem XQ{A:List (Int × AB)}{m2:List (Int × (List AG))}{E:Int}{C:Int}{r:Bool}{q:Nat}{j:Nat}{w:Nat}{m:Nat}(h:MW A m2 E C=some r):Ax prog 140 3 [.ptr 1000 q 0 0,rI E,rI C] [(1000,some<|.box q 150 [.mref 1001 j,.mref 1002 m]),(1001,some<|.mb j w 103<|AJ AB.row A),(1002,some<|.md m<|AJ (λ(l:List AG)=>RV.sl<|l.map AG.row) m2)] (λF h'=>∃(i:Nat→Nat),F=rB r∧h'=[(1000,some<|.box q 150 [.mref 1001 j,.mref 1002 m]),(1001,some<|.mb j w 103<|AJ AB.row A),(1002,some<|.md m<|AJ (λ(l:List AG)=>RV.sl<|l.map AG.row) m2)]):=by
 unfold MW at h
 refine DV func140 R R ntmps140 (Zq R) λn0=>aU<|mA R<|aZ<|aS λK2 c2 U=>Zf<|BI h λo1 O V T=>?_
 have J1:∀(u2:Unit) (X:NN),o1=.nrm u2→K2 ⟨[],[(1000,some<|.box q 150 [.mref 1001 j,.mref 1002 m]),(1001,some<|.mb j w 103<|AJ AB.row A),(1002,some<|.md m<|AJ (λ(l:List AG)=>RV.sl<|l.map AG.row) m2)],(X 0),29⟩:=by
  intro u2 X e
  have h1:=V _ e
  refine c2 _<|aU<|mA R<|aZ ?_
  exact Zi<|ZA (s':=⟨[(6,rB false)],[(1000,some<|.box q 150 [.mref 1001 j,.mref 1002 m]),(1001,some<|.mb j w 103<|AJ AB.row A),(1002,some<|.md m<|AJ (λ(l:List AG)=>RV.sl<|l.map AG.row) m2)],(X 0),29⟩) wk<|Bf (λ(r:Bool) F h'=>∃(i:Nat→Nat),F=rB r∧h'=[(1000,some<|.box q 150 [.mref 1001 j,.mref 1002 m]),(1001,some<|.mb j w 103<|AJ AB.row A),(1002,some<|.md m<|AJ (λ(l:List AG)=>RV.sl<|l.map AG.row) m2)]) h1<|by exact⟨rB false,[(1000,some<|.box q 150 [.mref 1001 j,.mref 1002 m]),(1001,some<|.mb j w 103<|AJ AB.row A),(1002,some<|.md m<|AJ (λ(l:List AG)=>RV.sl<|l.map AG.row) m2)],R,⟨.inr R,.inr R,.inr R,Za⟩,R,R,AH [],R,R⟩
 refine Zv (λ(B:Int) M=>⟨[(0,.ptr 1000 q 0 0),(1,rI B),(2,rI C)],[(1000,some<|.box q 150 [.mref 1001 j,.mref 1002 m]),(1001,some<|.mb j w 103<|AJ AB.row A),(1002,some<|.md m<|AJ (λ(l:List AG)=>RV.sl<|l.map AG.row) m2)],(M 0),29⟩) (AH [n0]) O wk ?_
 intro B M v1 Z I
 have h2:GY A C B=some v1:=Z;unfold GY at h2
 refine aT λc4=>aU<|mM R<|sQ R (BY R iL iL)<|aZ<|cI R h2 (λh3=>?_) λh3=>?_
 ·refine Zc<|c4 _<|Zf<|aT λc6=>aU<|mM R<|mM R<|xQ R<|aZ<|cI R h3 (λh4=>?_) λh4=>?_
  ·refine aU<|mA R<|aZ ?_
   exact Zi<|ZA (s':=⟨[(6,rB true)],[(1000,some<|.box q 150 [.mref 1001 j,.mref 1002 m]),(1001,some<|.mb j w 103<|AJ AB.row A),(1002,some<|.md m<|AJ (λ(l:List AG)=>RV.sl<|l.map AG.row) m2)],(M 0),29⟩) wk<|Bf (λ(r:Bool) F h'=>∃(i:Nat→Nat),F=rB r∧h'=[(1000,some<|.box q 150 [.mref 1001 j,.mref 1002 m]),(1001,some<|.mb j w 103<|AJ AB.row A),(1002,some<|.md m<|AJ (λ(l:List AG)=>RV.sl<|l.map AG.row) m2)]) (T _<|xH I h4)<|by exact⟨rB true,[(1000,some<|.box q 150 [.mref 1001 j,.mref 1002 m]),(1001,some<|.mb j w 103<|AJ AB.row A),(1002,some<|.md m<|AJ (λ(l:List AG)=>RV.sl<|l.map AG.row) m2)],R,⟨.inr R,.inr R,.inr R,Za⟩,R,R,AH [],R,R⟩
  refine Zc<|c6 _<|aU<|mM R<|sQ R (LV (ob:=.box _ _ _) R iL fR R)<|lF SI Qg R R<|mM R<|sQ R (Ze true R underlying147 underlying3 (F2 ke) (.inl R) (.inl R) R)<|mM R<|xX R<|xX R<|mA R<|mA R<|aZ<|aT λa0=>aT λa1=>aG [0,2,7,8] [1000,1001,1002] ?_
  refine aR<|mM R<|sQ R (A4 R iL)<|aZ<|a1 _<|cI R h4 (λh5=>?_) λh5=>?_
  ·refine aU<|mA R<|aZ ?_
   exact Zi<|ZA (s':=⟨[(6,rB false)],[(1000,some<|.box q 150 [.mref 1001 j,.mref 1002 m]),(1001,some<|.mb j w 103<|AJ AB.row A),(1002,some<|.md m<|AJ (λ(l:List AG)=>RV.sl<|l.map AG.row) m2)],(M 0),29⟩) wk<|Bf (λ(r:Bool) F h'=>∃(i:Nat→Nat),F=rB r∧h'=[(1000,some<|.box q 150 [.mref 1001 j,.mref 1002 m]),(1001,some<|.mb j w 103<|AJ AB.row A),(1002,some<|.md m<|AJ (λ(l:List AG)=>RV.sl<|l.map AG.row) m2)]) (T _<|xH I h5)<|by exact⟨rB false,[(1000,some<|.box q 150 [.mref 1001 j,.mref 1002 m]),(1001,some<|.mb j w 103<|AJ AB.row A),(1002,some<|.md m<|AJ (λ(l:List AG)=>RV.sl<|l.map AG.row) m2)],R,⟨.inr R,.inr R,.inr R,Za⟩,R,R,AH [],R,R⟩
  exact Zc<|a0 _<|aR<|mM R<|AE h5 λx1 J h6=>sQ R (KY R iL R R λ_=>J)<|sQ R (QA R LW iL R R λ_=>J)<|sQ R (S5 (a:=x1) (d:=.int .i64 x1.Parent) R AI iL R R (λ_=>J) R)<|mA R<|Zh<|Zr h6 (AH [(M 0)]) wk
 exact Zm<|U _ _ wk<|J1 _ (AH [(M 0)])<|xH I h3
theorem dU{w r}(h:Kg w=some r):Ax prog 113 3 [qf w] [] (λZ h'=>∃(i:Nat→Nat),Z=.ptr 1000 (i 0) 0 0∧h'=[(1000,some<|.box (i 0) 150 [.mref 1001<|i 1,.mref 1002<|i 3]),(1001,some<|.mb (i 1) (i 2) 103<|AJ AB.row r.1),(1002,some<|.md (i 3)<|AJ (λ(l:List AG)=>RV.sl<|l.map AG.row) r.2)]):=by
 unfold Kg at h
 refine DV func113 R R ntmps113 (Zq R) λj=>aU<|mA R<|aZ<|aT λc2=>aR<|sS R (dQ AB.row 1001 103 R)<|sS R (Jn (λ(l:List AG)=>RV.sl<|l.map AG.row) 1002 R) ?_
 refine sQ R (Bq R X6 (q:=[(0,_),(1,_)]) (by exact⟨R,R,R,iL,R,R,R,iL,Za⟩) (cs:=[.mref 1001 j,.mref 1002<|j+1])<|by rfl) ?_
 refine sS R (Aw (cs:=[.mref 1001 j,.mref 1002<|j+1]) 1000 R iL R R)<|mA R<|aZ<|c2 _<|aS λK3 c3 a0=>aU<|mM R<|xL Dq R<|mM R<|aZ<|Zf<|H8 h λo1 I a1=>?_
 have J1:∀(J:List (Int × AB)) (M:List (Int × (List AG))) (B:NN),o1=(J,M)→K3 ⟨[(3,.ptr 1000 (j+2) 0 0)],[(1000,some<|.box (j+2) 150 [.mref 1001 j,.mref 1002<|j+1]),(1001,some<|.mb j (B 0) 103<|AJ AB.row J),(1002,some<|.md (j+1)<|AJ (λ(l:List AG)=>RV.sl<|l.map AG.row) M)],(B 1),64⟩:=by
  intro J M B e
  have h1:=a1 _ _ e
  refine c3 _<|aU<|mM R<|mA R<|aZ ?_
  exact Zi<|ZA (s':=⟨[(2,.ptr 1000 (j+2) 0 0)],[(1000,some<|.box (j+2) 150 [.mref 1001 j,.mref 1002<|j+1]),(1001,some<|.mb j (B 0) 103<|AJ AB.row J),(1002,some<|.md (j+1)<|AJ (λ(l:List AG)=>RV.sl<|l.map AG.row) M)],(B 1),64⟩) wk<|Bf (λ(r:(List<|Int × AB) × (List<|Int × (List AG))) Z h'=>∃(i:Nat→Nat),Z=.ptr 1000 (i 0) 0 0∧h'=[(1000,some<|.box (i 0) 150 [.mref 1001<|i 1,.mref 1002<|i 3]),(1001,some<|.mb (i 1) (i 2) 103<|AJ AB.row r.1),(1002,some<|.md (i 3)<|AJ (λ(l:List AG)=>RV.sl<|l.map AG.row) r.2)]) h1<|by exact⟨.ptr 1000 (j+2) 0 0,[(1000,some<|.box (j+2) 150 [.mref 1001 j,.mref 1002<|j+1]),(1001,some<|.mb j (B 0) 103<|AJ AB.row J),(1002,some<|.md (j+1)<|AJ (λ(l:List AG)=>RV.sl<|l.map AG.row) M)],R,⟨.inr R,.inr R,.inr R,Za⟩,R,R,AH [(j+2),j,(B 0),(j+1)],R,R⟩
 refine FI (λ(O:Int) (T:List (Int × AB)) (A:List (Int × (List AG))) q=>⟨[(3,.ptr 1000 (j+2) 0 0),(10,qf w),(11,rL w),(12,rI O)],[(1000,some<|.box (j+2) 150 [.mref 1001 j,.mref 1002<|j+1]),(1001,some<|.mb j (q 0) 103<|AJ AB.row T),(1002,some<|.md (j+1)<|AJ (λ(l:List AG)=>RV.sl<|l.map AG.row) A)],(q 1),64⟩) (AH [j,(j+3)]) I wk ?_
 intro O T A q v1 a2 a6
 have h2:H6 w O T A=some v1:=a2;unfold H6 at h2
 refine aU<|xS R<|aZ<|aT λc7=>cI R h2 (λh3=>?_) λh3=>?_
 ·refine Zc<|c7 _<|aS λK8 c8 C=>Zf<|H8 h3 λp1 a7 a8=>?_
  have J2:∀(m9:List (Int × AB)) (E:List (Int × (List AG))) (U:NN),p1=(m9,E)→K8 ⟨[(3,.ptr 1000 (j+2) 0 0),(10,qf w),(11,rL w),(12,rI O)],[(1000,some<|.box (j+2) 150 [.mref 1001 j,.mref 1002<|j+1]),(1001,some<|.mb j (U 0) 103<|AJ AB.row m9),(1002,some<|.md (j+1)<|AJ (λ(l:List AG)=>RV.sl<|l.map AG.row) E)],(U 1),64⟩:=by
   intro m9 E U e
   have h4:=a8 _ _ e
   exact c8 _<|aR<|AE h4 λx4 aa h5=>xA R aa<|mM R<|Zh<|D0.mk h5 (AH [(U 0),(U 1)]) wk
  refine aU<|AE a7 λm ab h6=>xI Dq R ab<|xB ((BX m)) GI R<|sS R (BB (cs:=PE) 5 R Pg R R)<|Zj R R (Az (ds:=(BX m)) R QJ iL R iL R R R R)<|aZ<|Zf<|aU<|lF FO AI R R<|xQ R<|mA R<|aZ<|cI R h6 (λh7=>?_) λh7=>?_
  ·refine AE h7 λr1 ac h8=>?_
   refine rP 20 [pO 20<|.ptr 1000 (j+2) 0 0,pO 21<|.ptr 1000 (j+2) 0 0,pO 22<|.ptr 1000 (j+2) 0 1,pO 23<|.mref 1002<|j+1,pO 24<|.ptr 5 (q 1) 0 3,pO 25<|rI m.Item,pO 26<|.ptr 1000 (j+2) 0 0,pO 27<|.ptr 1000 (j+2) 0 0,pO 28<|.ptr 1000 (j+2) 0 1,pO 29<|.mref 1002<|j+1,pO 30<|.ptr 5 (q 1) 0 3,pO 31<|rI m.Item,pO 32<|.r<|.sl<|((AR A m.Item).getD []).map AG.row,pO 33<|.ptr 5 (q 1) 0 6,pO 34<|rS m.Name,pO 35<|.ptr 5 (q 1) 0 7,pO 36<|rS m.Value,pO 37<|.agg [rS m.Name,rS m.Value],⟨some 38,(λ_=>.r<|.sl<|[(AG.mk m.Name m.Value)].map AG.row),some (38,(λ_=>none)),[]⟩,pO 39<|qa r1] BV R (by exact⟨oB [(3,.ptr 1000 (j+2) 0 0)] [(1000,some<|.box (j+2) 150 [.mref 1001 j,.mref 1002<|j+1])]<|AK R<|.inl R,oB [(20,.ptr 1000 (j+2) 0 0)] [(1000,some<|.box (j+2) 150 [.mref 1001 j,.mref 1002<|j+1])]<|LV (ob:=.box _ _ _) R (.inl R) (λ_=>R) R,oB [(21,.ptr 1000 (j+2) 0 0)] [(1000,some<|.box (j+2) 150 [.mref 1001 j,.mref 1002<|j+1])]<|fB R Rj (.inl R) (λ_=>R) R,oB [(22,.ptr 1000 (j+2) 0 1)] [(1000,some<|.box (j+2) 150 [.mref 1001 j,.mref 1002<|j+1])]<|AU (a:=.mref 1002<|j+1) R Qz (.inl R) R R,oB [(5,.ptr 5 (q 1) 0 0)] [(5,some<|.box (q 1) 129<|BX m)]<|fB R FF (.inl R) (λ_=>R) R,oB [(24,.ptr 5 (q 1) 0 3)] [(5,some<|.box (q 1) 129<|BX m)]<|AU (a:=rI m.Item) R AI (.inl R) R R,oB [(3,.ptr 1000 (j+2) 0 0)] [(1000,some<|.box (j+2) 150 [.mref 1001 j,.mref 1002<|j+1])]<|AK R<|.inl R,oB [(26,.ptr 1000 (j+2) 0 0)] [(1000,some<|.box (j+2) 150 [.mref 1001 j,.mref 1002<|j+1])]<|LV (ob:=.box _ _ _) R (.inl R) (λ_=>R) R,oB [(27,.ptr 1000 (j+2) 0 0)] [(1000,some<|.box (j+2) 150 [.mref 1001 j,.mref 1002<|j+1])]<|fB R Rj (.inl R) (λ_=>R) R,oB [(28,.ptr 1000 (j+2) 0 1)] [(1000,some<|.box (j+2) 150 [.mref 1001 j,.mref 1002<|j+1])]<|AU (a:=.mref 1002<|j+1) R Qz (.inl R) R R,oB [(5,.ptr 5 (q 1) 0 0)] [(5,some<|.box (q 1) 129<|BX m)]<|fB R FF (.inl R) (λ_=>R) R,oB [(30,.ptr 5 (q 1) 0 3)] [(5,some<|.box (q 1) 129<|BX m)]<|AU (a:=rI m.Item) R AI (.inl R) R R,oB [(29,.mref 1002<|j+1),(31,rI m.Item)] [(1002,some<|.md (j+1)<|AJ (λ(l:List AG)=>RV.sl<|l.map AG.row) A)]<|I0 (rd:=(λ(l:List AG)=>RV.sl<|l.map AG.row)) false (.slice none 0 0) [] R underlying148 underlying3 (F2 RG) (λ_ _=>.snil) (.inl R) (.inl R) R,oB [(5,.ptr 5 (q 1) 0 0)] [(5,some<|.box (q 1) 129<|BX m)]<|fB R LQ (.inl R) (λ_=>R) R,oB [(33,.ptr 5 (q 1) 0 6)] [(5,some<|.box (q 1) 129<|BX m)]<|AU (a:=rS m.Name) R BE (.inl R) R R,oB [(5,.ptr 5 (q 1) 0 0)] [(5,some<|.box (q 1) 129<|BX m)]<|fB R If (.inl R) (λ_=>R) R,oB [(35,.ptr 5 (q 1) 0 7)] [(5,some<|.box (q 1) 129<|BX m)]<|AU (a:=rS m.Value) R BE (.inl R) R R,oB [(34,rS m.Name),(36,rS m.Value)] []<|Bq R QV (q:=[(0,_),(1,_)]) (by exact⟨R,R,R,(.inl R),R,R,R,(.inl R),Za⟩) (cs:=[rS m.Name,rS m.Value])<|by rfl,XJ R R (by intro d h;cases h;rfl) R (λ_=>[(37,.agg [rS m.Name,rS m.Value])]) (λ_=>[]) (λD X hr=>⟨UL hr 17 R R (by kernel_rfl) R R,Za⟩) (λD X hr=>Za) λX e h' n=>Fr.frz<|BR.toN<|Bo 38 R BA (f:=AG.row) (l:=([(AG.mk m.Name m.Value)]:List AG)) ⟨R,⟨_,(.inl R),R⟩,Za⟩ R (λ_=>R) R,oD (λ_=>[(32,.r<|.sl<|((AR A m.Item).getD []).map AG.row),(38,.r<|.sl<|[(AG.mk m.Name m.Value)].map AG.row)]) (λ_=>[]) λX e h' n=>Cb (r:=qa r1) (caps:=[]) (bs:=[.r<|.sl<|((AR A m.Item).getD []).map AG.row,.r<|.sl<|[(AG.mk m.Name m.Value)].map AG.row]) R (.inl R) R ⟨.inl ⟨(.inl R),R⟩,.inl ⟨(.inl R),R⟩,Za⟩ λ_=>XY<|ac,Za⟩) λX n1=>?_
   refine BU [3,5,10,11,12,13,14,15,16,17,18,19,20,21,22,23,24,25,26,27,28,29,30,31,32,33,34,35,36,37,38,39] [5,1000,1001,1002] ?_
   exact Zj R R (Il (rd:=(λ(l:List AG)=>RV.sl<|l.map AG.row)) (a:=r1) iL underlying148 underlying3 iL iL iL R)<|Zh<|C _ _ wk<|J2 _ _ (AH [(q 0),n1]) (Zg h8).symm
  refine aT λad=>aR<|mM R<|lF GZ AI R R<|lF FF AI R R<|AE h7 λr2 ae h9=>?_
  refine Zw [1000,1001,1002] (hc:=[(1000,some<|.box (j+2) 150 [.mref 1001 j,.mref 1002<|j+1]),(1001,some<|.mb j (q 0) 103<|AJ AB.row T),(1002,some<|.md (j+1)<|AJ (λ(l:List AG)=>RV.sl<|l.map AG.row) A)]) (bs:=[.ptr 1000 (j+2) 0 0,rI m.Parent,rI m.Item]) (caps:=[]) R R R R iL R ⟨.inl ⟨iL,R⟩,.inl ⟨iL,R⟩,.inl ⟨iL,R⟩,Za⟩ ⟨R,R,R,R,R,R,R,R,R,Za⟩ (by decide) (XQ ae) ?_
  intro i7 V
  refine BU [3,5,10,11,12,13,14,15,16,17,18,19,41,42,43,44,45,46] [5,1000,1001,1002] ?_
  refine sQ R (A4 R iL)<|mA R<|aZ<|ad _<|cI R h9 (λF=>?_) λF=>?_
  ·refine aG [3,5,10,11,12] [5,1000,1001,1002] ?_
   refine TG [] [0,1,2,3,4,5,6,7,8,9,10,11,12] [13] 14 BV (by kernel_rfl) R R R R R ?_
   refine Fa.nil<|AF.step R R R (AK R iL)<|AF.step R R R (LV (ob:=.box _ _ _) R iL fR R)<|AF.step R R R (fB R SI iL fR R)<|AF.step R R R (AU (a:=.mref 1001 j) R Qg iL R R)<|AF.step R R R (fB R FF iL fR R)<|AF.step R R R (AU (a:=rI m.Item) R AI iL R R)<|AF.step R R R (fB R FF iL fR R)<|AF.step R R R (AU (a:=rI m.Item) R AI iL R R)<|AF.step R R R (fB R GZ iL fR R)<|AF.step R R R (AU (a:=rI m.Parent) R AI iL R R)<|AF.step R R R (fB R LH iL fR R)<|AF.step R R R (AU (a:=rS m.Place) R BE iL R R) ?_
   refine AF.step R R R (Bq R Og (q:=[(0,_),(1,_),(2,_)]) (by exact⟨R,R,R,iL,R,R,R,iL,R,R,R,iL,Za⟩) (cs:=[rI m.Item,rI m.Parent,rS m.Place,cZ])<|by rfl) ?_
   refine AF.nil<|AA.step R R R (kD (cs:=[rI m.Item,rI m.Parent,rS m.Place,cZ]) 61 R iL R R)<|AA.nil ?_
   refine AL.weak (by exact Ae.cv (e':=[(3,.ptr 1000 (j+2) 0 0),(5,.ptr 5 (q 1) 0 0),(10,qf w),(11,rL w),(12,rI O),(48,.ptr 1000 (j+2) 0 0),(49,.ptr 1000 (j+2) 0 0),(50,.ptr 1000 (j+2) 0 0),(51,.mref 1001 j),(52,.ptr 5 (q 1) 0 3),(53,rI m.Item),(54,.ptr 5 (q 1) 0 3),(55,rI m.Item),(56,.ptr 5 (q 1) 0 4),(57,rI m.Parent),(58,.ptr 5 (q 1) 0 5),(59,rS m.Place),(60,.agg [rI m.Item,rI m.Parent,rS m.Place,cZ]),(61,.ptr 61 V 0 0)]) (h':=[(5,some<|.box (q 1) 129<|BX m),(61,some<|.box V 103 [rI m.Item,rI m.Parent,rS m.Place,.r<|.sl []]),(1000,some<|.box (j+2) 150 [.mref 1001 j,.mref 1002<|j+1]),(1001,some<|.mb j (q 0) 103<|AJ AB.row T),(1002,some<|.md (j+1)<|AJ (λ(l:List AG)=>RV.sl<|l.map AG.row) A)]) ⟨jL,jL,jL,jL,jL,jL,jL,jL,jL,jL,jL,jL,jL,jL,jL,jL,jL,jL,jL,Za⟩ ⟨.inl R,.inr<|.inr ⟨_,_,_,_,R,R,⟨.inl R,.inl R,.inl R,.inr<|.inr ⟨R,R⟩,Za⟩⟩,.inl R,.inl R,.inl R,Za⟩ nL) ?_
   exact Zj R R (YP (a:=(AB.mk m.Item m.Parent m.Place [])) iL underlying147 underlying3 iL iL iL R R)<|Zh<|C _ _ wk<|J2 _ _ (AH [(V+1),(V+2)]) (Zg F).symm
  exact Zc<|C _ _ wk<|J2 _ _ (AH [(q 0),V]) (Zg F).symm
 exact Zm<|a0 _ _ wk<|J1 _ _ (AH [(q 0),(q 1)])<|xH a6 h3
theorem VL{j r}(h:OP j=some r):AZ prog 143 [rS j] (rB r):=by
 unfold OP at h
 exact mF func143 ntmps143 R λl=>aU<|mA R<|aZ<|aU<|mM R<|mM R<|sQ R (EA R iL iL)<|mA R<|aZ<|Zi<|yB h R
theorem iG{O T r}(h:Ma O T=some r):AZ prog 118 [rS O,rS T] (rI r):=by
 unfold Ma at h
 refine mF func118 ntmps118 R λn0=>aU<|mA R<|aZ<|aU<|mM R<|AE h λm j U=>cL (VL<|j) R<|mA R<|aZ<|aU<|mM R<|AE U λq l V=>cL (VL<|l) R<|mA R<|aZ<|aT λX=>aU<|mM R<|aZ<|cI R V (λw=>?_) λw=>?_
 ·refine aT λZ=>aT λc7=>aF [6] ?_
  refine aR<|mM R<|aZ<|c7 _<|cI R w (λA=>?_) λA=>?_
  ·exact zI A R id
  exact Zc<|Z _<|zI A R id
 refine Zc<|X _<|aT λB=>aU<|mM R<|aZ<|cI R w (λC=>?_) λC=>?_
 ·exact zI C R id
 refine Zc<|B _<|aT λE=>aT λF=>aF [0,1] ?_
 refine aR<|mM R<|mM R<|sQ R (Nh R iL iL)<|aZ<|F _<|cI R C (λI=>?_) λI=>?_
 ·exact zI I R id
 refine Zc<|E _<|aT λJ=>aU<|mM R<|mM R<|sQ R (iB R iL iL)<|aZ<|cI R I (λM=>?_) λM=>?_
 ·exact zI M R id
 exact Zc<|J _<|zI M R id
theorem X9{l m r}(h:KI l m=some r):AZ prog 116 [.agg<|CB l,.agg<|CB m] (rI r):=by
 unfold KI at h
 refine mF func116 ntmps116 R λj=>aU<|sS R (Aw (cs:=(CB l)) 2 R iL R R)<|sS R (Aw (cs:=(CB m)) 3 R iL R R)<|mA R<|aZ<|aT λC=>AE h λq w E=>?_
 refine rP 9 [pO 5<|.ptr 2 j 0 2,pO 6<|rS l.Place,pO 7<|.ptr 3 (j+1) 0 2,pO 8<|rS m.Place,pO 9<|rI q,pO 10<|.ptr 2 j 0 0,pO 11<|rI l.Item,pO 12<|.ptr 3 (j+1) 0 0,pO 13<|rI m.Item] BV R (by exact⟨oB [(2,.ptr 2 j 0 0)] [(2,some<|.box j 103<|CB l)]<|fB R Hj (.inl R) (λ_=>R) R,oB [(5,.ptr 2 j 0 2)] [(2,some<|.box j 103<|CB l)]<|AU (a:=rS l.Place) R BE (.inl R) R R,oB [(3,.ptr 3 (j+1) 0 0)] [(3,some<|.box (j+1) 103<|CB m)]<|fB R Hj (.inl R) (λ_=>R) R,oB [(7,.ptr 3 (j+1) 0 2)] [(3,some<|.box (j+1) 103<|CB m)]<|AU (a:=rS m.Place) R BE (.inl R) R R,oD (λ_=>[(6,rS l.Place),(8,rS m.Place)]) (λ_=>[]) λF e O n=>DJ (r:=rI q) (caps:=[]) (bs:=[rS l.Place,rS m.Place]) R (.inl R) R ⟨⟨_,(.inl R),.d R⟩,⟨_,(.inl R),.d R⟩,Za⟩ (λ_=>iG<|w) R,oB [(2,.ptr 2 j 0 0)] [(2,some<|.box j 103<|CB l)]<|fB R EV (.inl R) (λ_=>R) R,oB [(10,.ptr 2 j 0 0)] [(2,some<|.box j 103<|CB l)]<|AU (a:=rI l.Item) R AI (.inl R) R R,oB [(3,.ptr 3 (j+1) 0 0)] [(3,some<|.box (j+1) 103<|CB m)]<|fB R EV (.inl R) (λ_=>R) R,oB [(12,.ptr 3 (j+1) 0 0)] [(3,some<|.box (j+1) 103<|CB m)]<|AU (a:=rI m.Item) R AI (.inl R) R R,Za⟩) λF T=>?_
 refine BU [0,1,2,3,4,5,6,7,8,9,10,11,12,13] [2,3] ?_
 exact AE E λI A J=>cL (LJ<|A) R<|sS R (Bo 15 R BL (f:=(AY .i64)) (l:=([q,I]:List Int)) ⟨R,⟨_,iL,R⟩,R,⟨_,iL,R⟩,Za⟩ R (λ_=>R) R)<|AE J λU B M=>cL (Q5<|B) R<|mA R<|aZ<|C _<|Zi<|yI M R
theorem jv{self:(List<|Int × (List AB))→(List AB)→(List<|Int × Bool)→Int→Option ((List<|Int × (List AB)) × (List AB) × (List<|Int × Bool))}(O:∀ {T:List (Int × (List AB))} {X:List AB} {m2:List (Int × Bool)} {E:Int} {r:(List<|Int × (List AB)) × (List AB) × (List<|Int × Bool)} {A:Nat} {q:Nat} {C:Nat} {j:Nat} {F:Nat} {m:Nat} {B:Nat} {w:Nat},self T X m2 E=some r→Ax prog 114 7 [rI E,.ptr 1000 A 0 0,.ptr 1002 j 0 0,.ptr 1004 m 0 0,.ptr 1006 w 0 0] [(1000,some<|.box A 146 [.mref 1001 q]),(1001,some<|.mr q C 103 4 none<|AJ (λ(l:List AB)=>l.map AB.row) T),(1002,some<|.box j 97 [.own 1003 F]),(1003,some<|.arr F 103 4<|X.map AB.row),(1004,some<|.box m 68 [.mref 1005 B]),(1005,some<|.md B<|AJ RV.bool m2),(1006,some<|.box w 152 [.fn 114 [.ptr 1000 A 0 0,.ptr 1002 j 0 0,.ptr 1004 m 0 0,.ptr 1006 w 0 0]])] (λZ h'=>∃(i:Nat→Nat),Z=.tup []∧h'=[(1000,some<|.box A 146 [.mref 1001 q]),(1001,some<|.mr q C 103 4 none<|AJ (λ(l:List AB)=>l.map AB.row) r.1),(1002,some<|.box j 97 [.own 1003<|i 0]),(1003,some<|.arr (i 0) 103 4<|r.2.1.map AB.row),(1004,some<|.box m 68 [.mref 1005 B]),(1005,some<|.md B<|AJ RV.bool r.2.2),(1006,some<|.box w 152 [.fn 114 [.ptr 1000 A 0 0,.ptr 1002 j 0 0,.ptr 1004 m 0 0,.ptr 1006 w 0 0]])])){T:List (Int × (List AB))}{X:List AB}{m2:List (Int × Bool)}{E:Int}{r:(List<|Int × (List AB)) × (List AB) × (List<|Int × Bool)}{A:Nat}{q:Nat}{C:Nat}{j:Nat}{F:Nat}{m:Nat}{B:Nat}{w:Nat}(h:IJ self T X m2 E=some r):Ax prog 114 7 [rI E,.ptr 1000 A 0 0,.ptr 1002 j 0 0,.ptr 1004 m 0 0,.ptr 1006 w 0 0] [(1000,some<|.box A 146 [.mref 1001 q]),(1001,some<|.mr q C 103 4 none<|AJ (λ(l:List AB)=>l.map AB.row) T),(1002,some<|.box j 97 [.own 1003 F]),(1003,some<|.arr F 103 4<|X.map AB.row),(1004,some<|.box m 68 [.mref 1005 B]),(1005,some<|.md B<|AJ RV.bool m2),(1006,some<|.box w 152 [.fn 114 [.ptr 1000 A 0 0,.ptr 1002 j 0 0,.ptr 1004 m 0 0,.ptr 1006 w 0 0]])] (λZ h'=>∃(i:Nat→Nat),Z=.tup []∧h'=[(1000,some<|.box A 146 [.mref 1001 q]),(1001,some<|.mr q C 103 4 none<|AJ (λ(l:List AB)=>l.map AB.row) r.1),(1002,some<|.box j 97 [.own 1003<|i 0]),(1003,some<|.arr (i 0) 103 4<|r.2.1.map AB.row),(1004,some<|.box m 68 [.mref 1005 B]),(1005,some<|.md B<|AJ RV.bool r.2.2),(1006,some<|.box w 152 [.fn 114 [.ptr 1000 A 0 0,.ptr 1002 j 0 0,.ptr 1004 m 0 0,.ptr 1006 w 0 0]])]):=by
 unfold IJ at h
 refine DV func114 R R ntmps114 (Zq R) λn0=>aT λC1=>aR<|sQ R (AU (a:=.mref 1001 q) R PF iL R R)<|mM R<|sQ R (R9 R underlying146 underlying3 (F2 Of) (.inl R) (.inl R) R)<|AE h λw1 a2 h1=>?_
 refine Zw [1001] (hc:=[(1000,some<|.mr q C 103 4 none<|AJ (λ(l:List AB)=>l.map AB.row) T)]) (bs:=[.fo 1000 q C E,.fn 116 []]) (caps:=[]) R R R R iL R ⟨.inl ⟨iL,R⟩,.inl ⟨iL,R⟩,Za⟩ ⟨R,R,R,Za⟩ (by decide) ((nE (row:=AB.row) Uu (by decide) (λ_=>R) ⟨_,func116,R,R⟩ λ_ _ _ h=>X9 h) a2) ?_
 intro i1 n1
 refine BU [0,1,2,3,4,8,9,10,11] [1000,1001,1002,1003,1004,1005,1006] ?_
 refine aZ<|C1 _<|aU<|sQ R (AU (a:=.mref 1001 q) R PF iL R R)<|mM R<|sQ R (R9 R underlying146 underlying3 (F2 Of) (.inl R) (.inl R) R)<|sQ R (eU R BP.slice iL R)<|mM R<|aZ<|Zf<|BI h1 λo4 a0 ad a6=>nJ (λ(x2:Int) (o2:List AB) (U:List (Int × (List AB))) (V:List (Int × Bool)) J=>⟨[(2,.ptr 1002 j 0 0),(3,.ptr 1004 m 0 0),(4,.ptr 1006 w 0 0),(14,.fo 1001 q C E),(15,rI<|(((AR w1 E).getD []).length:Int)),(16,rI x2)],[(1000,some<|.box A 146 [.mref 1001 q]),(1001,some<|.mr q C 103 4 none<|AJ (λ(l:List AB)=>l.map AB.row) U),(1002,some<|.box j 97 [.own 1003<|J 0]),(1003,some<|.arr (J 0) 103 4<|o2.map AB.row),(1004,some<|.box m 68 [.mref 1005 B]),(1005,some<|.md B<|AJ RV.bool V),(1006,some<|.box w 152 [.fn 114 [.ptr 1000 A 0 0,.ptr 1002 j 0 0,.ptr 1004 m 0 0,.ptr 1006 w 0 0]])],(J 1),32⟩) (AH [F,n1]) a0 wk ?_
 intro x2 o2 U V J v1 a7 a8
 have h2:F1 E self w1 x2 o2 U V=some v1:=a7;unfold F1 at h2
 refine aU<|xS R<|aZ<|aT λC4=>cI R h2 (λh3=>?_) λh3=>?_
 ·refine Zc<|C4 _<|aT λC5=>Zf<|aU<|AE h3 λM a1 h4=>sQ R (Xw (f:=AB.row) R BP.slice iL R iL λ_=>a1)<|sQ R (gi (f:=AB.row) (cs:=(CB M)) R GP iL R (λ_=>a1) R)<|sS R (BB (cs:=Kc) 7 R L9 R R)<|Zj R R (Az (ds:=(CB M)) R KP iL R iL R R R R)<|aZ<|aT λC7=>AE h4 λl1 aa h5=>?_
  refine Li 8 [pO 20<|.mref 1005 B,pO 21<|.ptr 7 (J 1) 0 0,pO 22<|rI M.Item,pO 23<|.own 1003<|J 0,pO 24<|.agg<|CB M,⟨some 25,(λI=>.own 25<|I 5),some (25,(λI=>some<|.arr (I 5) 103 4<|[M].map AB.row)),[5]⟩,⟨some 26,(λI=>.own 1003<|I 6),some (1003,(λI=>some<|.arr (I 6) 103 4<|l1.map AB.row)),[6]⟩,⟨none,(λ_=>.any),some (1002,(λI=>some<|.box j 97 [.own 1003<|I 6])),[6]⟩] BV (by kernel_rfl) (by exact⟨λ_ _ h=>⟨R,λ_ _ e=>by cases e⟩,λ_ _ h=>⟨R,λ_ _ e=>by cases e⟩,λ_ _ h=>⟨R,λ_ _ e=>by cases e⟩,λ_ _ h=>⟨R,λ_ _ e=>by cases e⟩,λ_ _ h=>⟨R,λ_ _ e=>by cases e⟩,λ_ _ h=>⟨by simp only[h 5 R],λ_ _ e=>by cases e;simp only[h 5 R]⟩,λ_ _ h=>⟨by simp only[h 6 R],λ_ _ e=>by cases e;simp only[h 6 R]⟩,λ_ _ h=>⟨R,λ_ _ e=>by cases e;simp only[h 6 R]⟩,Za⟩) R (by exact⟨oB [(3,.ptr 1004 m 0 0)] [(1004,some<|.box m 68 [.mref 1005 B])]<|AU (a:=.mref 1005 B) R G3 (.inl R) R R,oB [(7,.ptr 7 (J 1) 0 0)] [(7,some<|.box (J 1) 103<|CB M)]<|fB R EV (.inl R) (λ_=>R) R,oB [(21,.ptr 7 (J 1) 0 0)] [(7,some<|.box (J 1) 103<|CB M)]<|AU (a:=rI M.Item) R AI (.inl R) R R,oB [(2,.ptr 1002 j 0 0)] [(1002,some<|.box j 97 [.own 1003<|J 0])]<|AU (a:=.own 1003<|J 0) R Qy (.inl R) R R,oB [(7,.ptr 7 (J 1) 0 0)] [(7,some<|.box (J 1) 103<|CB M)]<|DU R GP (.inl R) R R,oM (λ_=>[(24,.agg<|CB M)]) (λ_=>[]) R λI e h' n=>Bo 25 R BP (f:=AB.row) (l:=([M]:List AB)) ⟨R,⟨_,(.inl R),R⟩,Za⟩ R (λ_=>R) R,oM (λI=>[(23,.own 1003<|J 0),(25,.own 25<|I 5)]) (λI=>[(25,some<|.arr (I 5) 103 4<|[M].map AB.row),(1003,some<|.arr (J 0) 103 4<|o2.map AB.row)]) R λI e h' n=>DB R BP (.inl R) R (.inr<|.inl ⟨_,_,(.inl R),R⟩) aa,oM (λI=>[(2,.ptr 1002 j 0 0),(26,.own 1003<|I 6)]) (λI=>[(1002,some<|.box j 97 [.own 1003<|J 0]),(1003,some<|.arr (I 6) 103 4<|l1.map AB.row)]) R λI e h' n=>Az (ds:=[.own 1003<|I 6]) R UC (.inl R) R (.inl R) R R R R,Za⟩) λI n2=>?_
  refine BU [2,3,4,7,14,15,16,17,18,19,20,21,22,24,25,26] [7,25,1000,1001,1002,1003,1004,1005,1006] ?_
  refine Zj R R (Il (rd:=RV.bool) (a:=true) iL underlying68 underlying3 iL iL iL R)<|aZ<|C7 _<|aG [2,3,4,7,14,15,16] [7,1000,1001,1002,1003,1004,1005,1006] ?_
  refine aR<|sQ R (AU (a:=.fn 114 [.ptr 1000 A 0 0,.ptr 1002 j 0 0,.ptr 1004 m 0 0,.ptr 1006 w 0 0]) R Ut iL R R)<|lF EV AI R R<|E9 h5 λw2 w3 w4 ab h6=>?_
  refine Zw [1000,1001,1002,1003,1004,1005,1006] (hc:=[(1000,some<|.box A 146 [.mref 1001 q]),(1001,some<|.mr q C 103 4 none<|AJ (λ(l:List AB)=>l.map AB.row) U),(1002,some<|.box j 97 [.own 1003<|I 6]),(1003,some<|.arr (I 6) 103 4<|l1.map AB.row),(1004,some<|.box m 68 [.mref 1005 B]),(1005,some<|.md B<|AJ RV.bool<|Ai V M.Item true),(1006,some<|.box w 152 [.fn 114 [.ptr 1000 A 0 0,.ptr 1002 j 0 0,.ptr 1004 m 0 0,.ptr 1006 w 0 0]])]) (bs:=[rI M.Item]) (caps:=[.ptr 1000 A 0 0,.ptr 1002 j 0 0,.ptr 1004 m 0 0,.ptr 1006 w 0 0]) R R R R iL R ⟨.inl ⟨iL,R⟩,Za⟩ ⟨R,R,R,R,R,R,R,R,R,R,R,R,R,R,R,R,R,R,R,R,R,Za⟩ (by decide) (O ab) ?_
  intro i6 n3
  refine BU [2,3,4,7,14,15,16,27,28,29,30] [7,1000,1001,1002,1003,1004,1005,1006] ?_
  exact aZ<|C5 _<|aR<|AE h6 λx5 ac h7=>xA R ac<|mM R<|Zh<|Ph.mk h7 (AH [(i6 0),n3]) wk
 refine Zm ?_
 exact ZA (s':=⟨[],[(1000,some<|.box A 146 [.mref 1001 q]),(1001,some<|.mr q C 103 4 none<|AJ (λ(l:List AB)=>l.map AB.row) U),(1002,some<|.box j 97 [.own 1003<|J 0]),(1003,some<|.arr (J 0) 103 4<|o2.map AB.row),(1004,some<|.box m 68 [.mref 1005 B]),(1005,some<|.md B<|AJ RV.bool V),(1006,some<|.box w 152 [.fn 114 [.ptr 1000 A 0 0,.ptr 1002 j 0 0,.ptr 1004 m 0 0,.ptr 1006 w 0 0]])],(J 1),32⟩) wk<|Bf (λ(r:(List<|Int × (List AB)) × (List AB) × (List<|Int × Bool)) Z h'=>∃(i:Nat→Nat),Z=.tup []∧h'=[(1000,some<|.box A 146 [.mref 1001 q]),(1001,some<|.mr q C 103 4 none<|AJ (λ(l:List AB)=>l.map AB.row) r.1),(1002,some<|.box j 97 [.own 1003<|i 0]),(1003,some<|.arr (i 0) 103 4<|r.2.1.map AB.row),(1004,some<|.box m 68 [.mref 1005 B]),(1005,some<|.md B<|AJ RV.bool r.2.2),(1006,some<|.box w 152 [.fn 114 [.ptr 1000 A 0 0,.ptr 1002 j 0 0,.ptr 1004 m 0 0,.ptr 1006 w 0 0]])]) (a6 _<|xH a8 h3)<|by exact⟨.tup [],[(1000,some<|.box A 146 [.mref 1001 q]),(1001,some<|.mr q C 103 4 none<|AJ (λ(l:List AB)=>l.map AB.row) U),(1002,some<|.box j 97 [.own 1003<|J 0]),(1003,some<|.arr (J 0) 103 4<|o2.map AB.row),(1004,some<|.box m 68 [.mref 1005 B]),(1005,some<|.md B<|AJ RV.bool V),(1006,some<|.box w 152 [.fn 114 [.ptr 1000 A 0 0,.ptr 1002 j 0 0,.ptr 1004 m 0 0,.ptr 1006 w 0 0]])],⟨_,R,Za⟩,⟨.inr R,.inr R,.inr R,.inr R,.inr R,.inr R,.inr R,Za⟩,R,R,AH [(J 0)],R,R⟩
theorem XO(n:Nat):∀ {I:List (Int × (List AB))} {J:List AB} {m2:List (Int × Bool)} {j:Int} {r:(List<|Int × (List AB)) × (List AB) × (List<|Int × Bool)} {m:Nat} {B:Nat} {E:Nat} {q:Nat} {F:Nat} {w:Nat} {C:Nat} {A:Nat},Dj n I J m2 j=some r→Ax prog 114 7 [rI j,.ptr 1000 m 0 0,.ptr 1002 q 0 0,.ptr 1004 w 0 0,.ptr 1006 A 0 0] [(1000,some<|.box m 146 [.mref 1001 B]),(1001,some<|.mr B E 103 4 none<|AJ (λ(l:List AB)=>l.map AB.row) I),(1002,some<|.box q 97 [.own 1003 F]),(1003,some<|.arr F 103 4<|J.map AB.row),(1004,some<|.box w 68 [.mref 1005 C]),(1005,some<|.md C<|AJ RV.bool m2),(1006,some<|.box A 152 [.fn 114 [.ptr 1000 m 0 0,.ptr 1002 q 0 0,.ptr 1004 w 0 0,.ptr 1006 A 0 0]])] (λM h'=>∃(i:Nat→Nat),M=.tup []∧h'=[(1000,some<|.box m 146 [.mref 1001 B]),(1001,some<|.mr B E 103 4 none<|AJ (λ(l:List AB)=>l.map AB.row) r.1),(1002,some<|.box q 97 [.own 1003<|i 0]),(1003,some<|.arr (i 0) 103 4<|r.2.1.map AB.row),(1004,some<|.box w 68 [.mref 1005 C]),(1005,some<|.md C<|AJ RV.bool r.2.2),(1006,some<|.box A 152 [.fn 114 [.ptr 1000 m 0 0,.ptr 1002 q 0 0,.ptr 1004 w 0 0,.ptr 1006 A 0 0]])]):=by
 induction n with
 | zero=>intro I J m2 j r m B E q F w C A h;exact absurd (show(none:Option ((List<|Int × (List AB)) × (List AB) × (List<|Int × Bool)))=some r from h)<|by simp
 | succ n O=>intro I J m2 j r m B E q F w C A h;exact jv (self:=λI J m2 j=>Dj n I J m2 j) (λT=>O T) h
theorem ZM{I:List (Int × (List AB))}{J:List AB}{m2:List (Int × Bool)}{C:Int}{r:(List<|Int × (List AB)) × (List AB) × (List<|Int × Bool)}{j:Nat}{A:Nat}{E:Nat}{m:Nat}{F:Nat}{q:Nat}{B:Nat}{w:Nat}(h:Mh I J m2 C=some r):Ax prog 114 7 [rI C,.ptr 1000 j 0 0,.ptr 1002 m 0 0,.ptr 1004 q 0 0,.ptr 1006 w 0 0] [(1000,some<|.box j 146 [.mref 1001 A]),(1001,some<|.mr A E 103 4 none<|AJ (λ(l:List AB)=>l.map AB.row) I),(1002,some<|.box m 97 [.own 1003 F]),(1003,some<|.arr F 103 4<|J.map AB.row),(1004,some<|.box q 68 [.mref 1005 B]),(1005,some<|.md B<|AJ RV.bool m2),(1006,some<|.box w 152 [.fn 114 [.ptr 1000 j 0 0,.ptr 1002 m 0 0,.ptr 1004 q 0 0,.ptr 1006 w 0 0]])] (λO h'=>∃(i:Nat→Nat),O=.tup []∧h'=[(1000,some<|.box j 146 [.mref 1001 A]),(1001,some<|.mr A E 103 4 none<|AJ (λ(l:List AB)=>l.map AB.row) r.1),(1002,some<|.box m 97 [.own 1003<|i 0]),(1003,some<|.arr (i 0) 103 4<|r.2.1.map AB.row),(1004,some<|.box q 68 [.mref 1005 B]),(1005,some<|.md B<|AJ RV.bool r.2.2),(1006,some<|.box w 152 [.fn 114 [.ptr 1000 j 0 0,.ptr 1002 m 0 0,.ptr 1004 q 0 0,.ptr 1006 w 0 0]])]):=by
 unfold Mh at h
 by_cases M:∃n r,Dj n I J m2 C=some r
 ·rw[qD M] at h;exact XO _ h
 ·rw[qw M] at h;cases h
theorem aH{j l r}(h:NK j l=some r):AZ prog 120 [.agg<|CB j,.agg<|CB l] (rI r):=by
 unfold NK at h
 exact mF func120 ntmps120 R λw=>aU<|sS R (Aw (cs:=(CB j)) 2 R iL R R)<|sS R (Aw (cs:=(CB l)) 3 R iL R R)<|mA R<|aZ<|aU<|lF EV AI R R<|lF EV AI R R<|AE h λA m q=>cL (LJ<|m) R<|mA R<|aZ<|Zi<|yI q R
theorem bN{l1 r}(h:L2 l1=some r):AZ prog 81 [qf l1] (qg r):=by
 unfold L2 at h
 refine mF func81 ntmps81 R λn0=>aU<|mA R<|aZ<|aT λc2=>aR<|mM R<|Ee h λw1 B af h1=>?_
 refine Zw [14,8225,8226] (hc:=[]) (bs:=[qf l1]) (caps:=[]) R R R R iL R ⟨.inl ⟨iL,R⟩,Za⟩ Za (by decide) (dU af) ?_
 intro m A
 refine BU [0,2,13,14] [14,8225,8226] ?_
 refine mA R<|aZ<|c2 _<|aT λc3=>aR ?_
 refine sS R (fT AB.row 15 103 4 R<|by decide) ?_
 refine sS R (BB (cs:=[.cst<|.map none]) 4 R fM R R)<|Zj R R (Az (ds:=[.mref 15 A]) R hU iL R iL R R R R)<|aZ<|c3 _<|aU<|mA R<|aZ<|aT λc5=>aU<|mM R<|sQ R (LV (ob:=.box _ _ _) R iL fR R)<|lF SI Qg R R<|sS R (kS (ob:=.mb (m 1) (m 2) 103<|AJ AB.row w1) 20 R underlying147 iL R (Qw _ _ _ _ _) R)<|aZ ?_
 refine AW.weak (s':=⟨[(3,.ptr 14 (m 0) 0 0),(4,.ptr 4 (A+1) 0 0),(5,.own 5005<|A+3),(20,.ptr 20 (A+2) 0 0)],[(4,some<|.box (A+1) 146 [.mref 15 A]),(14,some<|.box (m 0) 150 [.mref 8225<|m 1,.mref 8226<|m 3]),(15,some<|.mr A A 103 4 none<|AJ (λ(l:List AB)=>l.map AB.row) ([]:List (Int × (List AB)))),(20,some (.mj (A+2) 8225 (m 1) ((w1.map (·.1)).length) [])),(5005,some<|.arr (A+3) 103 4<|([]:List AB).map AB.row),(8225,some<|.mb (m 1) (m 2) 103<|AJ AB.row w1),(8226,some<|.md (m 3)<|AJ (λ(l:List AG)=>RV.sl<|l.map AG.row) B)],(A+4),80⟩) (Zx (Zx (F9 5 5005 103 4 (by decide) R) (by exact Ae.cv (e':=[(0,qf l1),(2,cZ),(3,.ptr 14 (m 0) 0 0),(4,.ptr 4 (A+1) 0 0),(5,.own 5005<|A+3),(13,qf l1),(14,.ptr 14 (m 0) 0 0),(15,.mref 15 A),(16,.ptr 14 (m 0) 0 0),(17,.ptr 14 (m 0) 0 0),(18,.ptr 14 (m 0) 0 0),(19,.mref 8225<|m 1),(20,.ptr 20 (A+2) 0 0)]) (h':=[(4,some<|.box (A+1) 146 [.mref 15 A]),(14,some<|.box (m 0) 150 [.mref 8225<|m 1,.mref 8226<|m 3]),(15,some<|.mr A A 103 4 none<|AJ (λ(l:List AB)=>l.map AB.row) ([]:List (Int × (List AB)))),(20,some (.mj (A+2) 8225 (m 1) ((w1.map (·.1)).length) [])),(5005,some<|.arr (A+3) 103 4<|([]:List AB).map AB.row),(8225,some<|.mb (m 1) (m 2) 103<|AJ AB.row w1),(8226,some<|.md (m 3)<|AJ (λ(l:List AG)=>RV.sl<|l.map AG.row) B)]) ⟨jL,jL,jL,jL,jL,jL,jL,jL,jL,jL,jL,jL,jL,Za⟩ ⟨.inl R,.inl R,.inl R,.inl R,.inl R,.inl R,.inl R,Za⟩ nL)) wk) ?_
 refine nQ (mid:=8225) (mg:=(m 1)) (key:=λ(a:(List AB) × (List<|Int × AB) × (List<|Int × (List AB)))=>a.2.1.map (·.1)) (F:=λ(a:(List AB) × (List<|Int × AB) × (List<|Int × (List AB))) (q:Int)=>Gu B a.1 a.2.1 a.2.2 q) (st0:=([],w1,[])) 20 (λ(a:(List AB) × (List<|Int × AB) × (List<|Int × (List AB))) w=>[(3,.ptr 14 (m 0) 0 0),(4,.ptr 4 (A+1) 0 0),(5,.own 5005<|w 0),(20,.ptr 20 (A+2) 0 0)]) (λ(a:(List AB) × (List<|Int × AB) × (List<|Int × (List AB))) w=>[(4,some<|.box (A+1) 146 [.mref 15 A]),(14,some<|.box (m 0) 150 [.mref 8225<|m 1,.mref 8226<|m 3]),(15,some<|.mr A (w 1) 103 4 none<|AJ (λ(l:List AB)=>l.map AB.row) a.2.2),(5005,some<|.arr (w 0) 103 4<|a.1.map AB.row),(8225,some<|.mb (m 1) (m 2) 103<|AJ AB.row a.2.1),(8226,some<|.md (m 3)<|AJ (λ(l:List AG)=>RV.sl<|l.map AG.row) B)]) (λw=>w 2) h1 ⟨(AH [(A+3),A,(A+4)]),wk⟩ R R R R R R R R (λ_ _=>.inl R) (λ_ _=>R) (λ_ _=>R) (λ_ _=>⟨_,R,R,Qw _ _ _ _ _⟩) R (λ_ _=>R) ?_ ?_
 ·intro a0 q j1 ag ah w ai aj a7 ak
  obtain⟨J,C,X⟩:=a0
  have h2:Gu B J C X q=some ah:=ai;unfold Gu at h2
  refine aG [3,4,5,20] [4,14,15,20,5005,8225,8226] ?_
  refine Zf<|aU<|sQ R (gf R (.inl R) R R ak aj a7)<|xX R<|xX R<|mA R<|mA R<|aZ<|aU<|mM R<|mM R<|sQ R (LV (ob:=.box _ _ _) R iL fR R)<|lF Rj Qz R R<|mM R<|sQ R (I0 (rd:=(λ(l:List AG)=>RV.sl<|l.map AG.row)) false (.slice none 0 0) [] R underlying148 underlying3 (F2 RG) (λ_ _=>.snil) (.inl R) (.inl R) R)<|AE h2 λj E h3=>sQ R (KY R iL R R λ_=>E)<|sQ R (QA R JO iL R R λ_=>E)<|Zj R R (mC (a:=j) (a':=(AB.mk j.Item j.Parent j.Place<|(AR B q).getD [])) R Jq iL R R E iL R R)<|aZ<|aT λc9=>aG [3,4,5,7,20] [4,14,15,20,5005,8225,8226] ?_
  refine AE h3 λl2 al h4=>?_
  refine Li 16 [pO 35<|.mref 15 A,pO 36<|.pk 8225 (m 1) (m 2) (As C q) 0,pO 37<|.pk 8225 (m 1) (m 2) (As C q) 0,pO 38<|.pk 8225 (m 1) (m 2) (As C q) 1,pO 39<|rI<|((AB.mk j.Item j.Parent j.Place<|(AR B q).getD []).Parent),pO 40<|.mref 15 A,pO 41<|.pk 8225 (m 1) (m 2) (As C q) 0,pO 42<|.pk 8225 (m 1) (m 2) (As C q) 0,pO 43<|.pk 8225 (m 1) (m 2) (As C q) 1,pO 44<|rI<|((AB.mk j.Item j.Parent j.Place<|(AR B q).getD []).Parent),pO 45<|.fo 15 A (w 1)<|(AB.mk j.Item j.Parent j.Place<|(AR B q).getD []).Parent,pO 46<|.pk 8225 (m 1) (m 2) (As C q) 0,pO 47<|.pk 8225 (m 1) (m 2) (As C q) 0,pO 48<|.agg [rI<|((AB.mk j.Item j.Parent j.Place<|(AR B q).getD []).Item),rI<|((AB.mk j.Item j.Parent j.Place<|(AR B q).getD []).Parent),.r<|.str<|(AB.mk j.Item j.Parent j.Place<|(AR B q).getD []).Place,.r<|.sl<|((AB.mk j.Item j.Parent j.Place<|(AR B q).getD []).Attrs).map AG.row],⟨some 49,(λI=>.own 49<|I 14),some (49,(λI=>some<|.arr (I 14) 103 4<|[(AB.mk j.Item j.Parent j.Place<|(AR B q).getD [])].map AB.row)),[14]⟩,⟨some 50,(λI=>.fo 15 A (I 15)<|(AB.mk j.Item j.Parent j.Place<|(AR B q).getD []).Parent),some (15,(λI=>some<|.mr A (I 15) 103 4 (some (As X<|(AB.mk j.Item j.Parent j.Place<|(AR B q).getD []).Parent,(AR X<|(AB.mk j.Item j.Parent j.Place<|(AR B q).getD []).Parent).isNone))<|AJ (λ(l:List AB)=>l.map AB.row)<|Ai X ((AB.mk j.Item j.Parent j.Place<|(AR B q).getD []).Parent) l2)),[15]⟩] BV (by kernel_rfl) (by exact⟨λ_ _ h=>⟨R,λ_ _ e=>by cases e⟩,λ_ _ h=>⟨R,λ_ _ e=>by cases e⟩,λ_ _ h=>⟨R,λ_ _ e=>by cases e⟩,λ_ _ h=>⟨R,λ_ _ e=>by cases e⟩,λ_ _ h=>⟨R,λ_ _ e=>by cases e⟩,λ_ _ h=>⟨R,λ_ _ e=>by cases e⟩,λ_ _ h=>⟨R,λ_ _ e=>by cases e⟩,λ_ _ h=>⟨R,λ_ _ e=>by cases e⟩,λ_ _ h=>⟨R,λ_ _ e=>by cases e⟩,λ_ _ h=>⟨R,λ_ _ e=>by cases e⟩,λ_ _ h=>⟨R,λ_ _ e=>by cases e⟩,λ_ _ h=>⟨R,λ_ _ e=>by cases e⟩,λ_ _ h=>⟨R,λ_ _ e=>by cases e⟩,λ_ _ h=>⟨R,λ_ _ e=>by cases e⟩,λ_ _ h=>⟨by simp only[h 14 R],λ_ _ e=>by cases e;simp only[h 14 R]⟩,λ_ _ h=>⟨by simp only[h 15 R],λ_ _ e=>by cases e;simp only[h 15 R]⟩,Za⟩) R (by exact⟨oB [(4,.ptr 4 (A+1) 0 0)] [(4,some<|.box (A+1) 146 [.mref 15 A])]<|AU (a:=.mref 15 A) R PF (.inl R) R R,oB [(7,.pk 8225 (m 1) (m 2) (As C q) 0)] [(8225,some<|.mb (m 1) (m 2) 103<|AJ AB.row<|Ai C q<|AB.mk j.Item j.Parent j.Place<|(AR B q).getD [])]<|AK R<|.inl R,oB [(36,.pk 8225 (m 1) (m 2) (As C q) 0)] [(8225,some<|.mb (m 1) (m 2) 103<|AJ AB.row<|Ai C q<|AB.mk j.Item j.Parent j.Place<|(AR B q).getD [])]<|KY R (.inl R) R (by rw[HG E]) λ_=>GW _ _ _,oB [(37,.pk 8225 (m 1) (m 2) (As C q) 0)] [(8225,some<|.mb (m 1) (m 2) 103<|AJ AB.row<|Ai C q<|AB.mk j.Item j.Parent j.Place<|(AR B q).getD [])]<|QA R LW (.inl R) R (by rw[HG E]) λ_=>GW _ _ _,oB [(38,.pk 8225 (m 1) (m 2) (As C q) 1)] [(8225,some<|.mb (m 1) (m 2) 103<|AJ AB.row<|Ai C q<|AB.mk j.Item j.Parent j.Place<|(AR B q).getD [])]<|S5 (a:=(AB.mk j.Item j.Parent j.Place<|(AR B q).getD [])) (d:=.int .i64<|(AB.mk j.Item j.Parent j.Place<|(AR B q).getD []).Parent) R AI (.inl R) R (by rw[HG E]) (λ_=>GW _ _ _) R,oB [(4,.ptr 4 (A+1) 0 0)] [(4,some<|.box (A+1) 146 [.mref 15 A])]<|AU (a:=.mref 15 A) R PF (.inl R) R R,oB [(7,.pk 8225 (m 1) (m 2) (As C q) 0)] [(8225,some<|.mb (m 1) (m 2) 103<|AJ AB.row<|Ai C q<|AB.mk j.Item j.Parent j.Place<|(AR B q).getD [])]<|AK R<|.inl R,oB [(41,.pk 8225 (m 1) (m 2) (As C q) 0)] [(8225,some<|.mb (m 1) (m 2) 103<|AJ AB.row<|Ai C q<|AB.mk j.Item j.Parent j.Place<|(AR B q).getD [])]<|KY R (.inl R) R (by rw[HG E]) λ_=>GW _ _ _,oB [(42,.pk 8225 (m 1) (m 2) (As C q) 0)] [(8225,some<|.mb (m 1) (m 2) 103<|AJ AB.row<|Ai C q<|AB.mk j.Item j.Parent j.Place<|(AR B q).getD [])]<|QA R LW (.inl R) R (by rw[HG E]) λ_=>GW _ _ _,oB [(43,.pk 8225 (m 1) (m 2) (As C q) 1)] [(8225,some<|.mb (m 1) (m 2) 103<|AJ AB.row<|Ai C q<|AB.mk j.Item j.Parent j.Place<|(AR B q).getD [])]<|S5 (a:=(AB.mk j.Item j.Parent j.Place<|(AR B q).getD [])) (d:=.int .i64<|(AB.mk j.Item j.Parent j.Place<|(AR B q).getD []).Parent) R AI (.inl R) R (by rw[HG E]) (λ_=>GW _ _ _) R,oB [(40,.mref 15 A),(44,rI<|((AB.mk j.Item j.Parent j.Place<|(AR B q).getD []).Parent))] [(15,some<|.mr A (w 1) 103 4 none<|AJ (λ(l:List AB)=>l.map AB.row) X)]<|R9 R underlying146 underlying3 (F2 Of) (.inl R) (.inl R) R,oB [(7,.pk 8225 (m 1) (m 2) (As C q) 0)] [(8225,some<|.mb (m 1) (m 2) 103<|AJ AB.row<|Ai C q<|AB.mk j.Item j.Parent j.Place<|(AR B q).getD [])]<|AK R<|.inl R,oB [(46,.pk 8225 (m 1) (m 2) (As C q) 0)] [(8225,some<|.mb (m 1) (m 2) 103<|AJ AB.row<|Ai C q<|AB.mk j.Item j.Parent j.Place<|(AR B q).getD [])]<|KY R (.inl R) R (by rw[HG E]) λ_=>GW _ _ _,oB [(47,.pk 8225 (m 1) (m 2) (As C q) 0)] [(8225,some<|.mb (m 1) (m 2) 103<|AJ AB.row<|Ai C q<|AB.mk j.Item j.Parent j.Place<|(AR B q).getD [])]<|Wt (a:=(AB.mk j.Item j.Parent j.Place<|(AR B q).getD [])) (cs:=[rI<|((AB.mk j.Item j.Parent j.Place<|(AR B q).getD []).Item),rI<|((AB.mk j.Item j.Parent j.Place<|(AR B q).getD []).Parent),.r<|.str<|(AB.mk j.Item j.Parent j.Place<|(AR B q).getD []).Place,.r<|.sl<|((AB.mk j.Item j.Parent j.Place<|(AR B q).getD []).Attrs).map AG.row]) R GP (.inl R) R (by rw[HG E]) (λ_=>GW _ _ _) R R,oM (λ_=>[(48,.agg [rI<|((AB.mk j.Item j.Parent j.Place<|(AR B q).getD []).Item),rI<|((AB.mk j.Item j.Parent j.Place<|(AR B q).getD []).Parent),.r<|.str<|(AB.mk j.Item j.Parent j.Place<|(AR B q).getD []).Place,.r<|.sl<|((AB.mk j.Item j.Parent j.Place<|(AR B q).getD []).Attrs).map AG.row])]) (λ_=>[]) R λI e h' n=>Bo 49 R BP (f:=AB.row) (l:=([(AB.mk j.Item j.Parent j.Place<|(AR B q).getD [])]:List AB)) ⟨R,⟨_,(.inl R),R⟩,Za⟩ R (λ_=>R) R,oM (λI=>[(45,.fo 15 A (w 1)<|(AB.mk j.Item j.Parent j.Place<|(AR B q).getD []).Parent),(49,.own 49<|I 14)]) (λI=>[(15,some<|.mr A (w 1) 103 4 none<|AJ (λ(l:List AB)=>l.map AB.row) X),(49,some<|.arr (I 14) 103 4<|[(AB.mk j.Item j.Parent j.Place<|(AR B q).getD [])].map AB.row)]) R λI e h' n=>lZ (ys:=[(AB.mk j.Item j.Parent j.Place<|(AR B q).getD [])]) R BP (.inl R) R (.inr<|.inl ⟨_,_,_,(.inl R),R⟩) R al,Za⟩) λI n2=>?_
  refine BU [3,4,5,7,20,35,36,37,38,39,40,41,42,43,44,46,47,48,49,50] [4,14,15,20,49,5005,8225,8226] ?_
  refine Zj R R (fv iL underlying146 underlying3 iL iL iL R)<|aZ<|c9 _<|aG [3,4,5,7,20] [4,14,15,20,5005,8225,8226] ?_
  refine aR<|mM R<|mM R ?_
  refine sQ R (KY R iL R (by rw[HG E]) λ_=>GW _ _ _) ?_
  refine sQ R (Wt (a:=(AB.mk j.Item j.Parent j.Place<|(AR B q).getD [])) (cs:=[rI<|((AB.mk j.Item j.Parent j.Place<|(AR B q).getD []).Item),rI<|((AB.mk j.Item j.Parent j.Place<|(AR B q).getD []).Parent),.r<|.str<|(AB.mk j.Item j.Parent j.Place<|(AR B q).getD []).Place,.r<|.sl<|((AB.mk j.Item j.Parent j.Place<|(AR B q).getD []).Attrs).map AG.row]) R GP iL R (by rw[HG E]) (λ_=>GW _ _ _) R R) ?_
  refine sS R (Bo 55 R BP (f:=AB.row) (l:=([(AB.mk j.Item j.Parent j.Place<|(AR B q).getD [])]:List AB)) ⟨R,⟨_,iL,R⟩,Za⟩ R (λ_=>R) R)<|AE h4 λa8 a1 h5=>sS R (DB R BP iL R (.inr<|.inl ⟨_,_,iL,R⟩) a1)<|mA R<|Zh ?_
  show Exit.normal=Exit.normal∧∃i':Nat→Nat,Ae _ _
  have aa:=Zg h5;subst aa
  exact⟨R,(AH [(n2+1),(I 15),(n2+2)]),(Zx (show Ae _ ⟨[(3,.ptr 14 (m 0) 0 0),(4,.ptr 4 (A+1) 0 0),(5,.own 5005<|n2+1),(20,.ptr 20 (A+2) 0 0)],[(4,some<|.box (A+1) 146 [.mref 15 A]),(14,some<|.box (m 0) 150 [.mref 8225<|m 1,.mref 8226<|m 3]),(15,some<|.mr A (I 15) 103 4 none<|AJ (λ(l:List AB)=>l.map AB.row)<|Ai X ((AB.mk j.Item j.Parent j.Place<|(AR B q).getD []).Parent) l2),(20,some (.mj (A+2) 8225 (m 1) ((w1.map (·.1)).length)<|ag++[j1])),(5005,some<|.arr (n2+1) 103 4<|a8.map AB.row),(8225,some<|.mb (m 1) (m 2) 103<|AJ AB.row<|Ai C q<|AB.mk j.Item j.Parent j.Place<|(AR B q).getD []),(8226,some<|.md (m 3)<|AJ (λ(l:List AG)=>RV.sl<|l.map AG.row) B)],(n2+2),80⟩ from wk) wk)⟩
 intro a0 w an
 obtain⟨J,C,X⟩:=a0
 have h6:=ly an
 refine c5 _<|aU<|sS R (BB (cs:=[cZ]) 8 R Of R R)<|aZ<|aU<|sS R (Jn RV.bool 57 R)<|sS R (BB (cs:=[.cst<|.map none]) 9 R MJ R R)<|Zj R R (Az (ds:=[.mref 57<|(w 2)+1]) R My iL R iL R R R R)<|aZ<|aU<|sS R (BB (cs:=[.cst<|.nilFunc]) 10 R ZR R R)<|aZ<|aT λao=>aR ?_
 refine sQ R (HD (bs:=[.ptr 4 (A+1) 0 0,.ptr 8 (w 2) 0 0,.ptr 9 ((w 2)+2) 0 0,.ptr 10 ((w 2)+3) 0 0]) R<|by exact⟨iL,iL,iL,iL,Za⟩) ?_
 refine Zj R R (Az (ds:=[.fn 114 [.ptr 4 (A+1) 0 0,.ptr 8 (w 2) 0 0,.ptr 9 ((w 2)+2) 0 0,.ptr 10 ((w 2)+3) 0 0]]) R cP iL R iL R R R R)<|aZ<|ao _<|aT λaq=>aR<|sQ R (AU (a:=.fn 114 [.ptr 4 (A+1) 0 0,.ptr 8 (w 2) 0 0,.ptr 9 ((w 2)+2) 0 0,.ptr 10 ((w 2)+3) 0 0]) R Ut iL R R) ?_
 refine AL.weak (Zx (TF 8 0 3080 103 4 (by decide) R R<|by decide)<|by exact Ae.cv (e':=[(3,.ptr 14 (m 0) 0 0),(4,.ptr 4 (A+1) 0 0),(5,.own 5005<|w 0),(8,.ptr 8 (w 2) 0 0),(9,.ptr 9 ((w 2)+2) 0 0),(10,.ptr 10 ((w 2)+3) 0 0),(57,.mref 57<|(w 2)+1),(58,.fn 114 [.ptr 4 (A+1) 0 0,.ptr 8 (w 2) 0 0,.ptr 9 ((w 2)+2) 0 0,.ptr 10 ((w 2)+3) 0 0]),(59,.fn 114 [.ptr 4 (A+1) 0 0,.ptr 8 (w 2) 0 0,.ptr 9 ((w 2)+2) 0 0,.ptr 10 ((w 2)+3) 0 0])]) (h':=[(4,some<|.box (A+1) 146 [.mref 15 A]),(8,some<|.box (w 2) 97 [.own 3080<|(w 2)+4]),(9,some<|.box ((w 2)+2) 68 [.mref 57<|(w 2)+1]),(10,some<|.box ((w 2)+3) 152 [.fn 114 [.ptr 4 (A+1) 0 0,.ptr 8 (w 2) 0 0,.ptr 9 ((w 2)+2) 0 0,.ptr 10 ((w 2)+3) 0 0]]),(14,some<|.box (m 0) 150 [.mref 8225<|m 1,.mref 8226<|m 3]),(15,some<|.mr A (w 1) 103 4 none<|AJ (λ(l:List AB)=>l.map AB.row) X),(57,some<|.md ((w 2)+1)<|AJ RV.bool ([]:List (Int × Bool))),(3080,some<|.arr ((w 2)+4) 103 4<|([]:List AB).map AB.row),(5005,some<|.arr (w 0) 103 4<|J.map AB.row),(8225,some<|.mb (m 1) (m 2) 103<|AJ AB.row C),(8226,some<|.md (m 3)<|AJ (λ(l:List AG)=>RV.sl<|l.map AG.row) B)]) ⟨jL,jL,jL,jL,jL,jL,jL,jL,jL,Za⟩ ⟨.inl R,.inl R,.inl R,.inl R,.inl R,.inl R,.inl R,.inl R,.inl R,.inl R,.inl R,Za⟩ nL) ?_
 refine E9 h6 λw3 w4 w5 ar h7=>?_
 refine Zw [4,15,8,3080,9,57,10] (hc:=[(1000,some<|.box (A+1) 146 [.mref 1001 A]),(1001,some<|.mr A (w 1) 103 4 none<|AJ (λ(l:List AB)=>l.map AB.row) X),(1002,some<|.box (w 2) 97 [.own 1003<|(w 2)+4]),(1003,some<|.arr ((w 2)+4) 103 4<|([]:List AB).map AB.row),(1004,some<|.box ((w 2)+2) 68 [.mref 1005<|(w 2)+1]),(1005,some<|.md ((w 2)+1)<|AJ RV.bool ([]:List (Int × Bool))),(1006,some<|.box ((w 2)+3) 152 [.fn 114 [.ptr 1000 (A+1) 0 0,.ptr 1002 (w 2) 0 0,.ptr 1004 ((w 2)+2) 0 0,.ptr 1006 ((w 2)+3) 0 0]])]) (bs:=[rI 0]) (caps:=[.ptr 1000 (A+1) 0 0,.ptr 1002 (w 2) 0 0,.ptr 1004 ((w 2)+2) 0 0,.ptr 1006 ((w 2)+3) 0 0]) R R R R iL R ⟨.inl ⟨iL,R⟩,Za⟩ ⟨R,R,R,R,R,R,R,R,R,R,R,R,R,R,R,R,R,R,R,R,R,Za⟩ (by decide) (ZM ar) ?_
 intro i6 n3
 refine BU [3,4,5,8,9,10,57,58,59,60] [4,8,9,10,14,15,57,3080,5005,8225,8226] ?_
 refine aZ<|aq _<|aT λau=>aR<|mM R<|AE h7 λw6 av h8=>?_
 refine Zw [5005] (hc:=[(1000,some<|.arr (w 0) 103 4<|J.map AB.row)]) (bs:=[.own 1000<|w 0,.fn 120 []]) (caps:=[]) R R R R iL R ⟨.inl ⟨iL,R⟩,.inl ⟨iL,R⟩,Za⟩ ⟨R,R,R,Za⟩ (by decide) ((nD (row:=AB.row) Uu (by decide) (λ_=>R) ⟨_,func120,R,R⟩ λ_ _ _ h=>aH h) av) ?_
 intro i7 n4
 refine BU [3,4,5,8,9,10,57,58,59,60,61,62] [4,8,9,10,14,15,57,3080,5005,8225,8226] ?_
 refine aZ<|au _<|aS λaw ax ab=>aT λay=>aG [5,8,9] [8,9,57,3080,5005] ?_
 refine aR<|mM R<|sQ R (Jv R BP.slice iL R)<|mM R<|aZ<|ay _<|Zf<|Ba h8 λo1 ac az=>?_
 have J1:∀(O:List AB) (T:NN),o1=O→aw ⟨[(8,.ptr 8 (w 2) 0 0)],[(8,some<|.box (w 2) 97 [.own 3080<|T 0]),(3080,some<|.arr (T 0) 103 4<|O.map AB.row)],(T 1),80⟩:=by
  intro O T e
  have h9:=az _ e
  exact ax _<|aU<|sQ R (AU (a:=.own 3080<|T 0) R Qy iL R R)<|mA R<|aZ<|Zi<|CG (P:=prog) (λ(r:(List AB))=>qg r) h9 iL<|.t<|.one<|.own R
 refine Ch (λ(x3:Int) (U:List AB) F=>⟨[(8,.ptr 8 (w 2) 0 0),(9,.ptr 9 ((w 2)+2) 0 0),(63,.own 5005<|w 0),(64,rL w6),(65,rI x3)],[(8,some<|.box (w 2) 97 [.own 3080<|F 0]),(9,some<|.box ((w 2)+2) 68 [.mref 57<|(w 2)+1]),(57,some<|.md ((w 2)+1)<|AJ RV.bool w5),(3080,some<|.arr (F 0) 103 4<|U.map AB.row),(5005,some<|.arr (w 0) 103 4<|w6.map AB.row)],(F 1),80⟩) (AH [(i6 0),n4]) ac wk ?_
 intro x3 U F v1 b0 b1
 have ad:HT w5 w6 x3 U=some v1:=b0;unfold HT at ad
 refine aU<|xS R<|aZ<|aT λb2=>cI R ad (λa2=>?_) λa2=>?_
 ·refine Zc<|b2 _<|aS λb3 b4 Z=>Zf<|Ba a2 λp1 b5 b6=>?_
  have J2:∀(V:List AB) (M:NN),p1=V→b3 ⟨[(8,.ptr 8 (w 2) 0 0),(9,.ptr 9 ((w 2)+2) 0 0),(63,.own 5005<|w 0),(64,rL w6),(65,rI x3)],[(8,some<|.box (w 2) 97 [.own 3080<|M 0]),(9,some<|.box ((w 2)+2) 68 [.mref 57<|(w 2)+1]),(57,some<|.md ((w 2)+1)<|AJ RV.bool w5),(3080,some<|.arr (M 0) 103 4<|V.map AB.row),(5005,some<|.arr (w 0) 103 4<|w6.map AB.row)],(M 1),80⟩:=by
   intro V M e
   have b7:=b6 _ e
   exact b4 _<|aR<|AE b7 λx5 b8 b9=>xA R b8<|mM R<|Zh<|ZG b9 (AH [(M 0),(M 1)]) wk
  refine aU<|AE b5 λx6 ae ba=>sQ R (GT R BP.slice iL R iL λ_=>ae)<|sQ R (VI (cs:=(CB x6)) R GP iL fR (λ_=>ae) R)<|sS R (BB (cs:=Kc) 12 R L9 R R)<|Zj R R (Az (ds:=(CB x6)) R KP iL R iL R R R R)<|aZ<|aU<|sQ R (AU (a:=.mref 57<|(w 2)+1) R G3 iL R R)<|lF EV AI R R<|sQ R (I0 (rd:=RV.bool) false (.bool false) false R underlying68 underlying3 (F2 KH) (λ_ _=>.bool _) (.inl R) (.inl R) R)<|sQ R (A4 R iL)<|aZ<|cI R ba (λa6=>?_) λa6=>?_
  ·exact aR<|sQ R (AU (a:=.own 3080<|F 0) R Qy iL R R)<|xC GP R<|sS R (Bo 76 R BP (f:=AB.row) (l:=([x6]:List AB)) ⟨R,⟨_,iL,R⟩,Za⟩ R (λ_=>R) R)<|AE a6 λl3 bb bc=>sS R (DB R BP iL R (.inr<|.inl ⟨_,_,iL,R⟩) bb)<|Zj R R (Az (ds:=[.own 3080<|(F 1)+2]) R UC iL R iL R R R R)<|Zh<|Z _ _ wk<|J2 _ (AH [((F 1)+2),((F 1)+3)]) (Zg bc).symm
  exact Zc<|Z _ _ wk<|J2 _ (AH [(F 0),((F 1)+1)]) (Zg a6).symm
 exact Zm<|ab _ _ wk<|J1 _ (AH [(F 0),(F 1)])<|xH b1 a2
theorem Xx{i r}(h:MX i=some r):AZ prog 82 [qg i] (rI r):=by
 unfold MX at h
 refine mF func82 ntmps82 R λq=>aU<|mA R<|aZ<|aU<|sS R (Jn RV.bool 6 R)<|Zj R R (Il (rd:=RV.bool) (a:=true) (.inr R) underlying68 underlying3 iL iL iL R)<|mM R<|mA R<|aZ<|aS λK3 c3 w=>aU<|mM R<|xL BP R<|mM R<|aZ<|Zf<|BI h λo1 j A B=>?_
 have J1:∀(U:Unit) (V:NN),o1=.nrm U→K3 ⟨[(0,qg i)],[],(V 0),27⟩:=by
  intro U V e
  have h1:=A _ e
  exact c3 _<|aU<|mM R<|xL BP R<|mA R<|aZ<|Zi<|yI h1 R
 refine Ch (λ(C:Int) (m2:List (Int × Bool)) m=>⟨[(0,qg i),(3,.mref 6 q),(8,qg i),(9,rL i),(10,rI C)],[(6,some<|.md q<|AJ RV.bool m2)],(m 0),27⟩) (AH [(q+1)]) j wk ?_
 intro C m2 m v1 E l
 have X:Ip i C m2=some v1:=E;unfold Ip at X
 refine aU<|xS R<|aZ<|aT λc7=>cI R X (λF=>?_) λF=>?_
 ·refine Zc<|c7 _<|aT λc8=>Zf<|aU<|mM R<|AE F λZ I h4=>xI BP R I<|xB ((CB Z)) GP R<|sS R (BB (cs:=Kc) 5 R L9 R R)<|mA R<|Zj R R (Az (ds:=(CB Z)) R KP iL R iL R R R R)<|aZ<|aT λJ=>aU<|mM R<|lF LW AI R R<|sQ R (I0 (rd:=RV.bool) false (.bool false) false R underlying68 underlying3 (F2 KH) (λ_ _=>.bool _) (.inl R) (.inl R) R)<|sQ R (A4 R iL)<|aZ<|cI R h4 (λM=>?_) λM=>?_
  ·refine aT λO=>aF [4] ?_
   exact aR<|mM R<|mA R<|aZ<|O _<|Zi<|yI (B _<|xH l M) R
  refine Zc<|J _<|aG [0,3,5,8,9,10] [5,6] ?_
  exact aR<|mM R<|lF EV AI R R<|Zj R R (Il (rd:=RV.bool) (a:=true) iL underlying68 underlying3 iL iL iL R)<|aZ<|c8 _<|aR<|AE M λx5 T h6=>xA R T<|mM R<|Zh<|ZG h6 (AH [((m 0)+1)]) wk
 exact Zm<|w _ _ wk<|J1 _ (AH [(m 0)])<|xH l F
theorem mG{j n r}(h:MU j n=some r):AZ prog 83 [qa j,rS n] (rS r):=by
 unfold MU at h
 refine mF func83 ntmps83 R λZ=>aU<|mA R<|aZ<|aS λK2 c2 w=>aU<|mM R<|xL BA R<|mM R<|aZ<|Zf<|BI h λo1 l A B=>?_
 have J1:∀(T:Unit) (U:NN),o1=.nrm T→K2 ⟨[],[],(U 0),20⟩:=by
  intro T U e
  have h1:=A _ e
  exact c2 _<|aU<|mA R<|aZ<|Zi<|CG (P:=prog) (λ(r:(List UInt8))=>rS r) h1 iL<|.t<|.d R
 refine Zv (λ(C:Int) q=>⟨[(1,rS n),(7,qa j),(8,rL j),(9,rI C)],[],(q 0),20⟩) (AH [Z]) l wk ?_
 intro C q v1 E m
 have V:NV j n C=some v1:=E;unfold NV at V
 refine aU<|xS R<|aZ<|aT λc6=>cI R V (λF=>?_) λF=>?_
 ·refine Zc<|c6 _<|aT λc7=>Zf<|aU<|AE F λX I h4=>xI BA R I<|xB ((CA X)) EG R<|sS R (BB (cs:=[.r<|.str [],.r<|.str []]) 6 R Vm R R)<|Zj R R (Az (ds:=(CA X)) R Ub iL R iL R R R R)<|aZ<|aU<|lF EX BE R R<|mM R<|sQ R (E5 R iL iL)<|aZ<|cI R h4 (λJ=>?_) λJ=>?_
  ·refine aT λM=>aG [6] [6] ?_
   exact aR<|lF Ii BE R R<|mA R<|aZ<|M _<|Zi<|CG (P:=prog) (λ(r:(List UInt8))=>rS r) (B _<|xH m J) iL<|.t<|.d R
  exact Zc<|c7 _<|aR<|AE J λx5 O h6=>xA R O<|mM R<|Zh<|Zr h6 (AH [((q 0)+1)]) wk
 exact Zm<|w _ _ wk<|J1 _ (AH [(q 0)])<|xH m F
theorem aW{j r}(h:P4 j=some r):AZ prog 84 [rS j] (.tup [rI r.1,.ifc r.2]):=by
 unfold P4 at h
 exact AZ.atoiS j9 R R R ⟨_,func84,R,R⟩ h
theorem eY{n1 r}(h:strconv_Itoa n1=some r):AZ prog 85 [rI n1] (rS r):=by
 unfold strconv_Itoa at h
 exact AZ.itoaS (g:=VH) gD R (by kernel_rfl) R ⟨_,func85,R,R⟩ h
theorem SW{d1 n1 r}(h:FA d1 n1=some r):AZ prog 44 [.agg [qb d1.Nodes],.agg<|At n1] (.r<|.sl<|r.map<|AY .i64):=by
 unfold FA at h
 refine mF func44 ntmps44 R λj=>aU<|sS R (Aw (cs:=[qb d1.Nodes]) 2 R iL R R)<|sS R (Aw (cs:=(At n1)) 3 R iL R R)<|mA R<|aZ<|aU<|mA R<|aZ<|aU<|lF Fw GM R R<|AE h λJ U h1=>sS R (Cb (r:=qg J) (caps:=[]) (bs:=[qf n1.Draw]) R iL R ⟨.inl ⟨iL,R⟩,Za⟩ λ_=>bN<|U)<|mA R<|aZ<|aS λK4 c4 V=>aT λc5=>aR<|mM R<|mM R<|AE h1 λr1 X h2=>cL (Xx<|X) R<|AE h2 λA Z h3=>?_
 refine sQ R (Wf R BP.slice iL (by exact R) (by exact⟨_,iL⟩) (λ_=>R) λ_=>Z) ?_
 refine xL BP R<|mM R<|aZ<|c5 _<|Zf<|Ba h3 λo1 M a0=>?_
 have J1:∀(m:List Int) (O:NN),o1=m→K4 ⟨[(5,.own 5005<|O 0)],[(5005,some<|.arr (O 0) 3 1<|m.map<|AY .i64)],(O 1),64⟩:=by
  intro m O e
  have h4:=a0 _ e
  exact c4 _<|aU<|mM R<|mA R<|aZ<|Zi<|CG (P:=prog) (λ(r:(List Int))=>.r<|.sl<|r.map<|AY .i64) h4 iL<|.t<|.one<|.own R
 refine Ch (λ(T:Int) (q:List Int) l=>⟨[(2,.ptr 2 j 0 0),(5,.own 5005<|l 0),(20,qg A),(21,rL A),(22,rI T)],[(2,some<|.box j 24 [qb d1.Nodes]),(5005,some<|.arr (l 0) 3 1<|q.map<|AY .i64)],(l 1),64⟩) (AH [(j+2),(j+3)]) M (Zx (Zx (F9 5 5005 3 1 (by decide) R)<|by exact Ae.cv (e':=[(0,.agg [qb d1.Nodes]),(1,.agg<|At n1),(2,.ptr 2 j 0 0),(3,.ptr 3 (j+1) 0 0),(4,cZ),(5,.own 5005<|j+2),(6,qg J),(14,.ptr 3 (j+1) 0 8),(15,qf n1.Draw),(16,qg J),(17,qg J),(18,qg J),(19,rI r1),(20,qg A),(21,rL A),(22,rI 0)]) (h':=[(2,some<|.box j 24 [qb d1.Nodes]),(3,some<|.box (j+1) 47<|At n1),(5005,some<|.arr (j+2) 3 1<|([]:List Int).map<|AY .i64)]) ⟨jL,jL,jL,jL,jL,jL,jL,jL,jL,jL,jL,jL,jL,jL,jL,jL,Za⟩ ⟨.inl R,.inl R,.inl R,Za⟩ nL) wk) ?_
 intro T q l v1 a1 a2
 have h5:Hp d1 A T q=some v1:=a1;unfold Hp at h5
 refine aU<|xS R<|aZ<|aT λc8=>cI R h5 (λh6=>?_) λh6=>?_
 ·refine Zc<|c8 _<|aS λK9 c9 B=>Zf<|Ba h6 λp1 a6 a7=>?_
  have J2:∀(w:List Int) (I:NN),p1=w→K9 ⟨[(2,.ptr 2 j 0 0),(5,.own 5005<|I 0),(20,qg A),(21,rL A),(22,rI T)],[(2,some<|.box j 24 [qb d1.Nodes]),(5005,some<|.arr (I 0) 3 1<|w.map<|AY .i64)],(I 1),64⟩:=by
   intro w I e
   have h7:=a7 _ e
   exact c9 _<|aR<|AE h7 λx4 a8 h8=>xA R a8<|mM R<|Zh<|ZG h8 (AH [(I 0),(I 1)]) wk
  refine aU<|AE a6 λx5 aa h9=>xI BP R aa<|xB ((CB x5)) GP R<|sS R (BB (cs:=Kc) 8 R L9 R R)<|Zj R R (Az (ds:=(CB x5)) R KP iL R iL R R R R)<|aZ<|aU<|lF JO Ca R R<|AE h9 λs1 ab ac=>cL (mG<|ab) R<|mA R<|aZ<|aU<|mM R<|Ee ac λr2 r3 ad ae=>cL (aW<|ad) R<|mM R<|xX R<|xX R<|mA R<|mA R<|aZ<|aT λaf=>aT λag=>aG [2,5,9,10,11,20,21,22] [2,5005] ?_
  refine aR<|mM R<|sQ R (ZW R Z8 iL)<|mM R<|vM R<|AE ae λr4 ah ai=>vL (λhg=>eY<|Af ah hg) R<|vM R<|vQ R (EA R (iR R)<|iR R)<|xO R<|aZ<|ag _<|cI R ai (λC=>?_) λC=>?_
  ·exact Zm<|B _ _ wk<|J2 _ (AH [(l 0),((l 1)+1)]) (Zg C).symm
  refine Zc<|af _<|aU<|xC B7 R<|mM R<|Ee C λr5 r6 aj ak=>cL (OU<|aj) R<|mM R<|xX R<|xX R<|mA R<|mA R<|aZ<|aT λal=>aG [2,5,10,12,13,20,21,22] [2,5005] ?_
  refine aR<|mM R<|mM R<|vF B8 B6 R R<|vM R<|AE ak λx6 an ao=>vQ R (A9 R Bh.slice (iR R) (iR R) (λ_=>R)<|Af an)<|vQ R (BH R CT<|iR R)<|vQ R (Bc (d:=.int .i64 x6.Kind) R AI (iR R) R)<|vQ R (A8 R (iR R) iL)<|xN R<|aZ<|al _<|cI R ao (λE=>?_) λE=>?_
  ·exact aR<|mM R<|mM R<|sS R (Bo 60 R BL (f:=(AY .i64)) (l:=([r2]:List Int)) ⟨R,⟨_,iL,R⟩,Za⟩ R (λ_=>R) R)<|AE E λar F aq=>sS R (DB R BL iL R (.inr<|.inl ⟨_,_,iL,R⟩) F)<|mA R<|Zh<|B _ _ wk<|J2 _ (AH [((l 1)+2),((l 1)+3)]) (Zg aq).symm
  exact Zc<|B _ _ wk<|J2 _ (AH [(l 0),((l 1)+1)]) (Zg E).symm
 exact Zm<|V _ _ wk<|J1 _ (AH [(l 0),(l 1)])<|xH a2 h6
theorem dZ{self:(List (List RV)→Option Bool)→(List<|Int × Bool)→(List<|List RV)→AN→Ab→Option (Bool × (List<|Int × Bool) × (List<|List RV))}(X:∀ {A1:List (List RV)→Option Bool} {m1:List (Int × Bool)} {M:List (List RV)} {E:AN} {v1:Ab} {r:Bool × (List<|Int × Bool) × (List<|List RV)} {m:Nat} {A:Nat} {q:Nat} {w:Nat} {B:Nat} {l:Nat} {j:Nat} {F:Ec},self A1 m1 M E v1=some r→(F.P=prog∧F.A=A1)→Ax prog 40 7 [.agg<|Bj v1,.ptr 1000 m 0 0,.ptr 1002 q 0 0,.ptr 1005 l 0 0,.ptr 1006 j 0 0] [(1000,some<|.box m 68 [.mref 1001 A]),(1001,some<|.md A<|AJ RV.bool m1),(1002,some<|.box q 67 [.fn 24 [.ptr 1003 w 0 0]]),(1003,some<|.box w 63 [.yld 1004 B]),(1004,some<|.cal B F M),(1005,some<|.box l 24 [qb E.Nodes]),(1006,some<|.box j 67 [.fn 40 [.ptr 1000 m 0 0,.ptr 1002 q 0 0,.ptr 1005 l 0 0,.ptr 1006 j 0 0]])] (λZ h'=>∃(i:Nat→Nat),Z=rB r.1∧h'=[(1000,some<|.box m 68 [.mref 1001 A]),(1001,some<|.md A<|AJ RV.bool r.2.1),(1002,some<|.box q 67 [.fn 24 [.ptr 1003 w 0 0]]),(1003,some<|.box w 63 [.yld 1004 B]),(1004,some<|.cal B F r.2.2),(1005,some<|.box l 24 [qb E.Nodes]),(1006,some<|.box j 67 [.fn 40 [.ptr 1000 m 0 0,.ptr 1002 q 0 0,.ptr 1005 l 0 0,.ptr 1006 j 0 0]])])){A1:List (List RV)→Option Bool}{m1:List (Int × Bool)}{M:List (List RV)}{E:AN}{v1:Ab}{r:Bool × (List<|Int × Bool) × (List<|List RV)}{m:Nat}{A:Nat}{q:Nat}{w:Nat}{B:Nat}{l:Nat}{j:Nat}{F:Ec}(h:Pm self A1 m1 M E v1=some r)(hW:(F.P=prog∧F.A=A1)):Ax prog 40 7 [.agg<|Bj v1,.ptr 1000 m 0 0,.ptr 1002 q 0 0,.ptr 1005 l 0 0,.ptr 1006 j 0 0] [(1000,some<|.box m 68 [.mref 1001 A]),(1001,some<|.md A<|AJ RV.bool m1),(1002,some<|.box q 67 [.fn 24 [.ptr 1003 w 0 0]]),(1003,some<|.box w 63 [.yld 1004 B]),(1004,some<|.cal B F M),(1005,some<|.box l 24 [qb E.Nodes]),(1006,some<|.box j 67 [.fn 40 [.ptr 1000 m 0 0,.ptr 1002 q 0 0,.ptr 1005 l 0 0,.ptr 1006 j 0 0]])] (λZ h'=>∃(i:Nat→Nat),Z=rB r.1∧h'=[(1000,some<|.box m 68 [.mref 1001 A]),(1001,some<|.md A<|AJ RV.bool r.2.1),(1002,some<|.box q 67 [.fn 24 [.ptr 1003 w 0 0]]),(1003,some<|.box w 63 [.yld 1004 B]),(1004,some<|.cal B F r.2.2),(1005,some<|.box l 24 [qb E.Nodes]),(1006,some<|.box j 67 [.fn 40 [.ptr 1000 m 0 0,.ptr 1002 q 0 0,.ptr 1005 l 0 0,.ptr 1006 j 0 0]])]):=by
 unfold Pm at h
 refine DV func40 R R ntmps40 (Zq R) λV=>aU<|sS R (Aw (cs:=(Bj v1)) 5 R iL R R)<|mA R<|aZ<|aT λc2=>aU<|sQ R (AU (a:=.mref 1001 A) R G3 iL R R)<|lF DT AI R R<|sQ R (I0 (rd:=RV.bool) false (.bool false) false R underlying68 underlying3 (F2 KH) (λ_ _=>.bool _) (.inl R) (.inl R) R)<|aZ<|cI R h (λh1=>?_) λh1=>?_
 ·refine aT λc4=>aG [] [1000,1001,1002,1003,1004,1005,1006] ?_
  refine aR<|mA R<|oZ c4 ?_
  exact Zi<|ZA (s':=⟨[(6,rB true)],[(1000,some<|.box m 68 [.mref 1001 A]),(1001,some<|.md A<|AJ RV.bool m1),(1002,some<|.box q 67 [.fn 24 [.ptr 1003 w 0 0]]),(1003,some<|.box w 63 [.yld 1004 B]),(1004,some<|.cal B F M),(1005,some<|.box l 24 [qb E.Nodes]),(1006,some<|.box j 67 [.fn 40 [.ptr 1000 m 0 0,.ptr 1002 q 0 0,.ptr 1005 l 0 0,.ptr 1006 j 0 0]])],(V+1),121⟩) wk<|Bf (λ(r:Bool × (List<|Int × Bool) × (List<|List RV)) Z h'=>∃(i:Nat→Nat),Z=rB r.1∧h'=[(1000,some<|.box m 68 [.mref 1001 A]),(1001,some<|.md A<|AJ RV.bool r.2.1),(1002,some<|.box q 67 [.fn 24 [.ptr 1003 w 0 0]]),(1003,some<|.box w 63 [.yld 1004 B]),(1004,some<|.cal B F r.2.2),(1005,some<|.box l 24 [qb E.Nodes]),(1006,some<|.box j 67 [.fn 40 [.ptr 1000 m 0 0,.ptr 1002 q 0 0,.ptr 1005 l 0 0,.ptr 1006 j 0 0]])]) h1<|by exact⟨rB true,[(1000,some<|.box m 68 [.mref 1001 A]),(1001,some<|.md A<|AJ RV.bool m1),(1002,some<|.box q 67 [.fn 24 [.ptr 1003 w 0 0]]),(1003,some<|.box w 63 [.yld 1004 B]),(1004,some<|.cal B F M),(1005,some<|.box l 24 [qb E.Nodes]),(1006,some<|.box j 67 [.fn 40 [.ptr 1000 m 0 0,.ptr 1002 q 0 0,.ptr 1005 l 0 0,.ptr 1006 j 0 0]])],R,⟨.inr R,.inr R,.inr R,.inr R,.inr R,.inr R,.inr R,Za⟩,R,R,AH [],R,R⟩
 refine Zc<|c2 _<|aU<|sQ R (AU (a:=.mref 1001 A) R G3 iL R R)<|lF DT AI R R<|Zj R R (Il (rd:=RV.bool) (a:=true) iL underlying68 underlying3 iL iL iL R)<|aZ<|aT λc6=>aT λc7=>aG [2,3,4,5] [5,1000,1001,1002,1003,1004,1005,1006] ?_
 refine aR<|sQ R (AU (a:=.fn 24 [.ptr 1003 w 0 0]) R E0 iL R R)<|xC SG R<|Ee h1 λr1 w2 bd h2=>?_
 refine Zw [1003,1004] (hc:=[(1000,some<|.box w 63 [.yld 1001 B]),(1001,some<|.cal B F M)]) (bs:=[.agg<|Bj v1]) (caps:=[.ptr 1000 w 0 0]) R R R R iL R ⟨.inl ⟨iL,R⟩,Za⟩ ⟨R,R,R,R,R,R,Za⟩ (by decide) (Yj bd hW) ?_
 intro i1 n1
 refine BU [2,3,4,5,24,25,26] [5,1000,1001,1002,1003,1004,1005,1006] ?_
 refine sQ R (A4 R iL)<|aZ<|c7 _<|cI R h2 (λh3=>?_) λh3=>?_
 ·refine aU<|mA R<|aZ ?_
  exact Zi<|ZA (s':=⟨[(6,rB false)],[(1000,some<|.box m 68 [.mref 1001 A]),(1001,some<|.md A<|AJ RV.bool<|Ai m1 v1.id true),(1002,some<|.box q 67 [.fn 24 [.ptr 1003 w 0 0]]),(1003,some<|.box w 63 [.yld 1004 B]),(1004,some<|.cal B F w2),(1005,some<|.box l 24 [qb E.Nodes]),(1006,some<|.box j 67 [.fn 40 [.ptr 1000 m 0 0,.ptr 1002 q 0 0,.ptr 1005 l 0 0,.ptr 1006 j 0 0]])],n1,121⟩) wk<|Bf (λ(r:Bool × (List<|Int × Bool) × (List<|List RV)) Z h'=>∃(i:Nat→Nat),Z=rB r.1∧h'=[(1000,some<|.box m 68 [.mref 1001 A]),(1001,some<|.md A<|AJ RV.bool r.2.1),(1002,some<|.box q 67 [.fn 24 [.ptr 1003 w 0 0]]),(1003,some<|.box w 63 [.yld 1004 B]),(1004,some<|.cal B F r.2.2),(1005,some<|.box l 24 [qb E.Nodes]),(1006,some<|.box j 67 [.fn 40 [.ptr 1000 m 0 0,.ptr 1002 q 0 0,.ptr 1005 l 0 0,.ptr 1006 j 0 0]])]) h3<|by exact⟨rB false,[(1000,some<|.box m 68 [.mref 1001 A]),(1001,some<|.md A<|AJ RV.bool<|Ai m1 v1.id true),(1002,some<|.box q 67 [.fn 24 [.ptr 1003 w 0 0]]),(1003,some<|.box w 63 [.yld 1004 B]),(1004,some<|.cal B F w2),(1005,some<|.box l 24 [qb E.Nodes]),(1006,some<|.box j 67 [.fn 40 [.ptr 1000 m 0 0,.ptr 1002 q 0 0,.ptr 1005 l 0 0,.ptr 1006 j 0 0]])],R,⟨.inr R,.inr R,.inr R,.inr R,.inr R,.inr R,.inr R,Za⟩,R,R,AH [],R,R⟩
 refine Zc<|c6 _<|aU<|xC B7 R<|lF DT AI R R<|Ee h3 λr2 r3 be h4=>cL (OU<|be) R<|mM R<|xX R<|xX R<|mA R<|mA R<|aZ<|aT λbf=>aG [3,4,5,7] [5,1000,1001,1002,1003,1004,1005,1006] ?_
 refine aR<|lF B8 B6 R R<|mM R<|AE h4 λJ bg h5=>xI Bh R bg<|xB ((At J)) DO R<|sS R (BB (cs:=FT) 9 R Hs R R)<|Zj R R (Az (ds:=(At J)) R Gw iL R iL R R R R)<|aZ<|bf _<|aS λbh bi au=>aU<|lF EH EN R R<|AE h5 λr4 bj h6=>sS R (Cb (r:=.r<|.sl<|r4.map<|AY .i64) (caps:=[]) (bs:=[qe J.Flow]) R iL R ⟨.inl ⟨iL,R⟩,Za⟩ λ_=>So<|bj)<|xL BL R<|mM R<|aZ<|Zf<|HQ h6 λo1 av bk bl=>?_
 have J1:∀(m5:List (Int × Bool)) (ac:List (List RV)) (i6:NN),o1=.nrm (m5,ac)→bh ⟨[(3,.ptr 1005 l 0 0),(4,.ptr 1006 j 0 0),(5,.ptr 5 V 0 0),(9,.ptr 9 n1 0 0)],[(5,some<|.box V 66<|Bj v1),(9,some<|.box n1 47<|At J),(1000,some<|.box m 68 [.mref 1001 A]),(1001,some<|.md A<|AJ RV.bool m5),(1002,some<|.box q 67 [.fn 24 [.ptr 1003 w 0 0]]),(1003,some<|.box w 63 [.yld 1004 B]),(1004,some<|.cal B F ac),(1005,some<|.box l 24 [qb E.Nodes]),(1006,some<|.box j 67 [.fn 40 [.ptr 1000 m 0 0,.ptr 1002 q 0 0,.ptr 1005 l 0 0,.ptr 1006 j 0 0]])],(i6 0),121⟩:=by
  intro m5 ac i6 e
  have h7:=bk _ _ e
  refine bi _<|aS λbm bn aw=>aU<|sQ R (fB R DF iL fR R)<|lF DS Dc R R<|xL Bm R<|mM R<|aZ<|Zf<|HQ h7 λo2 ax bo bp=>?_
  have J2:∀(m9:List (Int × Bool)) (ad:List (List RV)) (ae:NN),o2=.nrm (m9,ad)→bm ⟨[(3,.ptr 1005 l 0 0),(4,.ptr 1006 j 0 0),(5,.ptr 5 V 0 0),(9,.ptr 9 n1 0 0)],[(5,some<|.box V 66<|Bj v1),(9,some<|.box n1 47<|At J),(1000,some<|.box m 68 [.mref 1001 A]),(1001,some<|.md A<|AJ RV.bool m9),(1002,some<|.box q 67 [.fn 24 [.ptr 1003 w 0 0]]),(1003,some<|.box w 63 [.yld 1004 B]),(1004,some<|.cal B F ad),(1005,some<|.box l 24 [qb E.Nodes]),(1006,some<|.box j 67 [.fn 40 [.ptr 1000 m 0 0,.ptr 1002 q 0 0,.ptr 1005 l 0 0,.ptr 1006 j 0 0]])],(ae 0),121⟩:=by
   intro m9 ad ae e
   have h8:=bo _ _ e
   refine bn _<|aS λbq br ay=>aU<|xC B7 R<|xC DO R<|AE h8 λr5 bs h9=>sS R (Cb (r:=.r<|.sl<|r5.map<|AY .i64) (caps:=[]) (bs:=[.agg [qb E.Nodes],.agg<|At J]) R iL R ⟨.inl ⟨iL,R⟩,.inl ⟨iL,R⟩,Za⟩ λ_=>SW<|bs)<|xL BL R<|mM R<|aZ<|Zf<|HQ h9 λo3 az bt bu=>?_
   have J3:∀(a1:List (Int × Bool)) (O:List (List RV)) (i16:NN),o3=.nrm (a1,O)→bq ⟨[],[(1000,some<|.box m 68 [.mref 1001 A]),(1001,some<|.md A<|AJ RV.bool a1),(1002,some<|.box q 67 [.fn 24 [.ptr 1003 w 0 0]]),(1003,some<|.box w 63 [.yld 1004 B]),(1004,some<|.cal B F O),(1005,some<|.box l 24 [qb E.Nodes]),(1006,some<|.box j 67 [.fn 40 [.ptr 1000 m 0 0,.ptr 1002 q 0 0,.ptr 1005 l 0 0,.ptr 1006 j 0 0]])],(i16 0),121⟩:=by
    intro a1 O i16 e
    have bv:=bt _ _ e
    refine br _<|aU<|mA R<|aZ ?_
    exact Zi<|ZA (s':=⟨[(6,rB true)],[(1000,some<|.box m 68 [.mref 1001 A]),(1001,some<|.md A<|AJ RV.bool a1),(1002,some<|.box q 67 [.fn 24 [.ptr 1003 w 0 0]]),(1003,some<|.box w 63 [.yld 1004 B]),(1004,some<|.cal B F O),(1005,some<|.box l 24 [qb E.Nodes]),(1006,some<|.box j 67 [.fn 40 [.ptr 1000 m 0 0,.ptr 1002 q 0 0,.ptr 1005 l 0 0,.ptr 1006 j 0 0]])],(i16 0),121⟩) wk<|Bf (λ(r:Bool × (List<|Int × Bool) × (List<|List RV)) Z h'=>∃(i:Nat→Nat),Z=rB r.1∧h'=[(1000,some<|.box m 68 [.mref 1001 A]),(1001,some<|.md A<|AJ RV.bool r.2.1),(1002,some<|.box q 67 [.fn 24 [.ptr 1003 w 0 0]]),(1003,some<|.box w 63 [.yld 1004 B]),(1004,some<|.cal B F r.2.2),(1005,some<|.box l 24 [qb E.Nodes]),(1006,some<|.box j 67 [.fn 40 [.ptr 1000 m 0 0,.ptr 1002 q 0 0,.ptr 1005 l 0 0,.ptr 1006 j 0 0]])]) bv<|by exact⟨rB true,[(1000,some<|.box m 68 [.mref 1001 A]),(1001,some<|.md A<|AJ RV.bool a1),(1002,some<|.box q 67 [.fn 24 [.ptr 1003 w 0 0]]),(1003,some<|.box w 63 [.yld 1004 B]),(1004,some<|.cal B F O),(1005,some<|.box l 24 [qb E.Nodes]),(1006,some<|.box j 67 [.fn 40 [.ptr 1000 m 0 0,.ptr 1002 q 0 0,.ptr 1005 l 0 0,.ptr 1006 j 0 0]])],R,⟨.inr R,.inr R,.inr R,.inr R,.inr R,.inr R,.inr R,Za⟩,R,R,AH [],R,R⟩
   refine FI (λ(x9:Int) (a6:List (Int × Bool)) (a0:List (List RV)) af=>⟨[(4,.ptr 1006 j 0 0),(5,.ptr 5 V 0 0),(105,.r<|.sl<|r5.map<|AY .i64),(106,rL r5),(107,rI x9)],[(5,some<|.box V 66<|Bj v1),(1000,some<|.box m 68 [.mref 1001 A]),(1001,some<|.md A<|AJ RV.bool a6),(1002,some<|.box q 67 [.fn 24 [.ptr 1003 w 0 0]]),(1003,some<|.box w 63 [.yld 1004 B]),(1004,some<|.cal B F a0),(1005,some<|.box l 24 [qb E.Nodes]),(1006,some<|.box j 67 [.fn 40 [.ptr 1000 m 0 0,.ptr 1002 q 0 0,.ptr 1005 l 0 0,.ptr 1006 j 0 0]])],(af 0),121⟩) (AH [(ae 0)]) az wk ?_
   intro x9 a6 a0 af v2 bw b0
   have b1:RH A1 E v1 self r5 x9 a6 a0=some v2:=bw;unfold RH at b1
   refine aU<|xS R<|aZ<|aT λbx=>cI R b1 (λag=>?_) λag=>?_
   ·refine Zc<|bx _<|aT λbz=>Zf<|aU<|AE ag λah b2 c0=>xI BL R b2<|xV (.int .i64 ah) AI R<|mA R<|aZ<|aT λc1=>aR<|sQ R (AU (a:=.fn 40 [.ptr 1000 m 0 0,.ptr 1002 q 0 0,.ptr 1005 l 0 0,.ptr 1006 j 0 0]) R E0 iL R R)<|mM R<|lF DT AI R R<|lF G9 Em R R ?_
    refine sQ R (Bq R F0 (q:=[(0,_),(1,_),(2,_)]) (by exact⟨R,R,R,iL,R,R,R,iL,R,R,R,iL,Za⟩) (cs:=[rI ah,rI v1.id,rB v1.visible])<|by rfl) ?_
    refine E9 c0 λr6 w3 w4 c3 c5=>?_
    refine Zw [1000,1001,1002,1003,1004,1005,1006] (hc:=[(1000,some<|.box m 68 [.mref 1001 A]),(1001,some<|.md A<|AJ RV.bool a6),(1002,some<|.box q 67 [.fn 24 [.ptr 1003 w 0 0]]),(1003,some<|.box w 63 [.yld 1004 B]),(1004,some<|.cal B F a0),(1005,some<|.box l 24 [qb E.Nodes]),(1006,some<|.box j 67 [.fn 40 [.ptr 1000 m 0 0,.ptr 1002 q 0 0,.ptr 1005 l 0 0,.ptr 1006 j 0 0]])]) (bs:=[.agg [rI ah,rI v1.id,rB v1.visible]]) (caps:=[.ptr 1000 m 0 0,.ptr 1002 q 0 0,.ptr 1005 l 0 0,.ptr 1006 j 0 0]) R R R R iL R ⟨.inl ⟨iL,R⟩,Za⟩ ⟨R,R,R,R,R,R,R,R,R,R,R,R,R,R,R,R,R,R,R,R,R,Za⟩ (by decide) (X c3 hW) ?_
    intro cz n2
    refine BU [4,5,16,105,106,107,108,109,110,111,112,113,114,115,116,117,118] [5,1000,1001,1002,1003,1004,1005,1006] ?_
    refine sQ R (A4 R iL)<|aZ<|c1 _<|cI R c5 (λai=>?_) λai=>?_
    ·refine aT λc8=>aG [] [1000,1001,1002,1003,1004,1005,1006] ?_
     refine aR<|mA R<|oZ c8 ?_
     exact Zi<|ZA (s':=⟨[(6,rB false)],[(1000,some<|.box m 68 [.mref 1001 A]),(1001,some<|.md A<|AJ RV.bool w3),(1002,some<|.box q 67 [.fn 24 [.ptr 1003 w 0 0]]),(1003,some<|.box w 63 [.yld 1004 B]),(1004,some<|.cal B F w4),(1005,some<|.box l 24 [qb E.Nodes]),(1006,some<|.box j 67 [.fn 40 [.ptr 1000 m 0 0,.ptr 1002 q 0 0,.ptr 1005 l 0 0,.ptr 1006 j 0 0]])],n2,121⟩) wk<|Bf (λ(r:Bool × (List<|Int × Bool) × (List<|List RV)) Z h'=>∃(i:Nat→Nat),Z=rB r.1∧h'=[(1000,some<|.box m 68 [.mref 1001 A]),(1001,some<|.md A<|AJ RV.bool r.2.1),(1002,some<|.box q 67 [.fn 24 [.ptr 1003 w 0 0]]),(1003,some<|.box w 63 [.yld 1004 B]),(1004,some<|.cal B F r.2.2),(1005,some<|.box l 24 [qb E.Nodes]),(1006,some<|.box j 67 [.fn 40 [.ptr 1000 m 0 0,.ptr 1002 q 0 0,.ptr 1005 l 0 0,.ptr 1006 j 0 0]])]) (bu _<|xH b0 ai)<|by exact⟨rB false,[(1000,some<|.box m 68 [.mref 1001 A]),(1001,some<|.md A<|AJ RV.bool w3),(1002,some<|.box q 67 [.fn 24 [.ptr 1003 w 0 0]]),(1003,some<|.box w 63 [.yld 1004 B]),(1004,some<|.cal B F w4),(1005,some<|.box l 24 [qb E.Nodes]),(1006,some<|.box j 67 [.fn 40 [.ptr 1000 m 0 0,.ptr 1002 q 0 0,.ptr 1005 l 0 0,.ptr 1006 j 0 0]])],R,⟨.inr R,.inr R,.inr R,.inr R,.inr R,.inr R,.inr R,Za⟩,R,R,AH [],R,R⟩
    refine Zc<|bz _<|aG [4,5,105,106,107] [5,1000,1001,1002,1003,1004,1005,1006] ?_
    exact aR<|AE ai λd0 b3 c9=>xA R b3<|mM R<|Zh<|D0.mk c9 (AH [n2]) wk
   exact Zm<|ay _ _ wk<|J3 _ _ (AH [(af 0)])<|xH b0 ag
  refine FI (λ(x6:Int) (m7:List (Int × Bool)) (a7:List (List RV)) i9=>⟨[(3,.ptr 1005 l 0 0),(4,.ptr 1006 j 0 0),(5,.ptr 5 V 0 0),(9,.ptr 9 n1 0 0),(60,qc J.Grid.Cells),(61,rL J.Grid.Cells),(62,rI x6)],[(5,some<|.box V 66<|Bj v1),(9,some<|.box n1 47<|At J),(1000,some<|.box m 68 [.mref 1001 A]),(1001,some<|.md A<|AJ RV.bool m7),(1002,some<|.box q 67 [.fn 24 [.ptr 1003 w 0 0]]),(1003,some<|.box w 63 [.yld 1004 B]),(1004,some<|.cal B F a7),(1005,some<|.box l 24 [qb E.Nodes]),(1006,some<|.box j 67 [.fn 40 [.ptr 1000 m 0 0,.ptr 1002 q 0 0,.ptr 1005 l 0 0,.ptr 1006 j 0 0]])],(i9 0),121⟩) (AH [(i6 0)]) ax wk ?_
  intro x6 m7 a7 i9 v3 ca b4
  have b5:S9 A1 E v1 self J x6 m7 a7=some v3:=ca;unfold S9 at b5
  refine aU<|xS R<|aZ<|aT λcb=>cI R b5 (λaj=>?_) λaj=>?_
  ·refine Zc<|cb _<|aT λcc=>Zf<|aU<|AE aj λC b6 cd=>xI Bm R b6<|xB ((BN C)) Dy R<|sS R (BB (cs:=GD) 13 R GE R R)<|Zj R R (Az (ds:=(BN C)) R GO iL R iL R R R R)<|aZ<|aU<|sQ R (fB R DF iL fR R)<|sQ R (GL (ds:=(Bs J.Grid)) R Fm iL R R R)<|lF Dg AI R R<|lF Dt AI R R<|AE cd λI cf cg=>sS R (Cb (r:=.agg<|A3 I) (caps:=[]) (bs:=[.agg<|Bs J.Grid,rI C.Row,rI C.Col]) R iL R ⟨.inl ⟨iL,R⟩,.inl ⟨iL,R⟩,.inl ⟨iL,R⟩,Za⟩ λ_=>Sw<|cf)<|sS R (BB (cs:=Ek) 14 R GS R R)<|Zj R R (Az (ds:=(A3 I)) R Fc iL R iL R R R R)<|aZ<|aS λch cj ab=>aG [3,4,5,9,13,14,60,61,62] [5,9,13,14,1000,1001,1002,1003,1004,1005,1006] ?_
   refine aR<|lF DG AI R R<|xU R<|mM R<|vQ R (AU (a:=.fn 40 [.ptr 1000 m 0 0,.ptr 1002 q 0 0,.ptr 1005 l 0 0,.ptr 1006 j 0 0]) R E0 iL R R)<|vF DG AI R R<|vF DT AI R R<|vF G9 Em R R<|vQ R (AK R<|iR R)<|wQ R (fB R CV iL fR R)<|wQ R (AU (a:=rI I.Row) R AI (iR R) R R)<|wQ R (fB R Dg iL fR R)<|wQ R (AU (a:=rI C.Row) R AI (iR R) R R)<|wQ R (A8 R (iR R)<|iR R)<|vQ R (BK R (iR R)<|iR R)<|vQ R (AK R<|iR R)<|wQ R (fB R Cv iL fR R)<|wQ R (AU (a:=rI I.Col) R AI (iR R) R R)<|wQ R (fB R Dt iL fR R)<|wQ R (AU (a:=rI C.Col) R AI (iR R) R R)<|wQ R (A8 R (iR R)<|iR R)<|vQ R (BK R (iR R)<|iR R) ?_
   refine vQ R (Bq R F0 (q:=[(0,_),(1,_),(2,_)]) (by exact⟨R,R,R,(iR R),R,R,R,(iR R),R,R,R,(iR R),Za⟩) (cs:=[rI C.Ref,rI v1.id,rB<|((v1.visible&&(I.Row=C.Row))&&(I.Col=C.Col))])<|by rfl) ?_
   refine R6 cg λp1 b7 ck=>?_
   have J4:∀(ak:Bool) (a2:List (Int × Bool)) (T:List (List RV)) (a8:NN),p1=(ak,a2,T)→ch ⟨[(3,.ptr 1005 l 0 0),(4,.ptr 1006 j 0 0),(5,.ptr 5 V 0 0),(9,.ptr 9 n1 0 0),(60,qc J.Grid.Cells),(61,rL J.Grid.Cells),(62,rI x6),(101,rB ak)],[(5,some<|.box V 66<|Bj v1),(9,some<|.box n1 47<|At J),(1000,some<|.box m 68 [.mref 1001 A]),(1001,some<|.md A<|AJ RV.bool a2),(1002,some<|.box q 67 [.fn 24 [.ptr 1003 w 0 0]]),(1003,some<|.box w 63 [.yld 1004 B]),(1004,some<|.cal B F T),(1005,some<|.box l 24 [qb E.Nodes]),(1006,some<|.box j 67 [.fn 40 [.ptr 1000 m 0 0,.ptr 1002 q 0 0,.ptr 1005 l 0 0,.ptr 1006 j 0 0]])],(a8 0),121⟩:=by
    intro ak a2 T a8 e
    have cl:=ck _ _ _ e
    refine cj _<|cI R cl (λal=>?_) λal=>?_
    ·refine aU<|mA R<|aZ ?_
     exact Zi<|ZA (s':=⟨[(6,rB false)],[(1000,some<|.box m 68 [.mref 1001 A]),(1001,some<|.md A<|AJ RV.bool a2),(1002,some<|.box q 67 [.fn 24 [.ptr 1003 w 0 0]]),(1003,some<|.box w 63 [.yld 1004 B]),(1004,some<|.cal B F T),(1005,some<|.box l 24 [qb E.Nodes]),(1006,some<|.box j 67 [.fn 40 [.ptr 1000 m 0 0,.ptr 1002 q 0 0,.ptr 1005 l 0 0,.ptr 1006 j 0 0]])],(a8 0),121⟩) wk<|Bf (λ(r:Bool × (List<|Int × Bool) × (List<|List RV)) Z h'=>∃(i:Nat→Nat),Z=rB r.1∧h'=[(1000,some<|.box m 68 [.mref 1001 A]),(1001,some<|.md A<|AJ RV.bool r.2.1),(1002,some<|.box q 67 [.fn 24 [.ptr 1003 w 0 0]]),(1003,some<|.box w 63 [.yld 1004 B]),(1004,some<|.cal B F r.2.2),(1005,some<|.box l 24 [qb E.Nodes]),(1006,some<|.box j 67 [.fn 40 [.ptr 1000 m 0 0,.ptr 1002 q 0 0,.ptr 1005 l 0 0,.ptr 1006 j 0 0]])]) (bp _<|xH b4 al)<|by exact⟨rB false,[(1000,some<|.box m 68 [.mref 1001 A]),(1001,some<|.md A<|AJ RV.bool a2),(1002,some<|.box q 67 [.fn 24 [.ptr 1003 w 0 0]]),(1003,some<|.box w 63 [.yld 1004 B]),(1004,some<|.cal B F T),(1005,some<|.box l 24 [qb E.Nodes]),(1006,some<|.box j 67 [.fn 40 [.ptr 1000 m 0 0,.ptr 1002 q 0 0,.ptr 1005 l 0 0,.ptr 1006 j 0 0]])],R,⟨.inr R,.inr R,.inr R,.inr R,.inr R,.inr R,.inr R,Za⟩,R,R,AH [],R,R⟩
    exact Zc<|cc _<|aR<|AE al λd1 b8 cm=>xA R b8<|mM R<|Zh<|D0.mk cm (AH [(a8 0)]) wk
   refine AL.split ((!(C.Ref=0))==true) (λU=>?_) λU=>?_
   ·have an:=Cd U b7
    refine AL.weak (by exact Lj (e':=[(3,.ptr 1005 l 0 0),(4,.ptr 1006 j 0 0),(5,.ptr 5 V 0 0),(9,.ptr 9 n1 0 0),(13,.ptr 13 (i9 0) 0 0),(14,.ptr 14 ((i9 0)+1) 0 0),(60,qc J.Grid.Cells),(61,rL J.Grid.Cells),(62,rI x6),(73,.ptr 13 (i9 0) 0 3),(74,rI C.Ref),(75,rB<|(!(C.Ref=0))),(76,rB<|(!(C.Ref=0))),(77,.fn 40 [.ptr 1000 m 0 0,.ptr 1002 q 0 0,.ptr 1005 l 0 0,.ptr 1006 j 0 0]),(78,.ptr 13 (i9 0) 0 3),(79,rI C.Ref),(80,.ptr 5 V 0 0),(81,rI v1.id),(82,.ptr 5 V 0 2),(83,rB v1.visible),(84,rB v1.visible),(85,.whn (v1.visible==true)<|.ptr 14 ((i9 0)+1) 0 0),(86,.whn (v1.visible==true)<|rI I.Row),(87,.whn (v1.visible==true)<|.ptr 13 (i9 0) 0 0),(88,.whn (v1.visible==true)<|rI C.Row),(89,.whn (v1.visible==true)<|rB<|(decide<|I.Row=C.Row)),(90,rB<|(v1.visible&&(I.Row=C.Row))),(91,rB<|(v1.visible&&(I.Row=C.Row))),(92,.whn ((v1.visible&&(I.Row=C.Row))==true)<|.ptr 14 ((i9 0)+1) 0 1),(93,.whn ((v1.visible&&(I.Row=C.Row))==true)<|rI I.Col),(94,.whn ((v1.visible&&(I.Row=C.Row))==true)<|.ptr 13 (i9 0) 0 1),(95,.whn ((v1.visible&&(I.Row=C.Row))==true)<|rI C.Col),(96,.whn ((v1.visible&&(I.Row=C.Row))==true)<|rB<|(decide<|I.Col=C.Col)),(97,rB<|((v1.visible&&(I.Row=C.Row))&&(I.Col=C.Col))),(98,.agg [rI C.Ref,rI v1.id,rB<|((v1.visible&&(I.Row=C.Row))&&(I.Col=C.Col))])]) U ⟨.inl R,.inl R,.inl R,.inl R,.inl R,.inl R,.inl R,.inl R,.inl R,.inl R,.inl R,.inl R,.inl R,.inr iL,.inr iL,.inr iL,.inr iL,.inr iL,.inr iL,.inr iL,.inr iL,.inr<|.inr<|.inl ⟨_,_,R,R⟩,.inr<|.inr<|.inl ⟨_,_,R,R⟩,.inr<|.inr<|.inl ⟨_,_,R,R⟩,.inr<|.inr<|.inl ⟨_,_,R,R⟩,.inr<|.inr<|.inl ⟨_,_,R,R⟩,.inr iL,.inr iL,.inr<|.inr<|.inl ⟨_,_,R,R⟩,.inr<|.inr<|.inl ⟨_,_,R,R⟩,.inr<|.inr<|.inl ⟨_,_,R,R⟩,.inr<|.inr<|.inl ⟨_,_,R,R⟩,.inr<|.inr<|.inl ⟨_,_,R,R⟩,.inr iL,.inr iL,Za⟩) ?_
    refine E9 an λr8 w5 w6 cn cp=>?_
    refine TJ (.one R R R) U [1000,1001,1002,1003,1004,1005,1006] (hc:=[(1000,some<|.box m 68 [.mref 1001 A]),(1001,some<|.md A<|AJ RV.bool m7),(1002,some<|.box q 67 [.fn 24 [.ptr 1003 w 0 0]]),(1003,some<|.box w 63 [.yld 1004 B]),(1004,some<|.cal B F a7),(1005,some<|.box l 24 [qb E.Nodes]),(1006,some<|.box j 67 [.fn 40 [.ptr 1000 m 0 0,.ptr 1002 q 0 0,.ptr 1005 l 0 0,.ptr 1006 j 0 0]])]) (bs:=[.agg [rI C.Ref,rI v1.id,rB<|((v1.visible&&(I.Row=C.Row))&&(I.Col=C.Col))]]) (caps:=[.ptr 1000 m 0 0,.ptr 1002 q 0 0,.ptr 1005 l 0 0,.ptr 1006 j 0 0]) R R R iL R ⟨.inl ⟨iL,R⟩,Za⟩ ⟨R,R,R,R,R,R,R,R,R,R,R,R,R,R,R,R,R,R,R,R,R,Za⟩ (by decide) (X cn hW) ?_
    intro d2 n3
    refine BU [3,4,5,9,13,14,60,61,62,73,74,75,76,77,78,79,80,81,82,83,84,90,91,97,98,99] [5,9,13,14,1000,1001,1002,1003,1004,1005,1006] ?_
    exact F8 (.one R R R) U R R (CS (A4 R<|.inl R) _)<|sQ R (BK R iL iL)<|Zh<|ab _ _ wk<|J4 _ _ _ (AH [n3]) (Zg cp).symm
   ·have an:=CY U b7
    exact Eh (.one R R R) U R R<|Eh (.one R R R) U R R<|xN R<|Zh<|ab _ _ wk<|J4 _ _ _ (AH [((i9 0)+2)]) (Zg an).symm
  exact Zm<|aw _ _ wk<|J2 _ _ (AH [(i9 0)])<|xH b4 aj
 refine FI (λ(x3:Int) (m3:List (Int × Bool)) (aa:List (List RV)) i4=>⟨[(3,.ptr 1005 l 0 0),(4,.ptr 1006 j 0 0),(5,.ptr 5 V 0 0),(9,.ptr 9 n1 0 0),(42,.r<|.sl<|r4.map<|AY .i64),(43,rL r4),(44,rI x3)],[(5,some<|.box V 66<|Bj v1),(9,some<|.box n1 47<|At J),(1000,some<|.box m 68 [.mref 1001 A]),(1001,some<|.md A<|AJ RV.bool m3),(1002,some<|.box q 67 [.fn 24 [.ptr 1003 w 0 0]]),(1003,some<|.box w 63 [.yld 1004 B]),(1004,some<|.cal B F aa),(1005,some<|.box l 24 [qb E.Nodes]),(1006,some<|.box j 67 [.fn 40 [.ptr 1000 m 0 0,.ptr 1002 q 0 0,.ptr 1005 l 0 0,.ptr 1006 j 0 0]])],(i4 0),121⟩) (AH [(n1+1)]) av wk ?_
 intro x3 m3 aa i4 v4 cq b9
 have ba:SP A1 E v1 self r4 x3 m3 aa=some v4:=cq;unfold SP at ba
 refine aU<|xS R<|aZ<|aT λcr=>cI R ba (λao=>?_) λao=>?_
 ·refine Zc<|cr _<|aT λcs=>Zf<|aU<|AE ao λaq bb ct=>xI BL R bb<|xV (.int .i64 aq) AI R<|mA R<|aZ<|aT λcu=>aR<|sQ R (AU (a:=.fn 40 [.ptr 1000 m 0 0,.ptr 1002 q 0 0,.ptr 1005 l 0 0,.ptr 1006 j 0 0]) R E0 iL R R)<|mM R<|lF DT AI R R<|lF G9 Em R R ?_
  refine sQ R (Bq R F0 (q:=[(0,_),(1,_),(2,_)]) (by exact⟨R,R,R,iL,R,R,R,iL,R,R,R,iL,Za⟩) (cs:=[rI aq,rI v1.id,rB v1.visible])<|by rfl) ?_
  refine E9 ct λr9 w7 w8 cv cw=>?_
  refine Zw [1000,1001,1002,1003,1004,1005,1006] (hc:=[(1000,some<|.box m 68 [.mref 1001 A]),(1001,some<|.md A<|AJ RV.bool m3),(1002,some<|.box q 67 [.fn 24 [.ptr 1003 w 0 0]]),(1003,some<|.box w 63 [.yld 1004 B]),(1004,some<|.cal B F aa),(1005,some<|.box l 24 [qb E.Nodes]),(1006,some<|.box j 67 [.fn 40 [.ptr 1000 m 0 0,.ptr 1002 q 0 0,.ptr 1005 l 0 0,.ptr 1006 j 0 0]])]) (bs:=[.agg [rI aq,rI v1.id,rB v1.visible]]) (caps:=[.ptr 1000 m 0 0,.ptr 1002 q 0 0,.ptr 1005 l 0 0,.ptr 1006 j 0 0]) R R R R iL R ⟨.inl ⟨iL,R⟩,Za⟩ ⟨R,R,R,R,R,R,R,R,R,R,R,R,R,R,R,R,R,R,R,R,R,Za⟩ (by decide) (X cv hW) ?_
  intro d3 n4
  refine BU [3,4,5,9,11,42,43,44,45,46,47,48,49,50,51,52,53,54,55] [5,9,1000,1001,1002,1003,1004,1005,1006] ?_
  refine sQ R (A4 R iL)<|aZ<|cu _<|cI R cw (λar=>?_) λar=>?_
  ·refine aT λcx=>aG [] [1000,1001,1002,1003,1004,1005,1006] ?_
   refine aR<|mA R<|oZ cx ?_
   exact Zi<|ZA (s':=⟨[(6,rB false)],[(1000,some<|.box m 68 [.mref 1001 A]),(1001,some<|.md A<|AJ RV.bool w7),(1002,some<|.box q 67 [.fn 24 [.ptr 1003 w 0 0]]),(1003,some<|.box w 63 [.yld 1004 B]),(1004,some<|.cal B F w8),(1005,some<|.box l 24 [qb E.Nodes]),(1006,some<|.box j 67 [.fn 40 [.ptr 1000 m 0 0,.ptr 1002 q 0 0,.ptr 1005 l 0 0,.ptr 1006 j 0 0]])],n4,121⟩) wk<|Bf (λ(r:Bool × (List<|Int × Bool) × (List<|List RV)) Z h'=>∃(i:Nat→Nat),Z=rB r.1∧h'=[(1000,some<|.box m 68 [.mref 1001 A]),(1001,some<|.md A<|AJ RV.bool r.2.1),(1002,some<|.box q 67 [.fn 24 [.ptr 1003 w 0 0]]),(1003,some<|.box w 63 [.yld 1004 B]),(1004,some<|.cal B F r.2.2),(1005,some<|.box l 24 [qb E.Nodes]),(1006,some<|.box j 67 [.fn 40 [.ptr 1000 m 0 0,.ptr 1002 q 0 0,.ptr 1005 l 0 0,.ptr 1006 j 0 0]])]) (bl _<|xH b9 ar)<|by exact⟨rB false,[(1000,some<|.box m 68 [.mref 1001 A]),(1001,some<|.md A<|AJ RV.bool w7),(1002,some<|.box q 67 [.fn 24 [.ptr 1003 w 0 0]]),(1003,some<|.box w 63 [.yld 1004 B]),(1004,some<|.cal B F w8),(1005,some<|.box l 24 [qb E.Nodes]),(1006,some<|.box j 67 [.fn 40 [.ptr 1000 m 0 0,.ptr 1002 q 0 0,.ptr 1005 l 0 0,.ptr 1006 j 0 0]])],R,⟨.inr R,.inr R,.inr R,.inr R,.inr R,.inr R,.inr R,Za⟩,R,R,AH [],R,R⟩
  refine Zc<|cs _<|aG [3,4,5,9,42,43,44] [5,9,1000,1001,1002,1003,1004,1005,1006] ?_
  exact aR<|AE ar λd4 bc cy=>xA R bc<|mM R<|Zh<|D0.mk cy (AH [n4]) wk
 exact Zm<|au _ _ wk<|J1 _ _ (AH [(i4 0)])<|xH b9 ao
theorem eW(n:Nat):∀ {F:List (List RV)→Option Bool} {I:List (Int × Bool)} {C:List (List RV)} {E:AN} {v1:Ab} {r:Bool × (List<|Int × Bool) × (List<|List RV)} {j:Nat} {w:Nat} {l:Nat} {A:Nat} {B:Nat} {m:Nat} {q:Nat} {J:Ec},G0 n F I C E v1=some r→(J.P=prog∧J.A=F)→Ax prog 40 7 [.agg<|Bj v1,.ptr 1000 j 0 0,.ptr 1002 l 0 0,.ptr 1005 m 0 0,.ptr 1006 q 0 0] [(1000,some<|.box j 68 [.mref 1001 w]),(1001,some<|.md w<|AJ RV.bool I),(1002,some<|.box l 67 [.fn 24 [.ptr 1003 A 0 0]]),(1003,some<|.box A 63 [.yld 1004 B]),(1004,some<|.cal B J C),(1005,some<|.box m 24 [qb E.Nodes]),(1006,some<|.box q 67 [.fn 40 [.ptr 1000 j 0 0,.ptr 1002 l 0 0,.ptr 1005 m 0 0,.ptr 1006 q 0 0]])] (λM h'=>∃(i:Nat→Nat),M=rB r.1∧h'=[(1000,some<|.box j 68 [.mref 1001 w]),(1001,some<|.md w<|AJ RV.bool r.2.1),(1002,some<|.box l 67 [.fn 24 [.ptr 1003 A 0 0]]),(1003,some<|.box A 63 [.yld 1004 B]),(1004,some<|.cal B J r.2.2),(1005,some<|.box m 24 [qb E.Nodes]),(1006,some<|.box q 67 [.fn 40 [.ptr 1000 j 0 0,.ptr 1002 l 0 0,.ptr 1005 m 0 0,.ptr 1006 q 0 0]])]):=by
 induction n with
 | zero=>intro F I C E v1 r j w l A B m q J h;exact absurd (show(none:Option (Bool × (List<|Int × Bool) × (List<|List RV)))=some r from h)<|by simp
 | succ n O=>intro F I C E v1 r j w l A B m q J h T;exact dZ (self:=λF I C E v1=>G0 n F I C E v1) (λU V=>O U V) h T
theorem kf{I:List (List RV)→Option Bool}{J:List (Int × Bool)}{C:List (List RV)}{E:AN}{v1:Ab}{r:Bool × (List<|Int × Bool) × (List<|List RV)}{j:Nat}{w:Nat}{l:Nat}{A:Nat}{B:Nat}{m:Nat}{q:Nat}{F:Ec}(h:PB I J C E v1=some r)(O:F.P=prog∧F.A=I):Ax prog 40 7 [.agg<|Bj v1,.ptr 1000 j 0 0,.ptr 1002 l 0 0,.ptr 1005 m 0 0,.ptr 1006 q 0 0] [(1000,some<|.box j 68 [.mref 1001 w]),(1001,some<|.md w<|AJ RV.bool J),(1002,some<|.box l 67 [.fn 24 [.ptr 1003 A 0 0]]),(1003,some<|.box A 63 [.yld 1004 B]),(1004,some<|.cal B F C),(1005,some<|.box m 24 [qb E.Nodes]),(1006,some<|.box q 67 [.fn 40 [.ptr 1000 j 0 0,.ptr 1002 l 0 0,.ptr 1005 m 0 0,.ptr 1006 q 0 0]])] (λT h'=>∃(i:Nat→Nat),T=rB r.1∧h'=[(1000,some<|.box j 68 [.mref 1001 w]),(1001,some<|.md w<|AJ RV.bool r.2.1),(1002,some<|.box l 67 [.fn 24 [.ptr 1003 A 0 0]]),(1003,some<|.box A 63 [.yld 1004 B]),(1004,some<|.cal B F r.2.2),(1005,some<|.box m 24 [qb E.Nodes]),(1006,some<|.box q 67 [.fn 40 [.ptr 1000 j 0 0,.ptr 1002 l 0 0,.ptr 1005 m 0 0,.ptr 1006 q 0 0]])]):=by
 unfold PB at h
 by_cases M:∃n r,G0 n I J C E v1=some r
 ·rw[qD M] at h;exact eW _ h O
 ·rw[qw M] at h;cases h
theorem ku{C:List (List RV)→Option Bool}{w:List (List RV)}{d1:AN}{r:(List<|List RV)}{l:Nat}{j:Nat}{q:Ec}(h:MF C w d1=some r)(F:q.P=prog∧q.A=C):Ax prog 23 2 [.agg [qb d1.Nodes],.fn 24 [.ptr 1000 l 0 0]] [(1000,some<|.box l 63 [.yld 1001 j]),(1001,some<|.cal j q w)] (λA h'=>∃(i:Nat→Nat),A=.tup []∧h'=[(1000,some<|.box l 63 [.yld 1001 j]),(1001,some<|.cal j q r)]):=by
 unfold MF at h
 refine DV func23 R R ntmps23 (Zq R) λm=>aU<|sS R (Aw (cs:=[qb d1.Nodes]) 2 R iL R R)<|sS R (Aw (cs:=[.fn 24 [.ptr 1000 l 0 0]]) 3 R iL R R)<|aZ<|aU<|sS R (Jn RV.bool 6 R)<|sS R (BB (cs:=[.cst<|.map none]) 4 R MJ R R)<|Zj R R (Az (ds:=[.mref 6<|m+2]) R My iL R iL R R R R)<|aZ<|aU<|sS R (BB (cs:=[.cst<|.nilFunc]) 5 R Qu R R)<|aZ<|aT λI=>aR ?_
 refine sQ R (HD (bs:=[.ptr 4 (m+3) 0 0,.ptr 3 (m+1) 0 0,.ptr 2 m 0 0,.ptr 5 (m+4) 0 0]) R<|by exact⟨iL,iL,iL,iL,Za⟩) ?_
 refine Zj R R (Az (ds:=[.fn 40 [.ptr 4 (m+3) 0 0,.ptr 3 (m+1) 0 0,.ptr 2 m 0 0,.ptr 5 (m+4) 0 0]]) R SE iL R iL R R R R)<|aZ<|I _<|aR<|sQ R (AU (a:=.fn 40 [.ptr 4 (m+3) 0 0,.ptr 3 (m+1) 0 0,.ptr 2 m 0 0,.ptr 5 (m+4) 0 0]) R E0 iL R R) ?_
 refine sQ R (Bq R F0 (q:=[(0,_),(1,_),(2,_)]) (by exact⟨R,R,R,iL,R,R,R,iL,R,R,R,iL,Za⟩) (cs:=[rI 1,rI 0,rB true])<|by rfl) ?_
 refine E9 h λO T E B J=>?_
 refine Zw [4,6,3,1000,1001,2,5] (hc:=[(1000,some<|.box (m+3) 68 [.mref 1001<|m+2]),(1001,some<|.md (m+2)<|AJ RV.bool ([]:List (Int × Bool))),(1002,some<|.box (m+1) 67 [.fn 24 [.ptr 1003 l 0 0]]),(1003,some<|.box l 63 [.yld 1004 j]),(1004,some<|.cal j q w),(1005,some<|.box m 24 [qb d1.Nodes]),(1006,some<|.box (m+4) 67 [.fn 40 [.ptr 1000 (m+3) 0 0,.ptr 1002 (m+1) 0 0,.ptr 1005 m 0 0,.ptr 1006 (m+4) 0 0]])]) (bs:=[.agg [rI 1,rI 0,rB true]]) (caps:=[.ptr 1000 (m+3) 0 0,.ptr 1002 (m+1) 0 0,.ptr 1005 m 0 0,.ptr 1006 (m+4) 0 0]) R R R R iL R ⟨.inl ⟨iL,R⟩,Za⟩ ⟨R,R,R,R,R,R,R,R,R,R,R,R,R,R,R,R,R,R,R,R,R,Za⟩ (by decide) (kf B F) ?_
 intro U M
 refine BU [0,1,2,3,4,5,6,7,8,9,10] [2,3,4,5,6,1000,1001] ?_
 refine Zh ?_
 exact ZA (s':=⟨[],[(1000,some<|.box l 63 [.yld 1001 j]),(1001,some<|.cal j q E)],M,11⟩) wk<|Bf (λ(r:(List<|List RV)) A h'=>∃(i:Nat→Nat),A=.tup []∧h'=[(1000,some<|.box l 63 [.yld 1001 j]),(1001,some<|.cal j q r)]) J<|by exact⟨.tup [],[(1000,some<|.box l 63 [.yld 1001 j]),(1001,some<|.cal j q E)],⟨_,R,Za⟩,⟨.inr R,.inr R,Za⟩,R,R,AH [],R,R⟩
theorem Yx{I:List (List RV)→Option Bool}{m:List (List RV)}{w:AN}{r:(List<|List RV)}{j:Nat}{l:Nat}{q:Ec}(h:FN I m w=some r)(M:q.P=prog∧q.A=I):Ax prog 22 2 [.yld 1000 j,.ptr 1001 l 0 0] [(1000,some<|.cal j q m),(1001,some<|.box l 24 [qb w.Nodes])] (λA h'=>∃(i:Nat→Nat),A=.tup []∧h'=[(1000,some<|.cal j q r),(1001,some<|.box l 24 [qb w.Nodes])]):=by
 unfold FN at h
 refine DV func22 R R ntmps22 (Zq R) λB=>aU<|sS R (Aw (cs:=[.yld 1000 j]) 2 R iL R R)<|aZ<|aT λO=>aU<|xC B7 R<|AE h λX C T=>cL (PQ<|C) R<|xU R<|aZ<|cI R T (λE=>?_) λE=>?_
 ·exact Zi<|ZA (s':=⟨[],[(1000,some<|.cal j q m),(1001,some<|.box l 24 [qb w.Nodes])],(B+1),9⟩) wk<|Bf (λ(r:(List<|List RV)) A h'=>∃(i:Nat→Nat),A=.tup []∧h'=[(1000,some<|.cal j q r),(1001,some<|.box l 24 [qb w.Nodes])]) E<|by exact⟨.tup [],[(1000,some<|.cal j q m),(1001,some<|.box l 24 [qb w.Nodes])],⟨_,R,Za⟩,⟨.inr R,.inr R,Za⟩,R,R,AH [],R,R⟩
 refine Zc<|O _<|aR<|xC B7 R ?_
 refine sQ R (HD (bs:=[.ptr 2 B 0 0]) R<|by exact⟨iL,Za⟩) ?_
 refine AE E λJ F U=>?_
 refine Zw [2,1000] (hc:=[(1000,some<|.box B 63 [.yld 1001 j]),(1001,some<|.cal j q m)]) (bs:=[.agg [qb w.Nodes],.fn 24 [.ptr 1000 B 0 0]]) (caps:=[]) R R R R iL R ⟨.inl ⟨iL,R⟩,.inl ⟨iL,R⟩,Za⟩ ⟨R,R,R,R,R,R,Za⟩ (by decide) (ku F M) ?_
 intro Z V
 refine BU [0,1,2,3,4,5,6,7,8] [2,1000,1001] ?_
 refine Zh ?_
 exact ZA (s':=⟨[],[(1000,some<|.cal j q J),(1001,some<|.box l 24 [qb w.Nodes])],V,9⟩) wk<|Bf (λ(r:(List<|List RV)) A h'=>∃(i:Nat→Nat),A=.tup []∧h'=[(1000,some<|.cal j q r),(1001,some<|.box l 24 [qb w.Nodes])]) U<|by exact⟨.tup [],[(1000,some<|.cal j q J),(1001,some<|.box l 24 [qb w.Nodes])],⟨_,R,Za⟩,⟨.inr R,.inr R,Za⟩,R,R,AH [],R,R⟩
theorem iF{m:List (Int × Bool)}{v1:Ab}{r:Bool × (List<|Int × Bool)}{l:Nat}{j:Nat}(h:Hc m v1=some r):Ax prog 25 2 [.agg<|Bj v1,.ptr 1000 l 0 0] [(1000,some<|.box l 68 [.mref 1001 j]),(1001,some<|.md j<|AJ RV.bool m)] (λq h'=>∃(i:Nat→Nat),q=rB r.1∧h'=[(1000,some<|.box l 68 [.mref 1001 j]),(1001,some<|.md j<|AJ RV.bool r.2)]):=by
 unfold Hc at h
 refine DV func25 R R ntmps25 (Zq R) λw=>aU<|sS R (Aw (cs:=(Bj v1)) 2 R iL R R)<|mA R<|aZ<|aU<|sQ R (AU (a:=.mref 1001 j) R G3 iL R R)<|lF DT AI R R<|Zj R R (Il (rd:=RV.bool) (a:=true) iL underlying68 underlying3 iL iL iL R)<|aZ<|aU<|mA R<|aZ ?_
 exact Zi<|ZA (s':=⟨[(3,rB true)],[(1000,some<|.box l 68 [.mref 1001 j]),(1001,some<|.md j<|AJ RV.bool<|Ai m v1.id true)],(w+1),7⟩) wk<|Bf (λ(r:Bool × (List<|Int × Bool)) q h'=>∃(i:Nat→Nat),q=rB r.1∧h'=[(1000,some<|.box l 68 [.mref 1001 j]),(1001,some<|.md j<|AJ RV.bool r.2)]) h<|by exact⟨rB true,[(1000,some<|.box l 68 [.mref 1001 j]),(1001,some<|.md j<|AJ RV.bool<|Ai m v1.id true)],R,⟨.inr R,.inr R,Za⟩,R,R,AH [],R,R⟩
theorem fh{self:(List<|Int × Bool)→(List<|Int × Bool)→AN→Ab→Option (Bool × (List<|Int × Bool) × (List<|Int × Bool))}(O:∀ {m1:List (Int × Bool)} {m2:List (Int × Bool)} {E:AN} {v1:Ab} {r:Bool × (List<|Int × Bool) × (List<|Int × Bool)} {m:Nat} {A:Nat} {q:Nat} {w:Nat} {B:Nat} {l:Nat} {j:Nat},self m1 m2 E v1=some r→Ax prog 40 7 [.agg<|Bj v1,.ptr 1000 m 0 0,.ptr 1002 q 0 0,.ptr 1005 l 0 0,.ptr 1006 j 0 0] [(1000,some<|.box m 68 [.mref 1001 A]),(1001,some<|.md A<|AJ RV.bool m1),(1002,some<|.box q 67 [.fn 25 [.ptr 1003 w 0 0]]),(1003,some<|.box w 68 [.mref 1004 B]),(1004,some<|.md B<|AJ RV.bool m2),(1005,some<|.box l 24 [qb E.Nodes]),(1006,some<|.box j 67 [.fn 40 [.ptr 1000 m 0 0,.ptr 1002 q 0 0,.ptr 1005 l 0 0,.ptr 1006 j 0 0]])] (λT h'=>∃(i:Nat→Nat),T=rB r.1∧h'=[(1000,some<|.box m 68 [.mref 1001 A]),(1001,some<|.md A<|AJ RV.bool r.2.1),(1002,some<|.box q 67 [.fn 25 [.ptr 1003 w 0 0]]),(1003,some<|.box w 68 [.mref 1004 B]),(1004,some<|.md B<|AJ RV.bool r.2.2),(1005,some<|.box l 24 [qb E.Nodes]),(1006,some<|.box j 67 [.fn 40 [.ptr 1000 m 0 0,.ptr 1002 q 0 0,.ptr 1005 l 0 0,.ptr 1006 j 0 0]])])){m1:List (Int × Bool)}{m2:List (Int × Bool)}{E:AN}{v1:Ab}{r:Bool × (List<|Int × Bool) × (List<|Int × Bool)}{m:Nat}{A:Nat}{q:Nat}{w:Nat}{B:Nat}{l:Nat}{j:Nat}(h:P5 self m1 m2 E v1=some r):Ax prog 40 7 [.agg<|Bj v1,.ptr 1000 m 0 0,.ptr 1002 q 0 0,.ptr 1005 l 0 0,.ptr 1006 j 0 0] [(1000,some<|.box m 68 [.mref 1001 A]),(1001,some<|.md A<|AJ RV.bool m1),(1002,some<|.box q 67 [.fn 25 [.ptr 1003 w 0 0]]),(1003,some<|.box w 68 [.mref 1004 B]),(1004,some<|.md B<|AJ RV.bool m2),(1005,some<|.box l 24 [qb E.Nodes]),(1006,some<|.box j 67 [.fn 40 [.ptr 1000 m 0 0,.ptr 1002 q 0 0,.ptr 1005 l 0 0,.ptr 1006 j 0 0]])] (λT h'=>∃(i:Nat→Nat),T=rB r.1∧h'=[(1000,some<|.box m 68 [.mref 1001 A]),(1001,some<|.md A<|AJ RV.bool r.2.1),(1002,some<|.box q 67 [.fn 25 [.ptr 1003 w 0 0]]),(1003,some<|.box w 68 [.mref 1004 B]),(1004,some<|.md B<|AJ RV.bool r.2.2),(1005,some<|.box l 24 [qb E.Nodes]),(1006,some<|.box j 67 [.fn 40 [.ptr 1000 m 0 0,.ptr 1002 q 0 0,.ptr 1005 l 0 0,.ptr 1006 j 0 0]])]):=by
 unfold P5 at h
 refine DV func40 R R ntmps40 (Zq R) λM=>aU<|sS R (Aw (cs:=(Bj v1)) 5 R iL R R)<|mA R<|aZ<|aT λc2=>aU<|sQ R (AU (a:=.mref 1001 A) R G3 iL R R)<|lF DT AI R R<|sQ R (I0 (rd:=RV.bool) false (.bool false) false R underlying68 underlying3 (F2 KH) (λ_ _=>.bool _) (.inl R) (.inl R) R)<|aZ<|cI R h (λh1=>?_) λh1=>?_
 ·refine aT λc4=>aG [] [1000,1001,1002,1003,1004,1005,1006] ?_
  refine aR<|mA R<|oZ c4 ?_
  exact Zi<|ZA (s':=⟨[(6,rB true)],[(1000,some<|.box m 68 [.mref 1001 A]),(1001,some<|.md A<|AJ RV.bool m1),(1002,some<|.box q 67 [.fn 25 [.ptr 1003 w 0 0]]),(1003,some<|.box w 68 [.mref 1004 B]),(1004,some<|.md B<|AJ RV.bool m2),(1005,some<|.box l 24 [qb E.Nodes]),(1006,some<|.box j 67 [.fn 40 [.ptr 1000 m 0 0,.ptr 1002 q 0 0,.ptr 1005 l 0 0,.ptr 1006 j 0 0]])],(M+1),121⟩) wk<|Bf (λ(r:Bool × (List<|Int × Bool) × (List<|Int × Bool)) T h'=>∃(i:Nat→Nat),T=rB r.1∧h'=[(1000,some<|.box m 68 [.mref 1001 A]),(1001,some<|.md A<|AJ RV.bool r.2.1),(1002,some<|.box q 67 [.fn 25 [.ptr 1003 w 0 0]]),(1003,some<|.box w 68 [.mref 1004 B]),(1004,some<|.md B<|AJ RV.bool r.2.2),(1005,some<|.box l 24 [qb E.Nodes]),(1006,some<|.box j 67 [.fn 40 [.ptr 1000 m 0 0,.ptr 1002 q 0 0,.ptr 1005 l 0 0,.ptr 1006 j 0 0]])]) h1<|by exact⟨rB true,[(1000,some<|.box m 68 [.mref 1001 A]),(1001,some<|.md A<|AJ RV.bool m1),(1002,some<|.box q 67 [.fn 25 [.ptr 1003 w 0 0]]),(1003,some<|.box w 68 [.mref 1004 B]),(1004,some<|.md B<|AJ RV.bool m2),(1005,some<|.box l 24 [qb E.Nodes]),(1006,some<|.box j 67 [.fn 40 [.ptr 1000 m 0 0,.ptr 1002 q 0 0,.ptr 1005 l 0 0,.ptr 1006 j 0 0]])],R,⟨.inr R,.inr R,.inr R,.inr R,.inr R,.inr R,.inr R,Za⟩,R,R,AH [],R,R⟩
 refine Zc<|c2 _<|aU<|sQ R (AU (a:=.mref 1001 A) R G3 iL R R)<|lF DT AI R R<|Zj R R (Il (rd:=RV.bool) (a:=true) iL underlying68 underlying3 iL iL iL R)<|aZ<|aT λc6=>aT λc7=>aG [2,3,4,5] [5,1000,1001,1002,1003,1004,1005,1006] ?_
 refine aR<|sQ R (AU (a:=.fn 25 [.ptr 1003 w 0 0]) R E0 iL R R)<|xC SG R<|Ee h1 λr1 w2 be h2=>?_
 refine Zw [1003,1004] (hc:=[(1000,some<|.box w 68 [.mref 1001 B]),(1001,some<|.md B<|AJ RV.bool m2)]) (bs:=[.agg<|Bj v1]) (caps:=[.ptr 1000 w 0 0]) R R R R iL R ⟨.inl ⟨iL,R⟩,Za⟩ ⟨R,R,R,R,R,R,Za⟩ (by decide) (iF be) ?_
 intro i1 U
 refine BU [2,3,4,5,24,25,26] [5,1000,1001,1002,1003,1004,1005,1006] ?_
 refine sQ R (A4 R iL)<|aZ<|c7 _<|cI R h2 (λh3=>?_) λh3=>?_
 ·refine aU<|mA R<|aZ ?_
  exact Zi<|ZA (s':=⟨[(6,rB false)],[(1000,some<|.box m 68 [.mref 1001 A]),(1001,some<|.md A<|AJ RV.bool<|Ai m1 v1.id true),(1002,some<|.box q 67 [.fn 25 [.ptr 1003 w 0 0]]),(1003,some<|.box w 68 [.mref 1004 B]),(1004,some<|.md B<|AJ RV.bool w2),(1005,some<|.box l 24 [qb E.Nodes]),(1006,some<|.box j 67 [.fn 40 [.ptr 1000 m 0 0,.ptr 1002 q 0 0,.ptr 1005 l 0 0,.ptr 1006 j 0 0]])],U,121⟩) wk<|Bf (λ(r:Bool × (List<|Int × Bool) × (List<|Int × Bool)) T h'=>∃(i:Nat→Nat),T=rB r.1∧h'=[(1000,some<|.box m 68 [.mref 1001 A]),(1001,some<|.md A<|AJ RV.bool r.2.1),(1002,some<|.box q 67 [.fn 25 [.ptr 1003 w 0 0]]),(1003,some<|.box w 68 [.mref 1004 B]),(1004,some<|.md B<|AJ RV.bool r.2.2),(1005,some<|.box l 24 [qb E.Nodes]),(1006,some<|.box j 67 [.fn 40 [.ptr 1000 m 0 0,.ptr 1002 q 0 0,.ptr 1005 l 0 0,.ptr 1006 j 0 0]])]) h3<|by exact⟨rB false,[(1000,some<|.box m 68 [.mref 1001 A]),(1001,some<|.md A<|AJ RV.bool<|Ai m1 v1.id true),(1002,some<|.box q 67 [.fn 25 [.ptr 1003 w 0 0]]),(1003,some<|.box w 68 [.mref 1004 B]),(1004,some<|.md B<|AJ RV.bool w2),(1005,some<|.box l 24 [qb E.Nodes]),(1006,some<|.box j 67 [.fn 40 [.ptr 1000 m 0 0,.ptr 1002 q 0 0,.ptr 1005 l 0 0,.ptr 1006 j 0 0]])],R,⟨.inr R,.inr R,.inr R,.inr R,.inr R,.inr R,.inr R,Za⟩,R,R,AH [],R,R⟩
 refine Zc<|c6 _<|aU<|xC B7 R<|lF DT AI R R<|Ee h3 λr2 r3 bf h4=>cL (OU<|bf) R<|mM R<|xX R<|xX R<|mA R<|mA R<|aZ<|aT λbg=>aG [3,4,5,7] [5,1000,1001,1002,1003,1004,1005,1006] ?_
 refine aR<|lF B8 B6 R R<|mM R<|AE h4 λI bh h5=>xI Bh R bh<|xB ((At I)) DO R<|sS R (BB (cs:=FT) 9 R Hs R R)<|Zj R R (Az (ds:=(At I)) R Gw iL R iL R R R R)<|aZ<|bg _<|aS λbi bj av=>aU<|lF EH EN R R<|AE h5 λr4 bk h6=>sS R (Cb (r:=.r<|.sl<|r4.map<|AY .i64) (caps:=[]) (bs:=[qe I.Flow]) R iL R ⟨.inl ⟨iL,R⟩,Za⟩ λ_=>So<|bk)<|xL BL R<|mM R<|aZ<|Zf<|HQ h6 λo1 aw bl bm=>?_
 have J1:∀(m9:List (Int × Bool)) (ac:List (Int × Bool)) (i6:NN),o1=.nrm (m9,ac)→bi ⟨[(3,.ptr 1005 l 0 0),(4,.ptr 1006 j 0 0),(5,.ptr 5 M 0 0),(9,.ptr 9 U 0 0)],[(5,some<|.box M 66<|Bj v1),(9,some<|.box U 47<|At I),(1000,some<|.box m 68 [.mref 1001 A]),(1001,some<|.md A<|AJ RV.bool m9),(1002,some<|.box q 67 [.fn 25 [.ptr 1003 w 0 0]]),(1003,some<|.box w 68 [.mref 1004 B]),(1004,some<|.md B<|AJ RV.bool ac),(1005,some<|.box l 24 [qb E.Nodes]),(1006,some<|.box j 67 [.fn 40 [.ptr 1000 m 0 0,.ptr 1002 q 0 0,.ptr 1005 l 0 0,.ptr 1006 j 0 0]])],(i6 0),121⟩:=by
  intro m9 ac i6 e
  have h7:=bl _ _ e
  refine bj _<|aS λbn bo ax=>aU<|sQ R (fB R DF iL fR R)<|lF DS Dc R R<|xL Bm R<|mM R<|aZ<|Zf<|HQ h7 λo2 ay bp bq=>?_
  have J2:∀(ad:List (Int × Bool)) (ae:List (Int × Bool)) (af:NN),o2=.nrm (ad,ae)→bn ⟨[(3,.ptr 1005 l 0 0),(4,.ptr 1006 j 0 0),(5,.ptr 5 M 0 0),(9,.ptr 9 U 0 0)],[(5,some<|.box M 66<|Bj v1),(9,some<|.box U 47<|At I),(1000,some<|.box m 68 [.mref 1001 A]),(1001,some<|.md A<|AJ RV.bool ad),(1002,some<|.box q 67 [.fn 25 [.ptr 1003 w 0 0]]),(1003,some<|.box w 68 [.mref 1004 B]),(1004,some<|.md B<|AJ RV.bool ae),(1005,some<|.box l 24 [qb E.Nodes]),(1006,some<|.box j 67 [.fn 40 [.ptr 1000 m 0 0,.ptr 1002 q 0 0,.ptr 1005 l 0 0,.ptr 1006 j 0 0]])],(af 0),121⟩:=by
   intro ad ae af e
   have h8:=bp _ _ e
   refine bo _<|aS λbr bs az=>aU<|xC B7 R<|xC DO R<|AE h8 λr5 bt h9=>sS R (Cb (r:=.r<|.sl<|r5.map<|AY .i64) (caps:=[]) (bs:=[.agg [qb E.Nodes],.agg<|At I]) R iL R ⟨.inl ⟨iL,R⟩,.inl ⟨iL,R⟩,Za⟩ λ_=>SW<|bt)<|xL BL R<|mM R<|aZ<|Zf<|HQ h9 λo3 b0 bu bv=>?_
   have J3:∀(X:List (Int × Bool)) (Z:List (Int × Bool)) (i16:NN),o3=.nrm (X,Z)→br ⟨[],[(1000,some<|.box m 68 [.mref 1001 A]),(1001,some<|.md A<|AJ RV.bool X),(1002,some<|.box q 67 [.fn 25 [.ptr 1003 w 0 0]]),(1003,some<|.box w 68 [.mref 1004 B]),(1004,some<|.md B<|AJ RV.bool Z),(1005,some<|.box l 24 [qb E.Nodes]),(1006,some<|.box j 67 [.fn 40 [.ptr 1000 m 0 0,.ptr 1002 q 0 0,.ptr 1005 l 0 0,.ptr 1006 j 0 0]])],(i16 0),121⟩:=by
    intro X Z i16 e
    have bw:=bu _ _ e
    refine bs _<|aU<|mA R<|aZ ?_
    exact Zi<|ZA (s':=⟨[(6,rB true)],[(1000,some<|.box m 68 [.mref 1001 A]),(1001,some<|.md A<|AJ RV.bool X),(1002,some<|.box q 67 [.fn 25 [.ptr 1003 w 0 0]]),(1003,some<|.box w 68 [.mref 1004 B]),(1004,some<|.md B<|AJ RV.bool Z),(1005,some<|.box l 24 [qb E.Nodes]),(1006,some<|.box j 67 [.fn 40 [.ptr 1000 m 0 0,.ptr 1002 q 0 0,.ptr 1005 l 0 0,.ptr 1006 j 0 0]])],(i16 0),121⟩) wk<|Bf (λ(r:Bool × (List<|Int × Bool) × (List<|Int × Bool)) T h'=>∃(i:Nat→Nat),T=rB r.1∧h'=[(1000,some<|.box m 68 [.mref 1001 A]),(1001,some<|.md A<|AJ RV.bool r.2.1),(1002,some<|.box q 67 [.fn 25 [.ptr 1003 w 0 0]]),(1003,some<|.box w 68 [.mref 1004 B]),(1004,some<|.md B<|AJ RV.bool r.2.2),(1005,some<|.box l 24 [qb E.Nodes]),(1006,some<|.box j 67 [.fn 40 [.ptr 1000 m 0 0,.ptr 1002 q 0 0,.ptr 1005 l 0 0,.ptr 1006 j 0 0]])]) bw<|by exact⟨rB true,[(1000,some<|.box m 68 [.mref 1001 A]),(1001,some<|.md A<|AJ RV.bool X),(1002,some<|.box q 67 [.fn 25 [.ptr 1003 w 0 0]]),(1003,some<|.box w 68 [.mref 1004 B]),(1004,some<|.md B<|AJ RV.bool Z),(1005,some<|.box l 24 [qb E.Nodes]),(1006,some<|.box j 67 [.fn 40 [.ptr 1000 m 0 0,.ptr 1002 q 0 0,.ptr 1005 l 0 0,.ptr 1006 j 0 0]])],R,⟨.inr R,.inr R,.inr R,.inr R,.inr R,.inr R,.inr R,Za⟩,R,R,AH [],R,R⟩
   refine FI (λ(x9:Int) (a2:List (Int × Bool)) (a6:List (Int × Bool)) ag=>⟨[(4,.ptr 1006 j 0 0),(5,.ptr 5 M 0 0),(105,.r<|.sl<|r5.map<|AY .i64),(106,rL r5),(107,rI x9)],[(5,some<|.box M 66<|Bj v1),(1000,some<|.box m 68 [.mref 1001 A]),(1001,some<|.md A<|AJ RV.bool a2),(1002,some<|.box q 67 [.fn 25 [.ptr 1003 w 0 0]]),(1003,some<|.box w 68 [.mref 1004 B]),(1004,some<|.md B<|AJ RV.bool a6),(1005,some<|.box l 24 [qb E.Nodes]),(1006,some<|.box j 67 [.fn 40 [.ptr 1000 m 0 0,.ptr 1002 q 0 0,.ptr 1005 l 0 0,.ptr 1006 j 0 0]])],(ag 0),121⟩) (AH [(af 0)]) b0 wk ?_
   intro x9 a2 a6 ag v2 bx b1
   have b2:Sl E v1 self r5 x9 a2 a6=some v2:=bx;unfold Sl at b2
   refine aU<|xS R<|aZ<|aT λbz=>cI R b2 (λah=>?_) λah=>?_
   ·refine Zc<|bz _<|aT λc0=>Zf<|aU<|AE ah λai b3 c1=>xI BL R b3<|xV (.int .i64 ai) AI R<|mA R<|aZ<|aT λc3=>aR<|sQ R (AU (a:=.fn 40 [.ptr 1000 m 0 0,.ptr 1002 q 0 0,.ptr 1005 l 0 0,.ptr 1006 j 0 0]) R E0 iL R R)<|mM R<|lF DT AI R R<|lF G9 Em R R ?_
    refine sQ R (Bq R F0 (q:=[(0,_),(1,_),(2,_)]) (by exact⟨R,R,R,iL,R,R,R,iL,R,R,R,iL,Za⟩) (cs:=[rI ai,rI v1.id,rB v1.visible])<|by rfl) ?_
    refine E9 c1 λr6 w3 w4 c5 c8=>?_
    refine Zw [1000,1001,1002,1003,1004,1005,1006] (hc:=[(1000,some<|.box m 68 [.mref 1001 A]),(1001,some<|.md A<|AJ RV.bool a2),(1002,some<|.box q 67 [.fn 25 [.ptr 1003 w 0 0]]),(1003,some<|.box w 68 [.mref 1004 B]),(1004,some<|.md B<|AJ RV.bool a6),(1005,some<|.box l 24 [qb E.Nodes]),(1006,some<|.box j 67 [.fn 40 [.ptr 1000 m 0 0,.ptr 1002 q 0 0,.ptr 1005 l 0 0,.ptr 1006 j 0 0]])]) (bs:=[.agg [rI ai,rI v1.id,rB v1.visible]]) (caps:=[.ptr 1000 m 0 0,.ptr 1002 q 0 0,.ptr 1005 l 0 0,.ptr 1006 j 0 0]) R R R R iL R ⟨.inl ⟨iL,R⟩,Za⟩ ⟨R,R,R,R,R,R,R,R,R,R,R,R,R,R,R,R,R,R,R,R,R,Za⟩ (by decide) (O c5) ?_
    intro d0 n2
    refine BU [4,5,16,105,106,107,108,109,110,111,112,113,114,115,116,117,118] [5,1000,1001,1002,1003,1004,1005,1006] ?_
    refine sQ R (A4 R iL)<|aZ<|c3 _<|cI R c8 (λaj=>?_) λaj=>?_
    ·refine aT λc9=>aG [] [1000,1001,1002,1003,1004,1005,1006] ?_
     refine aR<|mA R<|oZ c9 ?_
     exact Zi<|ZA (s':=⟨[(6,rB false)],[(1000,some<|.box m 68 [.mref 1001 A]),(1001,some<|.md A<|AJ RV.bool w3),(1002,some<|.box q 67 [.fn 25 [.ptr 1003 w 0 0]]),(1003,some<|.box w 68 [.mref 1004 B]),(1004,some<|.md B<|AJ RV.bool w4),(1005,some<|.box l 24 [qb E.Nodes]),(1006,some<|.box j 67 [.fn 40 [.ptr 1000 m 0 0,.ptr 1002 q 0 0,.ptr 1005 l 0 0,.ptr 1006 j 0 0]])],n2,121⟩) wk<|Bf (λ(r:Bool × (List<|Int × Bool) × (List<|Int × Bool)) T h'=>∃(i:Nat→Nat),T=rB r.1∧h'=[(1000,some<|.box m 68 [.mref 1001 A]),(1001,some<|.md A<|AJ RV.bool r.2.1),(1002,some<|.box q 67 [.fn 25 [.ptr 1003 w 0 0]]),(1003,some<|.box w 68 [.mref 1004 B]),(1004,some<|.md B<|AJ RV.bool r.2.2),(1005,some<|.box l 24 [qb E.Nodes]),(1006,some<|.box j 67 [.fn 40 [.ptr 1000 m 0 0,.ptr 1002 q 0 0,.ptr 1005 l 0 0,.ptr 1006 j 0 0]])]) (bv _<|xH b1 aj)<|by exact⟨rB false,[(1000,some<|.box m 68 [.mref 1001 A]),(1001,some<|.md A<|AJ RV.bool w3),(1002,some<|.box q 67 [.fn 25 [.ptr 1003 w 0 0]]),(1003,some<|.box w 68 [.mref 1004 B]),(1004,some<|.md B<|AJ RV.bool w4),(1005,some<|.box l 24 [qb E.Nodes]),(1006,some<|.box j 67 [.fn 40 [.ptr 1000 m 0 0,.ptr 1002 q 0 0,.ptr 1005 l 0 0,.ptr 1006 j 0 0]])],R,⟨.inr R,.inr R,.inr R,.inr R,.inr R,.inr R,.inr R,Za⟩,R,R,AH [],R,R⟩
    refine Zc<|c0 _<|aG [4,5,105,106,107] [5,1000,1001,1002,1003,1004,1005,1006] ?_
    exact aR<|AE aj λd1 b4 ca=>xA R b4<|mM R<|Zh<|D0.mk ca (AH [n2]) wk
   exact Zm<|az _ _ wk<|J3 _ _ (AH [(ag 0)])<|xH b1 ah
  refine FI (λ(x6:Int) (a7:List (Int × Bool)) (a8:List (Int × Bool)) V=>⟨[(3,.ptr 1005 l 0 0),(4,.ptr 1006 j 0 0),(5,.ptr 5 M 0 0),(9,.ptr 9 U 0 0),(60,qc I.Grid.Cells),(61,rL I.Grid.Cells),(62,rI x6)],[(5,some<|.box M 66<|Bj v1),(9,some<|.box U 47<|At I),(1000,some<|.box m 68 [.mref 1001 A]),(1001,some<|.md A<|AJ RV.bool a7),(1002,some<|.box q 67 [.fn 25 [.ptr 1003 w 0 0]]),(1003,some<|.box w 68 [.mref 1004 B]),(1004,some<|.md B<|AJ RV.bool a8),(1005,some<|.box l 24 [qb E.Nodes]),(1006,some<|.box j 67 [.fn 40 [.ptr 1000 m 0 0,.ptr 1002 q 0 0,.ptr 1005 l 0 0,.ptr 1006 j 0 0]])],(V 0),121⟩) (AH [(i6 0)]) ay wk ?_
  intro x6 a7 a8 V v3 cb b5
  have b6:Ss E v1 self I x6 a7 a8=some v3:=cb;unfold Ss at b6
  refine aU<|xS R<|aZ<|aT λcc=>cI R b6 (λak=>?_) λak=>?_
  ·refine Zc<|cc _<|aT λcd=>Zf<|aU<|AE ak λC b7 cf=>xI Bm R b7<|xB ((BN C)) Dy R<|sS R (BB (cs:=GD) 13 R GE R R)<|Zj R R (Az (ds:=(BN C)) R GO iL R iL R R R R)<|aZ<|aU<|sQ R (fB R DF iL fR R)<|sQ R (GL (ds:=(Bs I.Grid)) R Fm iL R R R)<|lF Dg AI R R<|lF Dt AI R R<|AE cf λF cg ch=>sS R (Cb (r:=.agg<|A3 F) (caps:=[]) (bs:=[.agg<|Bs I.Grid,rI C.Row,rI C.Col]) R iL R ⟨.inl ⟨iL,R⟩,.inl ⟨iL,R⟩,.inl ⟨iL,R⟩,Za⟩ λ_=>Sw<|cg)<|sS R (BB (cs:=Ek) 14 R GS R R)<|Zj R R (Az (ds:=(A3 F)) R Fc iL R iL R R R R)<|aZ<|aS λcj ck ab=>aG [3,4,5,9,13,14,60,61,62] [5,9,13,14,1000,1001,1002,1003,1004,1005,1006] ?_
   refine aR<|lF DG AI R R<|xU R<|mM R<|vQ R (AU (a:=.fn 40 [.ptr 1000 m 0 0,.ptr 1002 q 0 0,.ptr 1005 l 0 0,.ptr 1006 j 0 0]) R E0 iL R R)<|vF DG AI R R<|vF DT AI R R<|vF G9 Em R R<|vQ R (AK R<|iR R)<|wQ R (fB R CV iL fR R)<|wQ R (AU (a:=rI F.Row) R AI (iR R) R R)<|wQ R (fB R Dg iL fR R)<|wQ R (AU (a:=rI C.Row) R AI (iR R) R R)<|wQ R (A8 R (iR R)<|iR R)<|vQ R (BK R (iR R)<|iR R)<|vQ R (AK R<|iR R)<|wQ R (fB R Cv iL fR R)<|wQ R (AU (a:=rI F.Col) R AI (iR R) R R)<|wQ R (fB R Dt iL fR R)<|wQ R (AU (a:=rI C.Col) R AI (iR R) R R)<|wQ R (A8 R (iR R)<|iR R)<|vQ R (BK R (iR R)<|iR R) ?_
   refine vQ R (Bq R F0 (q:=[(0,_),(1,_),(2,_)]) (by exact⟨R,R,R,(iR R),R,R,R,(iR R),R,R,R,(iR R),Za⟩) (cs:=[rI C.Ref,rI v1.id,rB<|((v1.visible&&(F.Row=C.Row))&&(F.Col=C.Col))])<|by rfl) ?_
   refine R6 ch λp1 b8 cl=>?_
   have J4:∀(al:Bool) (a0:List (Int × Bool)) (a1:List (Int × Bool)) (aa:NN),p1=(al,a0,a1)→cj ⟨[(3,.ptr 1005 l 0 0),(4,.ptr 1006 j 0 0),(5,.ptr 5 M 0 0),(9,.ptr 9 U 0 0),(60,qc I.Grid.Cells),(61,rL I.Grid.Cells),(62,rI x6),(101,rB al)],[(5,some<|.box M 66<|Bj v1),(9,some<|.box U 47<|At I),(1000,some<|.box m 68 [.mref 1001 A]),(1001,some<|.md A<|AJ RV.bool a0),(1002,some<|.box q 67 [.fn 25 [.ptr 1003 w 0 0]]),(1003,some<|.box w 68 [.mref 1004 B]),(1004,some<|.md B<|AJ RV.bool a1),(1005,some<|.box l 24 [qb E.Nodes]),(1006,some<|.box j 67 [.fn 40 [.ptr 1000 m 0 0,.ptr 1002 q 0 0,.ptr 1005 l 0 0,.ptr 1006 j 0 0]])],(aa 0),121⟩:=by
    intro al a0 a1 aa e
    have cm:=cl _ _ _ e
    refine ck _<|cI R cm (λan=>?_) λan=>?_
    ·refine aU<|mA R<|aZ ?_
     exact Zi<|ZA (s':=⟨[(6,rB false)],[(1000,some<|.box m 68 [.mref 1001 A]),(1001,some<|.md A<|AJ RV.bool a0),(1002,some<|.box q 67 [.fn 25 [.ptr 1003 w 0 0]]),(1003,some<|.box w 68 [.mref 1004 B]),(1004,some<|.md B<|AJ RV.bool a1),(1005,some<|.box l 24 [qb E.Nodes]),(1006,some<|.box j 67 [.fn 40 [.ptr 1000 m 0 0,.ptr 1002 q 0 0,.ptr 1005 l 0 0,.ptr 1006 j 0 0]])],(aa 0),121⟩) wk<|Bf (λ(r:Bool × (List<|Int × Bool) × (List<|Int × Bool)) T h'=>∃(i:Nat→Nat),T=rB r.1∧h'=[(1000,some<|.box m 68 [.mref 1001 A]),(1001,some<|.md A<|AJ RV.bool r.2.1),(1002,some<|.box q 67 [.fn 25 [.ptr 1003 w 0 0]]),(1003,some<|.box w 68 [.mref 1004 B]),(1004,some<|.md B<|AJ RV.bool r.2.2),(1005,some<|.box l 24 [qb E.Nodes]),(1006,some<|.box j 67 [.fn 40 [.ptr 1000 m 0 0,.ptr 1002 q 0 0,.ptr 1005 l 0 0,.ptr 1006 j 0 0]])]) (bq _<|xH b5 an)<|by exact⟨rB false,[(1000,some<|.box m 68 [.mref 1001 A]),(1001,some<|.md A<|AJ RV.bool a0),(1002,some<|.box q 67 [.fn 25 [.ptr 1003 w 0 0]]),(1003,some<|.box w 68 [.mref 1004 B]),(1004,some<|.md B<|AJ RV.bool a1),(1005,some<|.box l 24 [qb E.Nodes]),(1006,some<|.box j 67 [.fn 40 [.ptr 1000 m 0 0,.ptr 1002 q 0 0,.ptr 1005 l 0 0,.ptr 1006 j 0 0]])],R,⟨.inr R,.inr R,.inr R,.inr R,.inr R,.inr R,.inr R,Za⟩,R,R,AH [],R,R⟩
    exact Zc<|cd _<|aR<|AE an λd2 b9 cn=>xA R b9<|mM R<|Zh<|D0.mk cn (AH [(aa 0)]) wk
   refine AL.split ((!(C.Ref=0))==true) (λJ=>?_) λJ=>?_
   ·have ao:=Cd J b8
    refine AL.weak (by exact Lj (e':=[(3,.ptr 1005 l 0 0),(4,.ptr 1006 j 0 0),(5,.ptr 5 M 0 0),(9,.ptr 9 U 0 0),(13,.ptr 13 (V 0) 0 0),(14,.ptr 14 ((V 0)+1) 0 0),(60,qc I.Grid.Cells),(61,rL I.Grid.Cells),(62,rI x6),(73,.ptr 13 (V 0) 0 3),(74,rI C.Ref),(75,rB<|(!(C.Ref=0))),(76,rB<|(!(C.Ref=0))),(77,.fn 40 [.ptr 1000 m 0 0,.ptr 1002 q 0 0,.ptr 1005 l 0 0,.ptr 1006 j 0 0]),(78,.ptr 13 (V 0) 0 3),(79,rI C.Ref),(80,.ptr 5 M 0 0),(81,rI v1.id),(82,.ptr 5 M 0 2),(83,rB v1.visible),(84,rB v1.visible),(85,.whn (v1.visible==true)<|.ptr 14 ((V 0)+1) 0 0),(86,.whn (v1.visible==true)<|rI F.Row),(87,.whn (v1.visible==true)<|.ptr 13 (V 0) 0 0),(88,.whn (v1.visible==true)<|rI C.Row),(89,.whn (v1.visible==true)<|rB<|(decide<|F.Row=C.Row)),(90,rB<|(v1.visible&&(F.Row=C.Row))),(91,rB<|(v1.visible&&(F.Row=C.Row))),(92,.whn ((v1.visible&&(F.Row=C.Row))==true)<|.ptr 14 ((V 0)+1) 0 1),(93,.whn ((v1.visible&&(F.Row=C.Row))==true)<|rI F.Col),(94,.whn ((v1.visible&&(F.Row=C.Row))==true)<|.ptr 13 (V 0) 0 1),(95,.whn ((v1.visible&&(F.Row=C.Row))==true)<|rI C.Col),(96,.whn ((v1.visible&&(F.Row=C.Row))==true)<|rB<|(decide<|F.Col=C.Col)),(97,rB<|((v1.visible&&(F.Row=C.Row))&&(F.Col=C.Col))),(98,.agg [rI C.Ref,rI v1.id,rB<|((v1.visible&&(F.Row=C.Row))&&(F.Col=C.Col))])]) J ⟨.inl R,.inl R,.inl R,.inl R,.inl R,.inl R,.inl R,.inl R,.inl R,.inl R,.inl R,.inl R,.inl R,.inr iL,.inr iL,.inr iL,.inr iL,.inr iL,.inr iL,.inr iL,.inr iL,.inr<|.inr<|.inl ⟨_,_,R,R⟩,.inr<|.inr<|.inl ⟨_,_,R,R⟩,.inr<|.inr<|.inl ⟨_,_,R,R⟩,.inr<|.inr<|.inl ⟨_,_,R,R⟩,.inr<|.inr<|.inl ⟨_,_,R,R⟩,.inr iL,.inr iL,.inr<|.inr<|.inl ⟨_,_,R,R⟩,.inr<|.inr<|.inl ⟨_,_,R,R⟩,.inr<|.inr<|.inl ⟨_,_,R,R⟩,.inr<|.inr<|.inl ⟨_,_,R,R⟩,.inr<|.inr<|.inl ⟨_,_,R,R⟩,.inr iL,.inr iL,Za⟩) ?_
    refine E9 ao λr8 w5 w6 cp cq=>?_
    refine TJ (.one R R R) J [1000,1001,1002,1003,1004,1005,1006] (hc:=[(1000,some<|.box m 68 [.mref 1001 A]),(1001,some<|.md A<|AJ RV.bool a7),(1002,some<|.box q 67 [.fn 25 [.ptr 1003 w 0 0]]),(1003,some<|.box w 68 [.mref 1004 B]),(1004,some<|.md B<|AJ RV.bool a8),(1005,some<|.box l 24 [qb E.Nodes]),(1006,some<|.box j 67 [.fn 40 [.ptr 1000 m 0 0,.ptr 1002 q 0 0,.ptr 1005 l 0 0,.ptr 1006 j 0 0]])]) (bs:=[.agg [rI C.Ref,rI v1.id,rB<|((v1.visible&&(F.Row=C.Row))&&(F.Col=C.Col))]]) (caps:=[.ptr 1000 m 0 0,.ptr 1002 q 0 0,.ptr 1005 l 0 0,.ptr 1006 j 0 0]) R R R iL R ⟨.inl ⟨iL,R⟩,Za⟩ ⟨R,R,R,R,R,R,R,R,R,R,R,R,R,R,R,R,R,R,R,R,R,Za⟩ (by decide) (O cp) ?_
    intro d3 n3
    refine BU [3,4,5,9,13,14,60,61,62,73,74,75,76,77,78,79,80,81,82,83,84,90,91,97,98,99] [5,9,13,14,1000,1001,1002,1003,1004,1005,1006] ?_
    exact F8 (.one R R R) J R R (CS (A4 R<|.inl R) _)<|sQ R (BK R iL iL)<|Zh<|ab _ _ wk<|J4 _ _ _ (AH [n3]) (Zg cq).symm
   ·have ao:=CY J b8
    exact Eh (.one R R R) J R R<|Eh (.one R R R) J R R<|xN R<|Zh<|ab _ _ wk<|J4 _ _ _ (AH [((V 0)+2)]) (Zg ao).symm
  exact Zm<|ax _ _ wk<|J2 _ _ (AH [(V 0)])<|xH b5 ak
 refine FI (λ(x3:Int) (m5:List (Int × Bool)) (m6:List (Int × Bool)) i4=>⟨[(3,.ptr 1005 l 0 0),(4,.ptr 1006 j 0 0),(5,.ptr 5 M 0 0),(9,.ptr 9 U 0 0),(42,.r<|.sl<|r4.map<|AY .i64),(43,rL r4),(44,rI x3)],[(5,some<|.box M 66<|Bj v1),(9,some<|.box U 47<|At I),(1000,some<|.box m 68 [.mref 1001 A]),(1001,some<|.md A<|AJ RV.bool m5),(1002,some<|.box q 67 [.fn 25 [.ptr 1003 w 0 0]]),(1003,some<|.box w 68 [.mref 1004 B]),(1004,some<|.md B<|AJ RV.bool m6),(1005,some<|.box l 24 [qb E.Nodes]),(1006,some<|.box j 67 [.fn 40 [.ptr 1000 m 0 0,.ptr 1002 q 0 0,.ptr 1005 l 0 0,.ptr 1006 j 0 0]])],(i4 0),121⟩) (AH [(U+1)]) aw wk ?_
 intro x3 m5 m6 i4 v4 cr ba
 have bb:Rw E v1 self r4 x3 m5 m6=some v4:=cr;unfold Rw at bb
 refine aU<|xS R<|aZ<|aT λcs=>cI R bb (λaq=>?_) λaq=>?_
 ·refine Zc<|cs _<|aT λct=>Zf<|aU<|AE aq λar bc cu=>xI BL R bc<|xV (.int .i64 ar) AI R<|mA R<|aZ<|aT λcv=>aR<|sQ R (AU (a:=.fn 40 [.ptr 1000 m 0 0,.ptr 1002 q 0 0,.ptr 1005 l 0 0,.ptr 1006 j 0 0]) R E0 iL R R)<|mM R<|lF DT AI R R<|lF G9 Em R R ?_
  refine sQ R (Bq R F0 (q:=[(0,_),(1,_),(2,_)]) (by exact⟨R,R,R,iL,R,R,R,iL,R,R,R,iL,Za⟩) (cs:=[rI ar,rI v1.id,rB v1.visible])<|by rfl) ?_
  refine E9 cu λr9 w7 w8 cw cx=>?_
  refine Zw [1000,1001,1002,1003,1004,1005,1006] (hc:=[(1000,some<|.box m 68 [.mref 1001 A]),(1001,some<|.md A<|AJ RV.bool m5),(1002,some<|.box q 67 [.fn 25 [.ptr 1003 w 0 0]]),(1003,some<|.box w 68 [.mref 1004 B]),(1004,some<|.md B<|AJ RV.bool m6),(1005,some<|.box l 24 [qb E.Nodes]),(1006,some<|.box j 67 [.fn 40 [.ptr 1000 m 0 0,.ptr 1002 q 0 0,.ptr 1005 l 0 0,.ptr 1006 j 0 0]])]) (bs:=[.agg [rI ar,rI v1.id,rB v1.visible]]) (caps:=[.ptr 1000 m 0 0,.ptr 1002 q 0 0,.ptr 1005 l 0 0,.ptr 1006 j 0 0]) R R R R iL R ⟨.inl ⟨iL,R⟩,Za⟩ ⟨R,R,R,R,R,R,R,R,R,R,R,R,R,R,R,R,R,R,R,R,R,Za⟩ (by decide) (O cw) ?_
  intro d4 n4
  refine BU [3,4,5,9,11,42,43,44,45,46,47,48,49,50,51,52,53,54,55] [5,9,1000,1001,1002,1003,1004,1005,1006] ?_
  refine sQ R (A4 R iL)<|aZ<|cv _<|cI R cx (λau=>?_) λau=>?_
  ·refine aT λcy=>aG [] [1000,1001,1002,1003,1004,1005,1006] ?_
   refine aR<|mA R<|oZ cy ?_
   exact Zi<|ZA (s':=⟨[(6,rB false)],[(1000,some<|.box m 68 [.mref 1001 A]),(1001,some<|.md A<|AJ RV.bool w7),(1002,some<|.box q 67 [.fn 25 [.ptr 1003 w 0 0]]),(1003,some<|.box w 68 [.mref 1004 B]),(1004,some<|.md B<|AJ RV.bool w8),(1005,some<|.box l 24 [qb E.Nodes]),(1006,some<|.box j 67 [.fn 40 [.ptr 1000 m 0 0,.ptr 1002 q 0 0,.ptr 1005 l 0 0,.ptr 1006 j 0 0]])],n4,121⟩) wk<|Bf (λ(r:Bool × (List<|Int × Bool) × (List<|Int × Bool)) T h'=>∃(i:Nat→Nat),T=rB r.1∧h'=[(1000,some<|.box m 68 [.mref 1001 A]),(1001,some<|.md A<|AJ RV.bool r.2.1),(1002,some<|.box q 67 [.fn 25 [.ptr 1003 w 0 0]]),(1003,some<|.box w 68 [.mref 1004 B]),(1004,some<|.md B<|AJ RV.bool r.2.2),(1005,some<|.box l 24 [qb E.Nodes]),(1006,some<|.box j 67 [.fn 40 [.ptr 1000 m 0 0,.ptr 1002 q 0 0,.ptr 1005 l 0 0,.ptr 1006 j 0 0]])]) (bm _<|xH ba au)<|by exact⟨rB false,[(1000,some<|.box m 68 [.mref 1001 A]),(1001,some<|.md A<|AJ RV.bool w7),(1002,some<|.box q 67 [.fn 25 [.ptr 1003 w 0 0]]),(1003,some<|.box w 68 [.mref 1004 B]),(1004,some<|.md B<|AJ RV.bool w8),(1005,some<|.box l 24 [qb E.Nodes]),(1006,some<|.box j 67 [.fn 40 [.ptr 1000 m 0 0,.ptr 1002 q 0 0,.ptr 1005 l 0 0,.ptr 1006 j 0 0]])],R,⟨.inr R,.inr R,.inr R,.inr R,.inr R,.inr R,.inr R,Za⟩,R,R,AH [],R,R⟩
  refine Zc<|ct _<|aG [3,4,5,9,42,43,44] [5,9,1000,1001,1002,1003,1004,1005,1006] ?_
  exact aR<|AE au λd5 bd cz=>xA R bd<|mM R<|Zh<|D0.mk cz (AH [n4]) wk
 exact Zm<|av _ _ wk<|J1 _ _ (AH [(i4 0)])<|xH ba aq
theorem ib(n:Nat):∀ {E:List (Int × Bool)} {m2:List (Int × Bool)} {C:AN} {v1:Ab} {r:Bool × (List<|Int × Bool) × (List<|Int × Bool)} {j:Nat} {w:Nat} {l:Nat} {A:Nat} {B:Nat} {m:Nat} {q:Nat},Gz n E m2 C v1=some r→Ax prog 40 7 [.agg<|Bj v1,.ptr 1000 j 0 0,.ptr 1002 l 0 0,.ptr 1005 m 0 0,.ptr 1006 q 0 0] [(1000,some<|.box j 68 [.mref 1001 w]),(1001,some<|.md w<|AJ RV.bool E),(1002,some<|.box l 67 [.fn 25 [.ptr 1003 A 0 0]]),(1003,some<|.box A 68 [.mref 1004 B]),(1004,some<|.md B<|AJ RV.bool m2),(1005,some<|.box m 24 [qb C.Nodes]),(1006,some<|.box q 67 [.fn 40 [.ptr 1000 j 0 0,.ptr 1002 l 0 0,.ptr 1005 m 0 0,.ptr 1006 q 0 0]])] (λF h'=>∃(i:Nat→Nat),F=rB r.1∧h'=[(1000,some<|.box j 68 [.mref 1001 w]),(1001,some<|.md w<|AJ RV.bool r.2.1),(1002,some<|.box l 67 [.fn 25 [.ptr 1003 A 0 0]]),(1003,some<|.box A 68 [.mref 1004 B]),(1004,some<|.md B<|AJ RV.bool r.2.2),(1005,some<|.box m 24 [qb C.Nodes]),(1006,some<|.box q 67 [.fn 40 [.ptr 1000 j 0 0,.ptr 1002 l 0 0,.ptr 1005 m 0 0,.ptr 1006 q 0 0]])]):=by
 induction n with
 | zero=>intro E m2 C v1 r j w l A B m q h;exact absurd (show(none:Option (Bool × (List<|Int × Bool) × (List<|Int × Bool)))=some r from h)<|by simp
 | succ n I=>intro E m2 C v1 r j w l A B m q h;exact fh (self:=λE m2 C v1=>Gz n E m2 C v1) (λJ=>I J) h
theorem Zu{E:List (Int × Bool)}{m2:List (Int × Bool)}{C:AN}{v1:Ab}{r:Bool × (List<|Int × Bool) × (List<|Int × Bool)}{j:Nat}{w:Nat}{l:Nat}{A:Nat}{B:Nat}{m:Nat}{q:Nat}(h:Qd E m2 C v1=some r):Ax prog 40 7 [.agg<|Bj v1,.ptr 1000 j 0 0,.ptr 1002 l 0 0,.ptr 1005 m 0 0,.ptr 1006 q 0 0] [(1000,some<|.box j 68 [.mref 1001 w]),(1001,some<|.md w<|AJ RV.bool E),(1002,some<|.box l 67 [.fn 25 [.ptr 1003 A 0 0]]),(1003,some<|.box A 68 [.mref 1004 B]),(1004,some<|.md B<|AJ RV.bool m2),(1005,some<|.box m 24 [qb C.Nodes]),(1006,some<|.box q 67 [.fn 40 [.ptr 1000 j 0 0,.ptr 1002 l 0 0,.ptr 1005 m 0 0,.ptr 1006 q 0 0]])] (λI h'=>∃(i:Nat→Nat),I=rB r.1∧h'=[(1000,some<|.box j 68 [.mref 1001 w]),(1001,some<|.md w<|AJ RV.bool r.2.1),(1002,some<|.box l 67 [.fn 25 [.ptr 1003 A 0 0]]),(1003,some<|.box A 68 [.mref 1004 B]),(1004,some<|.md B<|AJ RV.bool r.2.2),(1005,some<|.box m 24 [qb C.Nodes]),(1006,some<|.box q 67 [.fn 40 [.ptr 1000 j 0 0,.ptr 1002 l 0 0,.ptr 1005 m 0 0,.ptr 1006 q 0 0]])]):=by
 unfold Qd at h
 by_cases F:∃n r,Gz n E m2 C v1=some r
 ·rw[qD F] at h;exact ib _ h
 ·rw[qw F] at h;cases h
theorem gt{q:List (Int × Bool)}{d1:AN}{r:(List<|Int × Bool)}{l:Nat}{j:Nat}(h:MD q d1=some r):Ax prog 23 2 [.agg [qb d1.Nodes],.fn 25 [.ptr 1000 l 0 0]] [(1000,some<|.box l 68 [.mref 1001 j]),(1001,some<|.md j<|AJ RV.bool q)] (λw h'=>∃(i:Nat→Nat),w=.tup []∧h'=[(1000,some<|.box l 68 [.mref 1001 j]),(1001,some<|.md j<|AJ RV.bool r)]):=by
 unfold MD at h
 refine DV func23 R R ntmps23 (Zq R) λm=>aU<|sS R (Aw (cs:=[qb d1.Nodes]) 2 R iL R R)<|sS R (Aw (cs:=[.fn 25 [.ptr 1000 l 0 0]]) 3 R iL R R)<|aZ<|aU<|sS R (Jn RV.bool 6 R)<|sS R (BB (cs:=[.cst<|.map none]) 4 R MJ R R)<|Zj R R (Az (ds:=[.mref 6<|m+2]) R My iL R iL R R R R)<|aZ<|aU<|sS R (BB (cs:=[.cst<|.nilFunc]) 5 R Qu R R)<|aZ<|aT λC=>aR ?_
 refine sQ R (HD (bs:=[.ptr 4 (m+3) 0 0,.ptr 3 (m+1) 0 0,.ptr 2 m 0 0,.ptr 5 (m+4) 0 0]) R<|by exact⟨iL,iL,iL,iL,Za⟩) ?_
 refine Zj R R (Az (ds:=[.fn 40 [.ptr 4 (m+3) 0 0,.ptr 3 (m+1) 0 0,.ptr 2 m 0 0,.ptr 5 (m+4) 0 0]]) R SE iL R iL R R R R)<|aZ<|C _<|aR<|sQ R (AU (a:=.fn 40 [.ptr 4 (m+3) 0 0,.ptr 3 (m+1) 0 0,.ptr 2 m 0 0,.ptr 5 (m+4) 0 0]) R E0 iL R R) ?_
 refine sQ R (Bq R F0 (q:=[(0,_),(1,_),(2,_)]) (by exact⟨R,R,R,iL,R,R,R,iL,R,R,R,iL,Za⟩) (cs:=[rI 1,rI 0,rB true])<|by rfl) ?_
 refine E9 h λI J B A E=>?_
 refine Zw [4,6,3,1000,1001,2,5] (hc:=[(1000,some<|.box (m+3) 68 [.mref 1001<|m+2]),(1001,some<|.md (m+2)<|AJ RV.bool ([]:List (Int × Bool))),(1002,some<|.box (m+1) 67 [.fn 25 [.ptr 1003 l 0 0]]),(1003,some<|.box l 68 [.mref 1004 j]),(1004,some<|.md j<|AJ RV.bool q),(1005,some<|.box m 24 [qb d1.Nodes]),(1006,some<|.box (m+4) 67 [.fn 40 [.ptr 1000 (m+3) 0 0,.ptr 1002 (m+1) 0 0,.ptr 1005 m 0 0,.ptr 1006 (m+4) 0 0]])]) (bs:=[.agg [rI 1,rI 0,rB true]]) (caps:=[.ptr 1000 (m+3) 0 0,.ptr 1002 (m+1) 0 0,.ptr 1005 m 0 0,.ptr 1006 (m+4) 0 0]) R R R R iL R ⟨.inl ⟨iL,R⟩,Za⟩ ⟨R,R,R,R,R,R,R,R,R,R,R,R,R,R,R,R,R,R,R,R,R,Za⟩ (by decide) (Zu A) ?_
 intro M F
 refine BU [0,1,2,3,4,5,6,7,8,9,10] [2,3,4,5,6,1000,1001] ?_
 refine Zh ?_
 exact ZA (s':=⟨[],[(1000,some<|.box l 68 [.mref 1001 j]),(1001,some<|.md j<|AJ RV.bool B)],F,11⟩) wk<|Bf (λ(r:(List<|Int × Bool)) w h'=>∃(i:Nat→Nat),w=.tup []∧h'=[(1000,some<|.box l 68 [.mref 1001 j]),(1001,some<|.md j<|AJ RV.bool r)]) E<|by exact⟨.tup [],[(1000,some<|.box l 68 [.mref 1001 j]),(1001,some<|.md j<|AJ RV.bool B)],⟨_,R,Za⟩,⟨.inr R,.inr R,Za⟩,R,R,AH [],R,R⟩
theorem kx{d1 r}(h:JN d1=some r):AZ prog 7 [.agg [qb d1.Nodes]] (.tup [.r<|.sl<|r.1.map<|AY .i64,rI r.2]):=by
 unfold JN at h
 refine mF func7 ntmps7 R λj=>aU<|sS R (Aw (cs:=[qb d1.Nodes]) 1 R iL R R)<|mA R<|mA R<|aZ<|aT λc2=>aU<|xC B7 R<|AE h λe1 T h1=>cL (PQ<|T) R<|mA R<|aZ<|aU<|mM R<|xU R<|aZ<|cI R h1 (λU=>?_) λU=>?_
 ·exact aU<|mM R<|mA R<|mA R<|aZ<|Zi<|EP (P:=prog) (λ(r:(List Int) × Int)=>.r<|.sl<|r.1.map<|AY .i64) (λ(r:(List Int) × Int)=>rI r.2) U iL (.t<|.one<|.nil)<|.t<|.d R
 refine Zc<|c2 _<|aU<|sS R (Jn RV.bool 14 R)<|sS R (BB (cs:=[.cst<|.map none]) 5 R MJ R R)<|Zj R R (Az (ds:=[.mref 14<|j+1]) R My iL R iL R R R R)<|aZ<|aT λc7=>aG [1,5] [1,5,14] ?_
 refine aR<|xC B7 R ?_
 refine sQ R (HD (bs:=[.ptr 5 (j+2) 0 0]) R<|by exact⟨iL,Za⟩) ?_
 refine AE U λI V h3=>?_
 refine Zw [5,14] (hc:=[(1000,some<|.box (j+2) 68 [.mref 1001<|j+1]),(1001,some<|.md (j+1)<|AJ RV.bool ([]:List (Int × Bool)))]) (bs:=[.agg [qb d1.Nodes],.fn 25 [.ptr 1000 (j+2) 0 0]]) (caps:=[]) R R R R iL R ⟨.inl ⟨iL,R⟩,.inl ⟨iL,R⟩,Za⟩ ⟨R,R,R,R,R,R,Za⟩ (by decide) (gt V) ?_
 intro i1 J
 refine BU [1,5,15,16,17] [1,5,14] ?_
 refine aZ<|c7 _<|aU<|mA R<|aZ<|aS λK9 c9 X=>aU<|lF B8 B6 R R<|xL Bh R<|mM R<|aZ<|Zf<|Ba h3 λo1 F Z=>?_
 have J1:∀(l:List Int) (M:NN),o1=l→K9 ⟨[(6,.own 5006<|M 0)],[(5006,some<|.arr (M 0) 3 1<|l.map<|AY .i64)],(M 1),37⟩:=by
  intro l M e
  have h4:=Z _ e
  exact c9 _<|aU<|mM R<|mA R<|mA R<|aZ<|Zi<|EP (P:=prog) (λ(r:(List Int) × Int)=>.r<|.sl<|r.1.map<|AY .i64) (λ(r:(List Int) × Int)=>rI r.2) h4 iL (.t<|.one<|.own R)<|.t<|.d R
 refine Ch (λ(O:Int) (m:List Int) w=>⟨[(5,.ptr 5 (j+2) 0 0),(6,.own 5006<|w 0),(19,qb d1.Nodes),(20,rL d1.Nodes),(21,rI O)],[(5,some<|.box (j+2) 68 [.mref 14<|j+1]),(14,some<|.md (j+1)<|AJ RV.bool I),(5006,some<|.arr (w 0) 3 1<|m.map<|AY .i64)],(w 1),37⟩) (AH [J,(J+1)]) F (Zx (Zx (F9 6 5006 3 1 (by decide) R)<|by exact Ae.cv (e':=[(1,.ptr 1 j 0 0),(5,.ptr 5 (j+2) 0 0),(6,.own 5006 J),(15,.agg [qb d1.Nodes]),(16,.fn 25 [.ptr 5 (j+2) 0 0]),(17,.tup []),(18,.ptr 1 j 0 0),(19,qb d1.Nodes),(20,rL d1.Nodes),(21,rI 0)]) (h':=[(1,some<|.box j 24 [qb d1.Nodes]),(5,some<|.box (j+2) 68 [.mref 14<|j+1]),(14,some<|.md (j+1)<|AJ RV.bool I),(5006,some<|.arr J 3 1<|([]:List Int).map<|AY .i64)]) ⟨jL,jL,jL,jL,jL,jL,jL,jL,jL,jL,Za⟩ ⟨.inl R,.inl R,.inl R,.inl R,Za⟩ nL) wk) ?_
 intro O m w v1 a0 a1
 have h5:Hb d1 I O m=some v1:=a0;unfold Hb at h5
 refine aU<|xS R<|aZ<|aT λa2=>cI R h5 (λh6=>?_) λh6=>?_
 ·refine Zc<|a2 _<|aS λa6 a7 A=>Zf<|Ba h6 λp1 a8 aa=>?_
  have J2:∀(q:List Int) (E:NN),p1=q→a6 ⟨[(5,.ptr 5 (j+2) 0 0),(6,.own 5006<|E 0),(19,qb d1.Nodes),(20,rL d1.Nodes),(21,rI O)],[(5,some<|.box (j+2) 68 [.mref 14<|j+1]),(14,some<|.md (j+1)<|AJ RV.bool I),(5006,some<|.arr (E 0) 3 1<|q.map<|AY .i64)],(E 1),37⟩:=by
   intro q E e
   have h7:=aa _ e
   exact a7 _<|aR<|AE h7 λx4 ab h8=>xA R ab<|mM R<|Zh<|ZG h8 (AH [(E 0),(E 1)]) wk
  refine aU<|AE a8 λx5 ac h9=>xI Bh R ac<|xB ((At x5)) DO R<|sS R (BB (cs:=FT) 8 R Hs R R)<|Zj R R (Az (ds:=(At x5)) R Gw iL R iL R R R R)<|aZ<|aU<|sQ R (AU (a:=.mref 14<|j+1) R G3 iL R R)<|lF Dp AI R R<|sQ R (I0 (rd:=RV.bool) false (.bool false) false R underlying68 underlying3 (F2 KH) (λ_ _=>.bool _) (.inl R) (.inl R) R)<|sQ R (A4 R iL)<|aZ<|cI R h9 (λB=>?_) λB=>?_
  ·exact aR<|mM R<|lF Dp AI R R<|sS R (Bo 33 R BL (f:=(AY .i64)) (l:=([x5.ID]:List Int)) ⟨R,⟨_,iL,R⟩,Za⟩ R (λ_=>R) R)<|AE B λae C ad=>sS R (DB R BL iL R (.inr<|.inl ⟨_,_,iL,R⟩) C)<|mA R<|Zh<|A _ _ wk<|J2 _ (AH [((w 1)+2),((w 1)+3)]) (Zg ad).symm
  exact Zc<|A _ _ wk<|J2 _ (AH [(w 0),((w 1)+1)]) (Zg B).symm
 exact Zm<|X _ _ wk<|J1 _ (AH [(w 0),(w 1)])<|xH a1 h6
theorem DX{j l a r}(h:Cm j l a=some r):AZ prog 16 [rI j,rI l,rI a] (rB r):=by
 unfold Cm at h
 exact mF func16 ntmps16 R λm=>aU<|mA R<|aZ<|aU<|mM R<|mM R<|sQ R (Cw R iL iL)<|mM R<|vM R<|vM R<|vQ R (Ey R (iR R)<|iR R)<|xN R<|mA R<|aZ<|Zi<|yB h R
theorem U4{l r}(h:KV l=some r):AZ prog 86 [rS l] (rB r):=by
 unfold KV at h
 refine mF func86 ntmps86 R λX=>aU<|mA R<|aZ<|aS λZ c2 A=>aU<|mM R<|sQ R (Db R underlying9 iL)<|mM R<|aZ<|Zf<|BI h λo1 m B C=>?_
 have J1:∀(T:Unit) (U:NN),o1=.nrm T→Z ⟨[(0,rS l)],[],(U 0),59⟩:=by
  intro T U e
  have h1:=B _ e
  exact c2 _<|aU<|mM R<|sQ R (Db R underlying9 iL)<|sQ R (Cw R iL iL)<|mM R<|vM R<|vQ R (Db R underlying9<|iR R)<|vQ R (Ey R (iR R) iL)<|xN R<|mA R<|aZ<|Zi<|yB h1 R
 refine Zv (λ(E:Int) w=>⟨[(0,rS l),(6,rL l),(7,rI E)],[],(w 0),59⟩) (AH [X]) m wk ?_
 intro E w v1 F q
 have V:LZ l E=some v1:=F;unfold LZ at V
 refine aU<|xS R<|aZ<|aT λc6=>cI R V (λI=>?_) λI=>?_
 ·refine Zc<|c6 _<|aT λc7=>Zf<|aU<|mM R<|mA R<|aZ<|aU<|mM R<|mM R<|AE I λa0 j h4=>sQ R (CP R underlying9 iL iL λ_=>j)<|sQ R (Cw R iL iL)<|mM R<|vM R<|vM R<|vQ R (CP R underlying9 (iR R) (iR R) λ_=>j)<|vQ R (Ey R (iR R) iL)<|xN R<|mA R<|aZ<|aT λJ=>aR<|mM R<|sQ R (A4 R iL)<|mM R<|vM R<|vQ R (A8 R (iR R) iL)<|vQ R (AK R<|iR R)<|wQ R (AK R iL)<|wQ R (AK R iL)<|wQ R (CP R underlying9 (iR R) (iR R) λ_=>j)<|wQ R (DK R (iR R) iL)<|wQ R (AK R<|iR R)<|wQ R (AK R iL)<|wQ R (AK R iL)<|wQ R (CP R underlying9 (iR R) (iR R) λ_=>j)<|wQ R (DK R (iR R) iL)<|wQ R (BK R (iR R)<|iR R)<|wQ R (AK R<|iR R)<|wQ R (AK R iL)<|wQ R (AK R iL)<|wQ R (CP R underlying9 (iR R) (iR R) λ_=>j)<|wQ R (Bz R (iR R) iL)<|wQ R (AK R<|iR R)<|wQ R (AK R iL)<|wQ R (AK R iL)<|wQ R (CP R underlying9 (iR R) (iR R) λ_=>j)<|wQ R (BY R (iR R) iL)<|wQ R (Ct R (iR R)<|iR R)<|wQ R (BK R (iR R)<|iR R)<|vQ R (Ct R (iR R)<|iR R)<|xN R<|aZ<|J _<|cI R h4 (λM=>?_) λM=>?_
  ·exact zB (C _<|xH q M) R id
  refine Zc<|c7 _<|aF [0,6,7] ?_
  exact aR<|AE M λx4 O h6=>xA R O<|mM R<|Zh<|Zr h6 (AH [(w 0)]) wk
 exact Zm<|A _ _ wk<|J1 _ (AH [(w 0)])<|xH q I
theorem V8{l r}(h:LR l=some r):AZ prog 87 [rS l] (rB r):=by
 unfold LR at h
 refine mF func87 ntmps87 R λV=>aU<|mA R<|aZ<|aS λX Z A=>aU<|mM R<|sQ R (Db R underlying9 iL)<|mM R<|aZ<|Zf<|BI h λo1 m B C=>?_
 have J1:∀(O:Unit) (T:NN),o1=.nrm O→X ⟨[(0,rS l)],[],(T 0),28⟩:=by
  intro O T e
  have h1:=B _ e
  exact Z _<|aU<|mM R<|sQ R (Db R underlying9 iL)<|sQ R (Cw R iL iL)<|mM R<|vM R<|vQ R (Db R underlying9<|iR R)<|vQ R (Ey R (iR R) iL)<|xN R<|mA R<|aZ<|Zi<|yB h1 R
 refine Zv (λ(E:Int) w=>⟨[(0,rS l),(5,rL l),(6,rI E)],[],(w 0),28⟩) (AH [V]) m wk ?_
 intro E w v1 F q
 have U:Nk l E=some v1:=F;unfold Nk at U
 refine aU<|xS R<|aZ<|aT λc6=>cI R U (λI=>?_) λI=>?_
 ·refine Zc<|c6 _<|aT λc7=>Zf<|aU<|mM R<|mA R<|aZ<|aU<|mM R<|mM R<|AE I λa0 j h4=>sQ R (CP R underlying9 iL iL λ_=>j)<|xS R<|mM R<|vM R<|vM R<|vQ R (CP R underlying9 (iR R) (iR R) λ_=>j)<|vQ R (BY R (iR R) iL)<|xO R<|aZ<|cI R h4 (λJ=>?_) λJ=>?_
  ·exact zB (C _<|xH q J) R id
  refine Zc<|c7 _<|aF [0,5,6] ?_
  exact aR<|AE J λx4 M h6=>xA R M<|mM R<|Zh<|Zr h6 (AH [(w 0)]) wk
 exact Zm<|A _ _ wk<|J1 _ (AH [(w 0)])<|xH q I
theorem SM{w c r}(h:JT w c=some r):AZ prog 45 [qa w,rB c] (rI r):=by
 unfold JT at h
 refine mF func45 ntmps45 R λn0=>aU<|mA R<|aZ<|aS λK2 c2 E=>aU<|mM R<|xL BA R<|mM R<|aZ<|Zf<|BI h λo1 A F m=>?_
 have J1:∀(u2:Unit) (i5:NN),o1=.nrm u2→K2 ⟨[],[],(i5 0),54⟩:=by
  intro u2 i5 e
  have h1:=F _ e
  exact c2 _<|zI h1 R id
 refine Zv (λ(I:Int) B=>⟨[(0,qa w),(1,rB c),(7,rL w),(8,rI I)],[],(B 0),54⟩) (AH [n0]) A wk ?_
 intro I B v1 J j
 have h2:KR w c I=some v1:=J;unfold KR at h2
 refine aU<|xS R<|aZ<|aT λc6=>cI R h2 (λM=>?_) λM=>?_
 ·refine Zc<|c6 _<|aT λc7=>Zf<|aU<|mM R<|mA R<|aZ<|aT λc9=>aU<|mM R<|mM R<|AE M λC l h4=>xI BA R l<|sQ R (BH R EX iL)<|xV (.str C.Name) BE R<|AE h4 λr1 O h5=>cL (U4<|O) R<|sQ R (A4 R iL)<|aZ<|cI R h5 (λT=>?_) λT=>?_
  ·exact zI (m _<|xH j T) R id
  refine Zc<|c9 _<|aT λU=>aT λV=>aF [0,1,5,7,8] ?_
  refine aR<|mM R<|mM R<|xI BA R l<|sQ R (BH R Ii iL)<|xV (.str C.Value) BE R<|AE T λr2 X h7=>cL (V8<|X) R<|sQ R (A4 R iL)<|mM R<|vM R<|vM R<|vQ R (A9 R BA.slice (iR R) (iR R) (λ_=>R) λ_=>l)<|vQ R (BH R Ii<|iR R)<|vQ R (Bc (d:=.str C.Value) R BE (iR R) R)<|vQ R (EA R (iR R) iL)<|vQ R (AK R<|iR R)<|wQ R (AK R iL)<|wQ R (A4 R<|iR R)<|vQ R (Ct R (iR R)<|iR R)<|xN R<|aZ<|V _<|cI R h7 (λZ=>?_) λZ=>?_
  ·exact zI (m _<|xH j Z) R id
  refine Zc<|U _<|aT λa0=>aF [0,1,5,7,8] ?_
  refine Zz BV (by kernel_rfl) ?_
  refine qP R (AK R iL)<|qP R (BY R iL iL)<|qP R (AK R iL)<|qO R (AK R iL)<|qO R (AK R iL)<|AE Z λx5 a1 h9=>qO R (CQ R (iR R) iL<|Af a1)<|AE h9 λx6 a2 a6=>qO R (A9 R BA.slice (iR R) (iR R) (λ_=>R)<|Af a2)<|qO R (BH R EX<|iR R)<|qO R (Bc (d:=.str x6.Name) R BE (iR R) R)<|qO R (AK R iL)<|qO R (AK R iL)<|qO R (A9 R BA.slice (iR R) (iR R) (λ_=>R) λ_=>l)<|qO R (BH R EX<|iR R)<|qO R (Bc (d:=.str C.Name) R BE (iR R) R)<|qO R (Tz R (iR R)<|iR R)<|qP R (BK R iL<|iR R)<|AQ.nil<|a0 _<|cI R a6 (λq=>?_) λq=>?_
  ·exact zI (m _<|xH j q) R id
  exact Zc<|c7 _<|aR<|AE q λx7 a7 a8=>xA R a7<|mM R<|Zh<|Zr a8 (AH [(B 0)]) wk
 exact Zm<|E _ _ wk<|J1 _ (AH [(B 0)])<|xH j M
theorem SK{k r}(h:Kr k=some r):AZ prog 46 [rI k] (rB r):=by
 unfold Kr at h
 exact mF func46 ntmps46 R λj=>aU<|mA R<|aZ<|aU<|mM R<|xQ R<|mM R<|vM R<|vQ R (A8 R (iR R) iL)<|xO R<|mM R<|vM R<|vQ R (A8 R (iR R) iL)<|xO R<|mM R<|vM R<|vQ R (A8 R (iR R) iL)<|xO R<|mA R<|aZ<|Zi<|yB h R
theorem ja{k r}(h:O1 k=some r):AZ prog 47 [rI k] (rB r):=by
 unfold O1 at h
 exact mF func47 ntmps47 R λj=>aU<|mA R<|aZ<|aU<|mM R<|xQ R<|mM R<|vM R<|vQ R (A8 R (iR R) iL)<|xO R<|mA R<|aZ<|Zi<|yB h R
theorem Y8{j r}(h:NR j=some r):AZ prog 48 (Qo j) (rB r):=by
 unfold NR at h
 exact mF func48 ntmps48 R λl=>aU<|sS R (Aw (cs:=(Bs j)) 1 R iL R R)<|mA R<|aZ<|aU<|lF Fp AI R R<|xQ R<|mM R<|vF F3 AI R R<|vQ R (A8 R (iR R) iL)<|xN R<|mM R<|vF DS Dc R R<|vQ R (DM R Bm.slice<|iR R)<|vQ R (A8 R (iR R) iL)<|xN R<|mM R<|vF Dx EB R R<|vQ R (DM R CW.slice<|iR R)<|vQ R (A8 R (iR R) iL)<|xN R<|mA R<|aZ<|Zi<|yB h R
theorem Ta{k r}(h:Lp k=some r):AZ prog 49 [rI k] (rB r):=by
 unfold Lp at h
 exact mF func49 ntmps49 R λj=>aU<|mA R<|aZ<|aU<|mM R<|xQ R<|mM R<|vM R<|vQ R (A8 R (iR R) iL)<|xO R<|mA R<|aZ<|Zi<|yB h R
theorem gQ{k r}(h:Pi k=some r):AZ prog 50 [rI k] (rB r):=by
 unfold Pi at h
 exact mF func50 ntmps50 R λj=>aU<|mA R<|aZ<|aU<|mM R<|xQ R<|mM R<|vM R<|vQ R (A8 R (iR R) iL)<|xO R<|mM R<|vM R<|vQ R (A8 R (iR R) iL)<|xO R<|mA R<|aZ<|Zi<|yB h R
theorem TW{q r}(h:Kn q=some r):AZ prog 124 [rI q] (rB r):=by
 unfold Kn at h
 exact mF func124 ntmps124 R λC=>aU<|mA R<|aZ<|aU<|mM R<|xQ R<|mM R<|vM R<|vQ R (A8 R (iR R) iL)<|xO R<|mM R<|vM R<|AE h λE j w=>vL (λhg=>DX<|Af j hg) R<|xO R<|mM R<|vM R<|AE w λF l A=>vL (λhg=>DX<|Af l hg) R<|xO R<|mM R<|vM R<|AE A λI m B=>vL (λhg=>DX<|Af m hg) R<|xO R<|mA R<|aZ<|Zi<|yB B R
theorem kX{j r}(h:NC j=some r):AZ prog 88 (V5 j) (rI r):=by
 unfold NC at h
 refine mF func88 ntmps88 R λT=>aU<|sS R (Aw (cs:=(CF j)) 1 R iL R R)<|mA R<|aZ<|aT λB=>aU<|lF Fy AI R R<|xQ R<|mM R<|vF Dh AI R R<|vQ R (A8 R (iR R) iL)<|xN R<|mM R<|vF Fy AI R R<|vQ R (DK R (iR R) iL)<|vQ R (AK R<|iR R)<|wQ R (fB R Dh iL fR R)<|wQ R (AU (a:=rI j.Ref) R AI (iR R) R R)<|wQ R (DK R (iR R) iL)<|vQ R (BK R (iR R)<|iR R)<|xO R<|aZ<|cI R h (λl=>?_) λl=>?_
 ·exact zI l R id
 refine Zc<|B _<|aT λC=>aT λE=>aG [1] [1] ?_
 refine aR<|lF Fy AI R R<|xU R<|mM R<|vF Fy AI R R<|AE l λU m F=>vL (λhg=>TW<|Af m hg) R<|vQ R (A4 R<|iR R)<|xN R<|mM R<|vF Dh AI R R<|vQ R (DK R (iR R) iL)<|vQ R (AK R<|iR R)<|wQ R (fB R Dh iL fR R)<|wQ R (AU (a:=rI j.Ref) R AI (iR R) R R)<|AE F λI q J=>AL.stepW (.two R R R) R R (DJ (r:=rB I) (caps:=[]) (bs:=[rI j.Ref,rI 1,rI 1073741824]) R iL R ⟨⟨_,(iR R),.d R⟩,⟨_,iL,.d R⟩,⟨_,iL,.d R⟩,Za⟩ (λhg=>DX<|Af q hg) R)<|wQ R (A4 R<|iR R)<|vQ R (BK R (iR R)<|iR R)<|xO R<|aZ<|E _<|cI R J (λw=>?_) λw=>?_
 ·exact zI w R id
 refine Zc<|C _<|aT λM=>aG [1] [1] ?_
 exact aR<|lF OI Ca R R<|AE w λV A O=>cL (SM<|A) R<|mA R<|aZ<|M _<|Zi<|yI O R
theorem iV{m a r}(h:Im m a=some r):AZ prog 51 [qe m,rB a] (rI r):=by
 unfold Im at h
 refine mF func51 ntmps51 R λn0=>aU<|mA R<|aZ<|aS λK2 c2 C=>aU<|mM R<|xL B1 R<|mM R<|aZ<|Zf<|BI h λo1 q E w=>?_
 have J1:∀(u2:Unit) (i5:NN),o1=.nrm u2→K2 ⟨[(0,qe m),(1,rB a)],[],(i5 0),47⟩:=by
  intro u2 i5 e
  have h1:=E _ e
  refine c2 _<|aT λc4=>aU<|mM R<|mM R<|vM R<|vQ R (DM R B1.slice<|iR R)<|vQ R (A8 R (iR R) iL)<|vQ R (AK R<|iR R)<|wQ R (AK R iL)<|wQ R (AK R iL)<|wQ R (DM R B1.slice<|iR R)<|AE h1 λx4 F h2=>wQ R (CQ R (iR R) iL<|Af F)<|AE h2 λx5 I h3=>wQ R (A9 R B1.slice (iR R) (iR R) (λ_=>R)<|Af I)<|wQ R (BH R Fy<|iR R)<|wQ R (Bc (d:=.int .i64 x5.Char) R AI (iR R) R)<|wQ R (DK R (iR R) iL)<|vQ R (Ct R (iR R)<|iR R)<|xN R<|aZ<|cI R h3 (λJ=>?_) λJ=>?_
  ·exact zI J R id
  exact Zc<|c4 _<|zI J R id
 refine Zv (λ(M:Int) B=>⟨[(0,qe m),(1,rB a),(8,rL m),(9,rI M)],[],(B 0),47⟩) (AH [n0]) q wk ?_
 intro M B v1 O j
 have h5:KB m a M=some v1:=O;unfold KB at h5
 refine aU<|xS R<|aZ<|aT λc9=>cI R h5 (λT=>?_) λT=>?_
 ·refine Zc<|c9 _<|aT λU=>Zf<|aU<|mM R<|mA R<|aZ<|aT λV=>aU<|mM R<|mM R<|AE T λx6 A h7=>xI B1 R A<|xB ((CF x6)) IA R<|AE h7 λe1 X h8=>cL (kX<|X) R<|mA R<|aZ<|aU<|mM R<|xU R<|aZ<|cI R h8 (λZ=>?_) λZ=>?_
  ·refine aT λa0=>aF [6] ?_
   exact aR<|mM R<|mA R<|aZ<|a0 _<|Zi<|yI (w _<|xH j Z) R
  refine Zc<|V _<|aT λa1=>aF [0,1,5,8,9] ?_
  refine aR<|mM R<|sQ R (A4 R iL)<|mM R<|vM R<|vM R<|vQ R (A9 R B1.slice (iR R) (iR R) (λ_=>R) λ_=>A)<|vQ R (BH R Fy<|iR R)<|vQ R (Bc (d:=.int .i64 x6.Char) R AI (iR R) R)<|vQ R (DK R (iR R) iL)<|xN R<|aZ<|a1 _<|cI R Z (λl=>?_) λl=>?_
  ·exact zI (w _<|xH j l) R id
  exact Zc<|U _<|aR<|AE l λx7 a2 a6=>xA R a2<|mM R<|Zh<|Zr a6 (AH [(B 0)]) wk
 exact Zm<|C _ _ wk<|J1 _ (AH [(B 0)])<|xH j T
theorem hX{j r}(h:QE j=some r):AZ prog 151 [rS j] (rB r):=by
 unfold QE at h
 exact nF gO R R R ⟨_,func151,R,R⟩ h
theorem XX{l r}(h:M5 l=some r):AZ prog 125 [rS l] (rB r):=by
 unfold M5 at h
 refine mF func125 ntmps125 R λE=>aU<|mA R<|aZ<|aT λc2=>aU<|mM R<|AE h λr1 F h1=>cL (hX<|F) R<|sQ R (A4 R iL)<|aZ<|cI R h1 (λI=>?_) λI=>?_
 ·exact zB I R id
 refine Zc<|c2 _<|aS λK5 c5 J=>aU<|mM R<|sS R (ga 9 R underlying9 iL)<|aZ<|Zf<|BI I λo1 m M O=>?_
 have J1:∀(u2:Unit) (i5:NN),o1=.nrm u2→K5 ⟨[],[],(i5 0),21⟩:=by
  intro u2 i5 e
  have h3:=M _ e
  exact c5 _<|zB h3 R id
 refine Zv (λ(B:(Nat)) C=>⟨[(9,.ptr 9 E 0 0)],[(9,some<|.it E l B)],(C 0),21⟩) (AH [(E+1)]) m wk ?_
 intro B C v1 T q
 have U:E4 l B=some v1:=T;unfold E4 at U
 refine aT λc8=>AW.split (decide<|B<l.length) (λj=>?_) λj=>?_
 ·have V:=Cd j U
  refine aR<|sS R (Yv R iL R λ_=>j)<|xX R<|aZ<|c8 _<|aT λc9=>aC R (λw=>?_) λw=>by cases w
  refine Zc<|c9 _<|Zf<|aU<|xX R<|mA R<|aZ<|aU<|mM R<|xQ R<|mM R<|vM R<|vQ R (D8 R underlying21 underlying3<|iR R)<|AE V λr2 X h6=>vL (λhg=>TW<|Af X hg) R<|vQ R (A4 R<|iR R)<|xO R<|aZ<|cI R h6 (λZ=>?_) λZ=>?_
  ·exact zB (O _<|xH q Z) R id
  exact Zc<|Zr Z (AH [(C 0)]) wk
 ·have V:=CY j U
  exact aR<|sS R (X5 R iL R λ_=>j)<|xX R<|aZ<|c8 _<|aT λa0=>aC R (λA=>by cases A) λA=>Zm<|J _ _ wk<|J1 _ (AH [(C 0)])<|xH q V
theorem gn{j r}(h:OV j=some r):AZ prog 126 (Tk j) (rB r):=by
 unfold OV at h
 exact mF func126 ntmps126 R λl=>aU<|sS R (Aw (cs:=(BN j)) 1 R iL R R)<|mA R<|aZ<|aU<|lF HK BE R R<|sQ R (E5 R iL iL)<|mM R<|vF DG AI R R<|vQ R (A8 R (iR R) iL)<|xN R<|mM R<|vF Fv Ca R R<|vQ R (DM R BA.slice<|iR R)<|vQ R (A8 R (iR R) iL)<|xN R<|mA R<|aZ<|Zi<|yB h R
theorem fL{C b c n r}(h:L7 C b c n=some r):AZ prog 89 [qc C,rI b,rI c,rB n] (rI r):=by
 unfold L7 at h
 refine mF func89 ntmps89 R λn0=>aU<|mA R<|aZ<|aS λK2 c2 U=>aU<|mM R<|xL Bm R<|mM R<|aZ<|Zf<|BI h λo1 E V l=>?_
 have J1:∀(u2:Unit) (i5:NN),o1=.nrm u2→K2 ⟨[],[],(i5 0),93⟩:=by
  intro u2 i5 e
  have h1:=V _ e
  exact c2 _<|zI h1 R id
 refine Zv (λ(X:Int) T=>⟨[(0,qc C),(1,rI b),(2,rI c),(3,rB n),(13,rL C),(14,rI X)],[],(T 0),93⟩) (AH [n0]) E wk ?_
 intro X T v1 Z j
 have h2:Mm C b c n X=some v1:=Z;unfold Mm at h2
 refine aU<|xS R<|aZ<|aT λc6=>cI R h2 (λh3=>?_) λh3=>?_
 ·refine Zc<|c6 _<|aT λc7=>Zf<|aU<|mM R<|mA R<|aZ<|aU<|mM R<|mM R<|AE h3 λF a0 h4=>xI Bm R a0<|xB ((BN F)) Dy R<|sS R (BB (cs:=GD) 10 R GE R R)<|Zj R R (Az (ds:=(BN F)) R GO iL R iL R R R R)<|aZ<|aT λa1=>aT λa2=>aR<|lF Dg AI R R<|mM R<|AE h4 λx5 a6 h5=>sQ R (CQ R iL iL λ_=>a6)<|AE h5 λr1 a7 h6=>cL (DX<|a7) R<|sQ R (A4 R iL)<|mM R<|vF Dt AI R R<|vM R<|AE h6 λx6 a8 h7=>vQ R (CQ R (iR R) iL<|Af a8)<|AE h7 λr2 aa h8=>vL (λhg=>DX<|Af aa hg) R<|vQ R (A4 R<|iR R)<|xO R<|mM R<|vF DG AI R R<|AE h8 λr3 ab h9=>vL (λhg=>DX<|Af ab hg) R<|vQ R (A4 R<|iR R)<|xO R<|aZ<|a2 _<|cI R h9 (λm=>?_) λm=>?_
  ·exact zI (l _<|xH j m) R id
  refine Zc<|a1 _<|aT λac=>aT λad=>aG [0,1,2,3,9,10,13,14] [10] ?_
  refine aR<|lF HK BE R R<|AE m λr4 ae af=>cL (XX<|ae) R<|sQ R (A4 R iL)<|aZ<|ad _<|cI R af (λq=>?_) λq=>?_
  ·exact zI (l _<|xH j q) R id
  refine Zc<|ac _<|aT λag=>aU<|lF Fv Ca R R<|AE q λe1 ah ai=>cL (SM<|ah) R<|mA R<|aZ<|aU<|mM R<|xU R<|aZ<|cI R ai (λw=>?_) λw=>?_
  ·refine aT λaj=>aF [11] ?_
   exact aR<|mM R<|mA R<|aZ<|aj _<|Zi<|yI (l _<|xH j w) R
  refine Zc<|ag _<|aT λak=>aT λal=>aG [0,1,2,3,9,10,13,14] [10] ?_
  refine aR<|mM R<|sQ R (A4 R iL)<|mM R<|vQ R (DU R Dy iL R R)<|AE w λr5 an ao=>vL (λhg=>gn<|Af an hg) R<|xN R<|aZ<|al _<|cI R ao (λA=>?_) λA=>?_
  ·exact zI (l _<|xH j A) R id
  refine Zc<|ak _<|aT λaq=>?_
  refine Zz BV (by kernel_rfl) ?_
  refine qP R (AK R iL)<|qP R (BY R iL iL)<|qP R (AK R iL)<|qO R (fB R Dg iL fR R)<|qO R (AU (a:=rI F.Row) R AI (iR R) R R)<|qO R (AK R iL)<|qO R (AK R iL)<|AE A λx7 I ar=>qO R (CQ R (iR R) iL<|Af I)<|AE ar λx8 J au=>qO R (A9 R Bm.slice (iR R) (iR R) (λ_=>R)<|Af J)<|qO R (BH R Dg<|iR R)<|qO R (Bc (d:=.int .i64 x8.Row) R AI (iR R) R)<|qO R (Bz R (iR R)<|iR R)<|qO R (AK R<|iR R)<|qT R (fB R Dg iL fR R)<|qT R (AU (a:=rI F.Row) R AI (iR R) R R)<|qT R (AK R iL)<|qT R (AK R iL)<|qT R (CQ R (iR R) iL λh=>Af I (pp.1 h).1)<|qT R (A9 R Bm.slice (iR R) (iR R) (λ_=>R) λh=>Af J (pp.1 h).1)<|qT R (BH R Dg<|iR R)<|qT R (Bc (d:=.int .i64 x8.Row) R AI (iR R) R)<|qT R (A8 R (iR R)<|iR R)<|qT R (AK R<|iR R)<|qT R (fB R Dt iL fR R)<|qT R (AU (a:=rI F.Col) R AI (iR R) R R)<|qT R (AK R iL)<|qT R (AK R iL)<|AE au λx9 av aw=>qT R (CQ R (iR R) iL<|Af av)<|AE aw λax M ay=>qT R (A9 R Bm.slice (iR R) (iR R) (λ_=>R)<|Af M)<|qT R (BH R Dt<|iR R)<|qT R (Bc (d:=.int .i64 ax.Col) R AI (iR R) R)<|qT R (Ey R (iR R)<|iR R)<|qT R (BK R (iR R)<|iR R)<|qO R (Ct R (iR R)<|iR R)<|qP R (BK R iL<|iR R)<|AQ.nil<|aq _<|cI R ay (λB=>?_) λB=>?_
  ·exact zI (l _<|xH j B) R id
  refine Zc<|c7 _<|aF [0,1,2,3,13,14] ?_
  exact aR<|AE B λb0 O az=>xA R O<|mM R<|Zh<|Zr az (AH [((T 0)+1)]) wk
 exact Zm<|U _ _ wk<|J1 _ (AH [(T 0)])<|xH j h3
theorem fp{j a c r}(h:N1 j a c=some r):AZ prog 90 [.agg<|A3 j,rI a,rI c] (rB r):=by
 unfold N1 at h
 exact mF func90 ntmps90 R λZ=>aU<|sS R (Aw (cs:=(A3 j)) 3 R iL R R)<|mA R<|aZ<|aT λF=>aR<|lF CV AI R R<|mM R<|AE h λx1 l I=>sQ R (CQ R iL iL λ_=>l)<|AE I λr2 m J=>cL (DX<|m) R<|mM R<|vF Cv AI R R<|vM R<|AE J λx2 q M=>vQ R (CQ R (iR R) iL<|Af q)<|AE M λr3 w O=>vL (λhg=>DX<|Af w hg) R<|xN R<|mM R<|vF Gg AI R R<|vM R<|vF CV AI R R<|AE O λx3 A T=>vQ R (CQ R (iR R) (iR R)<|Af A)<|AE T λr4 B U=>vL (λhg=>DX<|Af B hg) R<|xN R<|mM R<|vF GB AI R R<|vM R<|vF Cv AI R R<|AE U λx4 C V=>vQ R (CQ R (iR R) (iR R)<|Af C)<|AE V λr5 E X=>vL (λhg=>DX<|Af E hg) R<|xN R<|mA R<|aZ<|F _<|Zi<|yB X R
theorem Xt{j l r}(h:NX j l=some r):AZ prog 91 [.agg<|A3 j,.agg<|A3 l] (rB r):=by
 unfold NX at h
 refine mF func91 ntmps91 R λM=>aU<|sS R (Aw (cs:=(A3 j)) 2 R iL R R)<|sS R (Aw (cs:=(A3 l)) 3 R iL R R)<|mA R<|aZ<|aT λB=>?_
 refine Zz BV (by kernel_rfl) ?_
 refine qP R (fB R CV iL fR R)<|qP R (AU (a:=rI j.Row) R AI iL R R)<|qP R (fB R CV iL fR R)<|qP R (AU (a:=rI l.Row) R AI iL R R)<|qP R (TQ R iL iL)<|qP R (fB R Cv iL fR R)<|qP R (AU (a:=rI j.Col) R AI iL R R)<|qP R (fB R Cv iL fR R)<|qP R (AU (a:=rI l.Col) R AI iL R R)<|qP R (TQ R iL iL)<|qP R (EF R iL)<|qP R (EF R iL)<|AQ.nil<|B _<|aT λC=>aG [2,3,5,6] [2,3] ?_
 exact aR<|mM R<|lF CV AI R R<|lF Gg AI R R<|AE h λO m E=>xA R m<|lF CV AI R R<|lF Gg AI R R<|AE E λT q F=>xA R q<|sQ R (VO R iL iL)<|xS R<|mM R<|vM R<|vF Cv AI R R<|vF GB AI R R<|AE F λU w I=>vQ R (HO R (iR R) (iR R)<|Af w)<|vF Cv AI R R<|vF GB AI R R<|AE I λV A J=>vQ R (HO R (iR R) (iR R)<|Af A)<|vQ R (VO R (iR R)<|iR R)<|vQ R (Bz R (iR R)<|iR R)<|xN R<|mA R<|aZ<|C _<|Zi<|yB J R
end Go.Proofs.YtmogkkigacadpaaGreatDoor.Al
