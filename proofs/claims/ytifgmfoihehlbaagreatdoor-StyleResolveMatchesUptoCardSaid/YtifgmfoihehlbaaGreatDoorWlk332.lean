/- Walks, as printed. -/
import Derived.Test.YtifgmfoihehlbaaGreatDoorPL2
import Derived.Test.YtifgmfoihehlbaaGreatDoorProg
set_option linter.all false
set_option maxHeartbeats 4000000
set_option maxRecDepth 20000
set_option linter.unusedVariables false
namespace Go.Proofs.YtifgmfoihehlbaaGreatDoor.Al
open Go.Proofs Go.Proofs.Tryz
@[reducible] noncomputable def CW t:=(prog.info? t).map (λi=>(i.zero,i.size,i.bytes))
theorem BR:prog.follows .mixedOrders=true:=by kernel_rfl
theorem TS:CW 105=some (some<|.agg #[.int .i64 0,.int .i64 0,.bool false],3,24):=by kernel_rfl
theorem RC:CW 107=some (some<|.agg #[.int .i64 0,.int .i64 0,.string ⟨#[]⟩,.int .i64 0,.slice none 0 0],5,64):=by kernel_rfl
theorem M2:CW 109=some (some<|.agg #[.int .i64 0,.int .i64 0,.int .i64 0,.int .i64 0],4,32):=by kernel_rfl
theorem cF:CW 121=some (some<|.nilFunc,1,8):=by kernel_rfl
theorem Y8:CW 133=some (some<|.agg #[.int .i64 0,.int .i64 0,.bool false],3,24):=by kernel_rfl
theorem UQ:CW 134=some (some<|.nilFunc,1,8):=by kernel_rfl
theorem Ru:CW 146=some (some<|.agg #[.int .i64 0,.int .i64 0,.int .i64 0,.int .i64 0,.int .i64 0,.string ⟨#[]⟩,.string ⟨#[]⟩,.string ⟨#[]⟩],8,88):=by kernel_rfl
theorem TQ:CW 162=some (some<|.slice none 0 0,1,24):=by kernel_rfl
theorem Ou:CW 167=some (some<|.agg #[.int .i64 0,.int .i64 0,.string ⟨#[]⟩,.slice none 0 0],4,56):=by kernel_rfl
theorem U8:CW 193=some (some<|.map none,1,8):=by kernel_rfl
theorem Xe:CW 194=some (some<|.map none,1,8):=by kernel_rfl
theorem Y6:CW 195=some (some<|.map none,1,8):=by kernel_rfl
theorem dD:CW 197=some (some<|.agg #[.map none,.map none],2,16):=by kernel_rfl
theorem kD:CW 198=some (some<|.pointer none,1,8):=by kernel_rfl
theorem TB:CW 199=some (some<|.nilFunc,1,8):=by kernel_rfl
theorem QH:CW 208=some (some<|.agg #[.int .u8 0,.int .u8 0],2,2):=by kernel_rfl
theorem R4:CW 22=some (some<|.slice none 0 0,1,24):=by kernel_rfl
theorem Qf:CW 24=some (some<|.agg #[.slice none 0 0],1,24):=by kernel_rfl
theorem DM:CW 3=some (some<|.int .i64 0,1,8):=by kernel_rfl
theorem LJ:CW 35=some (some<|.slice none 0 0,1,24):=by kernel_rfl
theorem Ma:CW 37=some (some<|.agg #[.int .i64 0,.int .i64 0,.slice none 0 0],3,40):=by kernel_rfl
theorem Ro:CW 4=some (some<|.bool false,1,1):=by kernel_rfl
theorem Te:CW 47=some (some<|.slice none 0 0,1,24):=by kernel_rfl
theorem U9:CW 48=some (some<|.slice none 0 0,1,24):=by kernel_rfl
theorem S6:CW 49=some (some<|.slice none 0 0,1,24):=by kernel_rfl
theorem QO:CW 5=some (some<|.int .u8 0,1,1):=by kernel_rfl
theorem NU:CW 51=some (some<|.agg #[.int .i64 0,.int .i64 0,.slice none 0 0,.slice none 0 0],4,64):=by kernel_rfl
theorem TR:CW 52=some (some<|.slice none 0 0,1,24):=by kernel_rfl
theorem L9:CW 54=some (some<|.agg #[.int .i64 0,.int .i64 0,.slice none 0 0,.slice none 0 0,.int .i64 0,.int .i64 0,.slice none 0 0,.slice none 0 0,.slice none 0 0],9,152):=by kernel_rfl
theorem NX:CW 71=some (some<|.agg #[.string ⟨#[]⟩,.string ⟨#[]⟩],2,32):=by kernel_rfl
theorem UZ:CW 74=some (some<|.agg #[.slice none 0 0],1,24):=by kernel_rfl
theorem IW:CW 9=some (some<|.string ⟨#[]⟩,1,16):=by kernel_rfl
theorem T2:CW 94=some (some<|.map none,1,8):=by kernel_rfl
def Iq:=DS.of RC
def H0:=DS.of M2
def o9:=DS.of UQ
def P5:=DS.of Ru
def RP:=DS.of TQ
def Ov:=DS.of Ou
def jG:=DS.of U8
def qA:=DS.of kD
def lY:=DS.of TB
def kX:=DS.of QH
def Mn:=DS.of Qf
def RK:=DS.of LJ
def Mv:=DS.of Ma
def Sp:=DS.of Ro
def lX:=DS.of NU
def GA:=DS.of L9
def SL:=DS.of NX
def X6:=DS.of UZ
def WR:=DS.of T2
theorem am:prog.underlying 181=some (.interface<|prog.methodsAt 181):=by kernel_rfl
theorem jg:Bo prog 105 3:=Bo.of underlying105 rfl TS
theorem Er:Bo prog 107 5:=Bo.of underlying107 rfl RC
theorem DU:Bo prog 109 4:=Bo.of underlying109 rfl M2
theorem bG:Bo prog 133 3:=Bo.of underlying133 rfl Y8
theorem G3:Bo prog 146 8:=Bo.of underlying146 rfl Ru
theorem G4:Bo prog 167 4:=Bo.of underlying167 rfl Ou
theorem jb:Bo prog 208 2:=Bo.of underlying208 rfl QH
theorem Bs:Bo prog 24 1:=Bo.of underlying24 rfl Qf
theorem FR:Bo prog 37 3:=Bo.of underlying37 rfl Ma
theorem HV:Bo prog 51 4:=Bo.of underlying51 rfl NU
theorem Cf:Bo prog 54 9:=Bo.of underlying54 rfl L9
theorem D7:Bo prog 71 2:=Bo.of underlying71 rfl NX
theorem KZ:Bo prog 74 1:=Bo.of underlying74 rfl UZ
theorem kS:Hh 0=some (GP.flatMap<|A3 .u8):=by kernel_rfl
theorem nH:Hh 1=some (ST.flatMap Ip.row):=by kernel_rfl
theorem QC:DX prog 105 [(0,1),(1,1),(2,1)] [.int .i64 0,.int .i64 0,.bool false]:=DX.of underlying105 (λw=>by kernel_rfl) TS
theorem WZ:DX prog 109 [(0,1),(1,1),(2,1),(3,1)] [.int .i64 0,.int .i64 0,.int .i64 0,.int .i64 0]:=DX.of underlying109 (λw=>by kernel_rfl) M2
theorem RS:DX prog 133 [(0,1),(1,1),(2,1)] [.int .i64 0,.int .i64 0,.bool false]:=DX.of underlying133 (λw=>by kernel_rfl) Y8
theorem RD:DX prog 167 [(0,1),(1,1),(2,1),(3,1)] [.int .i64 0,.int .i64 0,.string ⟨#[]⟩,.slice none 0 0]:=DX.of underlying167 (λw=>by kernel_rfl) Ou
theorem gQ:DX prog 197 [(0,1),(1,1)] [.map none,.map none]:=DX.of underlying197 (λw=>by kernel_rfl) dD
theorem Ri:DX prog 24 [(0,1)] [.slice none 0 0]:=DX.of underlying24 (λw=>by kernel_rfl) Qf
theorem Jf:DX prog 37 [(0,1),(1,1),(2,1)] [.int .i64 0,.int .i64 0,.slice none 0 0]:=DX.of underlying37 (λw=>by kernel_rfl) Ma
theorem pw:DX prog 51 [(0,1),(1,1),(2,1),(3,1)] [.int .i64 0,.int .i64 0,.slice none 0 0,.slice none 0 0]:=DX.of underlying51 (λw=>by kernel_rfl) NU
theorem Jv:DX prog 54 [(0,1),(1,1),(2,1),(3,1),(4,4),(8,1)] [.int .i64 0,.int .i64 0,.slice none 0 0,.slice none 0 0,.int .i64 0,.int .i64 0,.slice none 0 0,.slice none 0 0,.slice none 0 0]:=DX.of underlying54 (λw=>by kernel_rfl) L9
theorem Fg:DX prog 71 [(0,1),(1,1)] [.string ⟨#[]⟩,.string ⟨#[]⟩]:=DX.of underlying71 (λw=>by kernel_rfl) NX
theorem Xr:HQ prog 109 [some<|.int .i64,some<|.int .i64,some<|.int .i64,some<|.int .i64]:=HQ.of underlying109 (by kernel_rfl) (by kernel_rfl)<|by exact⟨rfl,rfl,underlying3,rfl,rfl,underlying3,rfl,rfl,underlying3,rfl,rfl,underlying3,trivial⟩
theorem hZ:HQ prog 146 [some<|.int .i64,some<|.int .i64,some<|.int .i64,some<|.int .i64,some<|.int .i64,some .string,some .string,some .string]:=HQ.of underlying146 (by kernel_rfl) (by kernel_rfl)<|by exact⟨rfl,rfl,underlying3,rfl,rfl,underlying3,rfl,rfl,underlying3,rfl,rfl,underlying3,rfl,rfl,underlying3,rfl,rfl,underlying9,rfl,rfl,underlying9,rfl,rfl,underlying9,trivial⟩
theorem Xg:HQ prog 71 [some .string,some .string]:=HQ.of underlying71 (by kernel_rfl) (by kernel_rfl)<|by exact⟨rfl,rfl,underlying9,rfl,rfl,underlying9,trivial⟩
theorem KQ:Aq prog 105 0 0:=Aq.of underlying105 rfl rfl DM<|by decide
theorem S5:Aq prog 105 2 2:=Aq.of underlying105 rfl rfl Ro<|by decide
theorem Ei:Aq prog 107 0 0:=Aq.of underlying107 rfl rfl DM<|by decide
theorem FA:Aq prog 107 1 1:=Aq.of underlying107 rfl rfl DM<|by decide
theorem Hm:Aq prog 107 2 2:=Aq.of underlying107 rfl rfl IW<|by decide
theorem EA:Aq prog 107 3 3:=Aq.of underlying107 rfl rfl DM<|by decide
theorem GL:Aq prog 107 4 4:=Aq.of underlying107 rfl rfl LJ<|by decide
theorem Ct:Aq prog 109 0 0:=Aq.of underlying109 rfl rfl DM<|by decide
theorem DW:Aq prog 109 1 1:=Aq.of underlying109 rfl rfl DM<|by decide
theorem Gf:Aq prog 109 2 2:=Aq.of underlying109 rfl rfl DM<|by decide
theorem Gx:Aq prog 109 3 3:=Aq.of underlying109 rfl rfl DM<|by decide
theorem KX:Aq prog 133 0 0:=Aq.of underlying133 rfl rfl DM<|by decide
theorem aW:Aq prog 133 1 1:=Aq.of underlying133 rfl rfl DM<|by decide
theorem Uy:Aq prog 133 2 2:=Aq.of underlying133 rfl rfl Ro<|by decide
theorem IY:Aq prog 146 0 0:=Aq.of underlying146 rfl rfl DM<|by decide
theorem Kh:Aq prog 146 1 1:=Aq.of underlying146 rfl rfl DM<|by decide
theorem Fu:Aq prog 146 2 2:=Aq.of underlying146 rfl rfl DM<|by decide
theorem Fa:Aq prog 146 3 3:=Aq.of underlying146 rfl rfl DM<|by decide
theorem G8:Aq prog 146 4 4:=Aq.of underlying146 rfl rfl DM<|by decide
theorem Lw:Aq prog 146 5 5:=Aq.of underlying146 rfl rfl IW<|by decide
theorem L6:Aq prog 146 6 6:=Aq.of underlying146 rfl rfl IW<|by decide
theorem Jm:Aq prog 146 7 7:=Aq.of underlying146 rfl rfl IW<|by decide
theorem Ec:Aq prog 167 0 0:=Aq.of underlying167 rfl rfl DM<|by decide
theorem Mg:Aq prog 167 1 1:=Aq.of underlying167 rfl rfl DM<|by decide
theorem If:Aq prog 167 2 2:=Aq.of underlying167 rfl rfl IW<|by decide
theorem Kz:Aq prog 167 3 3:=Aq.of underlying167 rfl rfl LJ<|by decide
theorem TU:Aq prog 197 0 0:=Aq.of underlying197 rfl rfl Xe<|by decide
theorem Us:Aq prog 197 1 1:=Aq.of underlying197 rfl rfl Y6<|by decide
theorem dE:Aq prog 208 0 0:=Aq.of underlying208 rfl rfl QO<|by decide
theorem kv:Aq prog 208 1 1:=Aq.of underlying208 rfl rfl QO<|by decide
theorem CH:Aq prog 24 0 0:=Aq.of underlying24 rfl rfl R4<|by decide
theorem Ge:Aq prog 37 0 0:=Aq.of underlying37 rfl rfl DM<|by decide
theorem Ds:Aq prog 37 1 1:=Aq.of underlying37 rfl rfl DM<|by decide
theorem LK:Aq prog 37 2 2:=Aq.of underlying37 rfl rfl LJ<|by decide
theorem GZ:Aq prog 51 0 0:=Aq.of underlying51 rfl rfl DM<|by decide
theorem GD:Aq prog 51 1 1:=Aq.of underlying51 rfl rfl DM<|by decide
theorem D4:Aq prog 51 2 2:=Aq.of underlying51 rfl rfl U9<|by decide
theorem EL:Aq prog 51 3 3:=Aq.of underlying51 rfl rfl S6<|by decide
theorem Dk:Aq prog 54 0 0:=Aq.of underlying54 rfl rfl DM<|by decide
theorem Cd:Aq prog 54 1 1:=Aq.of underlying54 rfl rfl DM<|by decide
theorem Eg:Aq prog 54 2 2:=Aq.of underlying54 rfl rfl LJ<|by decide
theorem ET:Aq prog 54 3 3:=Aq.of underlying54 rfl rfl Te<|by decide
theorem EH:Aq prog 54 4 4:=Aq.of underlying54 rfl rfl NU<|by decide
theorem GW:Aq prog 54 5 8:=Aq.of underlying54 rfl rfl TR<|by decide
theorem Cz:Aq prog 71 0 0:=Aq.of underlying71 rfl rfl IW<|by decide
theorem Hk:Aq prog 71 1 1:=Aq.of underlying71 rfl rfl IW<|by decide
theorem S2:Aq prog 74 0 0:=Aq.of underlying74 rfl rfl R4<|by decide
theorem LZ:Br prog 100 105 3 24:=Br.of underlying100 TS rfl rfl<|by decide
theorem BU:Br prog 162 167 4 56:=Br.of underlying162 Ou rfl rfl<|by decide
theorem A8:Br prog 22 54 9 152:=Br.of underlying22 L9 rfl rfl<|by decide
theorem Ay:Br prog 35 71 2 32:=Br.of underlying35 NX rfl rfl<|by decide
theorem Ly:Br prog 38 9 1 16:=Br.of underlying38 IW rfl rfl<|by decide
theorem Bu:Br prog 47 37 3 40:=Br.of underlying47 Ma rfl rfl<|by decide
theorem B8:Br prog 48 107 5 64:=Br.of underlying48 RC rfl rfl<|by decide
theorem Cp:Br prog 49 109 4 32:=Br.of underlying49 M2 rfl rfl<|by decide
theorem D9:Br prog 52 146 8 88:=Br.of underlying52 Ru rfl rfl<|by decide
theorem CU:Br prog 68 3 1 8:=Br.of underlying68 DM rfl rfl<|by decide
theorem jd:Jq prog 37 [.int .i64 0,.int .i64 0,.sl []]:=Jq.of Ma rfl
theorem Zp:Jq prog 54 [.int .i64 0,.int .i64 0,.sl [],.sl [],.int .i64 0,.int .i64 0,.sl [],.sl [],.sl []]:=Jq.of L9 rfl
theorem ke:BY prog 121:=BY.of underlying121 rfl cF
theorem PT:BY prog 134:=BY.of underlying134 rfl UQ
theorem TA:BY prog 162:=BY.of underlying162 rfl TQ
theorem QI:BY prog 193:=BY.of underlying193 rfl U8
theorem T1:BY prog 194:=BY.of underlying194 rfl Xe
theorem T7:BY prog 195:=BY.of underlying195 rfl Y6
theorem Xt:BY prog 199:=BY.of underlying199 rfl TB
theorem B7:BY prog 22:=BY.of underlying22 rfl R4
theorem AJ:BY prog 3:=BY.of underlying3 rfl DM
theorem Bw:BY prog 35:=BY.of underlying35 rfl LJ
theorem Ms:BY prog 4:=BY.of underlying4 rfl Ro
theorem E0:BY prog 47:=BY.of underlying47 rfl Te
theorem EK:BY prog 48:=BY.of underlying48 rfl U9
theorem EY:BY prog 49:=BY.of underlying49 rfl S6
theorem Tz:BY prog 5:=BY.of underlying5 rfl QO
theorem HA:BY prog 52:=BY.of underlying52 rfl TR
theorem A6:BY prog 9:=BY.of underlying9 rfl IW
theorem RO:BY prog 94:=BY.of underlying94 rfl T2
theorem gM:UX prog 206 256 5 1:=⟨underlying206,DQ QO⟩
theorem pX:UX prog 209 16 208 2:=⟨underlying209,DQ QH⟩
theorem IN:∃i,prog.info? 107=some i∧i.size=5:=DQ RC
theorem HL:∃i,prog.info? 109=some i∧i.size=4:=DQ M2
theorem ph:∃i,prog.info? 134=some i∧i.size=1:=DQ UQ
theorem Qs:∃i,prog.info? 146=some i∧i.size=8:=DQ Ru
theorem W9:∃i,prog.info? 162=some i∧i.size=1:=DQ TQ
theorem Ll:∃i,prog.info? 167=some i∧i.size=4:=DQ Ou
theorem lg:∃i,prog.info? 193=some i∧i.size=1:=DQ U8
theorem du:∃i,prog.info? 199=some i∧i.size=1:=DQ TB
theorem kq:∃i,prog.info? 208=some i∧i.size=2:=DQ QH
theorem YA:∃i,prog.info? 22=some i∧i.size=1:=DQ R4
theorem KW:∃i,prog.info? 24=some i∧i.size=1:=DQ Qf
theorem I2:∃i,prog.info? 35=some i∧i.size=1:=DQ LJ
theorem KC:∃i,prog.info? 37=some i∧i.size=3:=DQ Ma
theorem V0:∃i,prog.info? 47=some i∧i.size=1:=DQ Te
theorem pB:∃i,prog.info? 48=some i∧i.size=1:=DQ U9
theorem pr:∃i,prog.info? 49=some i∧i.size=1:=DQ S6
theorem Yz:∃i,prog.info? 51=some i∧i.size=4:=DQ NU
theorem dL:∃i,prog.info? 52=some i∧i.size=1:=DQ TR
theorem E8:∃i,prog.info? 54=some i∧i.size=9:=DQ L9
theorem Q4:∃i,prog.info? 71=some i∧i.size=2:=DQ NX
theorem bQ:∃i,prog.info? 74=some i∧i.size=1:=DQ UZ
theorem VT:∃i,prog.info? 94=some i∧i.size=1:=DQ T2
def AI.rowF(x:AI):List RV:=[.int .i64 x.ID,.int .i64 x.Kind,.sl<|x.Attrs.map AC.row,.slf<|x.Flow.map AL.row,.int .i64 x.Grid.Rows,.int .i64 x.Grid.Cols,.sl<|x.Grid.Cells.map Aj.row,.sl<|x.Grid.Merges.map Ai.row,.sl<|x.Draw.map Ax.row]
def rowsF:List AI→List (List RV)
  | []=>[]
  | x::l=>x.rowF::l.map AI.row
theorem Vu(l:List AI):(rowsF l).length=l.length:=by cases l<;>simp[rowsF]
theorem lc(l:List AI):∀row∈rowsF l,row.length=9:=by
  intro row h
  cases l with
  | nil=>cases h
  | cons x l=>
    rcases sB.1 h with rfl | h
    · rfl
    · obtain⟨y,_,rfl⟩:=sK.1 h;rfl
theorem bL{l:List AI}{x:AI}(h:AM l 0=some x):(rowsF l)[(0:Int).toNat]?=some x.rowF:=by
  have:=(ER h).2.1
  cases l with
  | nil=>cases this
  | cons y l=>cases this;rfl
theorem gt(l:List AI):((rowsF l).map λr=>r.map Jx)=l.map AI.row:=by
  cases l with
  | nil=>rfl
  | cons x l=>
    show x.row::(l.map AI.row).map (λr=>r.map Jx)=_
    rw[vK];rfl
theorem qN{s:St}(id:Nat){g e sz:Nat}{l:List AI}(j:hget s.h id=some (.arr g e sz<|rowsF l)):AZ s ⟨s.e,(id,some<|.arr g e sz<|l.map AI.row)::s.h,s.n,s.N⟩:=gt l ▸ qj id j
@[reducible] def qa(l:List AC):AV:=.r<|.sl<|l.map AC.row
@[reducible] def qb(l:List AI):AV:=.r<|.sl<|l.map AI.row
@[reducible] def qc(l:List Aj):AV:=.r<|.sl<|l.map Aj.row
@[reducible] def qd(l:List Ai):AV:=.r<|.sl<|l.map Ai.row
@[reducible] def qe(l:List AL):AV:=.r<|.sl<|l.map AL.row
@[reducible] def qf(l:List Ax):AV:=.r<|.sl<|l.map Ax.row
@[reducible] def qg(l:List AE):AV:=.r<|.sl<|l.map AE.row
@[reducible] def qh(l:List Ac):AV:=.r<|.sl<|l.map Ac.row
set_option linter.defProp false
@[reducible] def VC:List AV:=[rI<|1,rI<|0,.cst<|.slice none 0 0,.r<|.sl<|[(AL.mk 0 2 [])].map AL.row,rI<|0,rI<|0,.cst<|.slice none 0 0,.cst<|.slice none 0 0,.cst<|.slice none 0 0]
@[reducible] def De:List AV:=[rI<|0,rI<|0,.cst<|.slice none 0 0,.cst<|.slice none 0 0,rI<|0,rI<|0,.cst<|.slice none 0 0,.cst<|.slice none 0 0,.cst<|.slice none 0 0]
@[reducible] def IA(x:AI):List AV:=[.agg [rI<|x.ID,rI<|x.Kind,qa x.Attrs,qe x.Flow,rI<|x.Grid.Rows,rI<|x.Grid.Cols,qc x.Grid.Cells,qd x.Grid.Merges,qf x.Draw]]
@[reducible] def iX(x:Ax):List AV:=[.agg [rI<|x.Clock,rI<|x.Site,rI<|x.Kind,rI<|x.Item,rI<|x.Parent,.r<|.str x.Place,.r<|.str x.Name,.r<|.str x.Value]]
@[reducible] def Af(x:AI):List AV:=[rI<|x.ID,rI<|x.Kind,qa x.Attrs,qe x.Flow,rI<|x.Grid.Rows,rI<|x.Grid.Cols,qc x.Grid.Cells,qd x.Grid.Merges,qf x.Draw]
@[reducible] def Bm(x:Ax):List AV:=[rI<|x.Clock,rI<|x.Site,rI<|x.Kind,rI<|x.Item,rI<|x.Parent,.r<|.str x.Place,.r<|.str x.Name,.r<|.str x.Value]
@[reducible] def Rg:List AV:=[rI<|0,rI<|0,rI<|0,rI<|0,rI<|0,.r<|.str [],.r<|.str [],.r<|.str []]
@[reducible] def Yt(x:Aj):List AV:=[.agg [rI<|x.Row,rI<|x.Col,.r<|.str x.Text,rI<|x.Ref,qa x.Attrs]]
@[reducible] def Be(x:Aj):List AV:=[rI<|x.Row,rI<|x.Col,.r<|.str x.Text,rI<|x.Ref,qa x.Attrs]
@[reducible] def Qb:List AV:=[rI<|0,rI<|0,.cst<|.slice none 0 0,.cst<|.slice none 0 0]
@[reducible] def Hw:List AV:=[rI<|0,rI<|0,.r<|.str [],rI<|0,.cst<|.slice none 0 0]
@[reducible] def CV(x:AE):List AV:=[rI<|x.Item,rI<|x.Parent,.r<|.str x.Place,qa x.Attrs]
@[reducible] def VB(x:Ar):List AV:=[.agg [rI<|x.Rows,rI<|x.Cols,qc x.Cells,qd x.Merges]]
@[reducible] def Mb:List AV:=[rI<|0,rI<|0,.r<|.str [],.cst<|.slice none 0 0]
@[reducible] def QE:List AV:=[.r<|.str [115,116,121,108,101],.r<|.str [104]]
@[reducible] def CG(x:Ar):List AV:=[rI<|x.Rows,rI<|x.Cols,qc x.Cells,qd x.Merges]
@[reducible] def Rz:List AV:=[.r<|.str [115,116,121,108,101],.r<|.str []]
@[reducible] def BA(x:Ai):List AV:=[rI<|x.Row,rI<|x.Col,rI<|x.H,rI<|x.W]
@[reducible] def V3(x:AL):List AV:=[.agg [rI<|x.Char,rI<|x.Ref,qa x.Attrs]]
@[reducible] def FW(x:Aw):List AV:=[rI<|x.id,rI<|x.parent,rB<|x.visible]
@[reducible] def E7(x:Ac):List AV:=[rI<|x.ID,rI<|x.Parent,rB<|x.Visible]
@[reducible] def PK:List AV:=[rI<|10,rI<|0,.cst<|.slice none 0 0]
@[reducible] def Mh:List AV:=[rI<|0,rI<|0,.cst<|.slice none 0 0]
@[reducible] def Mf:List AV:=[rI<|0,rI<|2,.cst<|.slice none 0 0]
@[reducible] def Rs:List AV:=[rI<|0,rI<|3,.cst<|.slice none 0 0]
@[reducible] def Bf(x:AL):List AV:=[rI<|x.Char,rI<|x.Ref,qa x.Attrs]
@[reducible] def CD(x:AC):List AV:=[.r<|.str x.Name,.r<|.str x.Value]
@[reducible] def Fr:List AV:=[rI<|0,rI<|0,rI<|0,rI<|0]
@[reducible] def rH{T r:Int}{x:Exit}{s:St}{j:ResultVar}:=@Bz Int prog T r x s j λr=>rI r
@[reducible] def rE{T r:Bool}{x:Exit}{s:St}{j:ResultVar}:=@Bz Bool prog T r x s j λr=>rB r
@[reducible] def yI:=@Yq prog
@[reducible] def yB:=@WV prog
@[reducible] def Za:=@trivial
@[reducible] def Zc:=@AW.skip
@[reducible] def Ze:=@AW.block
@[reducible] def Zf:=@rx
@[reducible] def Zh:=@AX.nil
@[reducible] def Zi:=@AW.ret
@[reducible] def Zl:=@qi
@[reducible] def Zm:=@AW.exit
@[reducible] def Zq:=@Rq.mk
@[reducible] def Zr:=@sx
@[reducible] def Zt:=@qU
@[reducible] def Zw:=@AZ.trans
@[reducible] def Zy:=@qm
@[reducible] def ZA:=@qW
@[reducible] def ZB:=@qX
@[reducible] def ZI:=@Qo.mk
@[reducible] def ZJ:=@AX.weak
@[reducible] def ZK:=@q9
@[reducible] def ZN:=@qQ
@[reducible] def R:=@rfl
theorem Wi{r}(h:Ls=some r):AR prog 22 [] (.agg<|Bf r):=by
 unfold Ls at h
 refine mF func22 ntmps22 R λl=>aU<|sS R (BH (cs:=Mh) 0 R Mv R R)<|aZ<|aT λj=>aR ?_
 refine sQ R (Bj R Jf (q:=[(0,_)]) (by exact⟨R,R,R,iL,Za⟩) (cs:=PK)<|by rfl) ?_
 refine Zl R R (A4 (ds:=PK) R KC iL R iL R R R R)<|oZ j ?_
 exact Zi<|Bz (P:=prog) (λ(r:AL)=>.agg<|Bf r) h iL<|.a FR R R R<|.agg<|by exact⟨.closed _ R,.closed _ R,.nil,Za⟩
theorem bW{l r}(h:Qy l=some r):BC prog 21 1 [qe l] [] (λm h'=>∃(i:Nat→Nat),m=.agg [.own 1000<|i 0]∧h'=[(1000,some<|.arr (i 0) 54 9<|rowsF r)]):=by
 unfold Qy at h
 refine Dx func21 R R ntmps21 (Zr R) λj=>aU<|sS R (BH (cs:=[cZ]) 2 R Mn R R)<|aZ<|aT λq=>aR ?_
 refine sQ R (Bj R Jf (q:=[(1,_)]) (by exact⟨R,R,R,iL,Za⟩) (cs:=Mf)<|by rfl) ?_
 refine sS R (kc 4 R Bu (f:=AL.row) (l:=([(AL.mk 0 2 [])]:List AL)) ⟨R,⟨_,iL,R⟩,Za⟩ R (λ_=>R) R) ?_
 refine sQ R (Bj R Jv (q:=[(0,_),(3,_)]) (by exact⟨R,R,R,iL,R,R,R,iL,Za⟩) (cs:=[rI 1,rI 0,cZ,.full<|[(AL.mk 0 2 [])].map AL.row,rI 0,rI 0,cZ,cZ,cZ])<|by rfl) ?_
 refine mM R ?_
 refine sQ R (Bj R Jv (q:=[(0,_),(1,_),(3,_)]) (by exact⟨R,R,R,iL,R,R,R,iL,R,R,R,iL,Za⟩) (cs:=[rI 2,rI 1,cZ,qe l,rI 0,rI 0,cZ,cZ,cZ])<|by rfl) ?_
 refine sS R (Yo 1000 R A8 (rows:=rowsF [(AI.mk 1 0 [] [(AL.mk 0 2 [])] (Ar.mk 0 0 [] []) []),(AI.mk 2 1 [] l (Ar.mk 0 0 [] []) [])]) ⟨R,⟨_,iL,R⟩,R,⟨_,iL,R⟩,Za⟩ R (lc _) R) ?_
 refine sQ R (Bj R Ri (q:=[(0,_)]) (by exact⟨R,R,R,iL,Za⟩) (cs:=[.own 1000<|j+2])<|by rfl) ?_
 refine Zl R R (A4 (ds:=[.own 1000<|j+2]) R KW iL R iL R R R R)<|oZ q ?_
 exact Zi<|CE.mk (s':=⟨[(2,.ptr 2 j 0 0)],[(2,some<|.box j 24 [.own 1000<|j+2]),(1000,some<|.arr (j+2) 54 9<|rowsF [(AI.mk 1 0 [] [(AL.mk 0 2 [])] (Ar.mk 0 0 [] []) []),(AI.mk 2 1 [] l (Ar.mk 0 0 [] []) [])])],(j+3),10⟩) wk<|CP (λ(r:(List AI)) m h'=>∃(i:Nat→Nat),m=.agg [.own 1000<|i 0]∧h'=[(1000,some<|.arr (i 0) 54 9<|rowsF r)]) h<|by exact⟨.agg [.own 1000<|j+2],[(1000,some<|.arr (j+2) 54 9<|rowsF [(AI.mk 1 0 [] [(AL.mk 0 2 [])] (Ar.mk 0 0 [] []) []),(AI.mk 2 1 [] l (Ar.mk 0 0 [] []) [])])],.inr ⟨_,R,Bs,_,_,_,R,R⟩,⟨.inr R,Za⟩,R,R,AH [(j+2)],R,R⟩
theorem TH{j r}(h:Jy j=some r):AR prog 105 [rS j] (rB r):=by
 unfold Jy at h
 refine mF func105 ntmps105 R λn0=>aU<|mA R<|aZ<|aT λC2=>aU<|mM R<|sQ R (Dp R iL iL)<|mM R<|vM R<|vQ R (DJ R underlying9<|iR R)<|vQ R (Bh R (iR R) iL)<|xO R<|mM R<|vM R<|AG h λa0 l h1=>vQ R (Ck R underlying9 (iR R) iL<|Ad l)<|vQ R (CN R (iR R) iL)<|xO R<|mM R<|vM R<|AG h1 λa1 m h2=>vQ R (Ck R underlying9 (iR R) iL<|Ad m)<|vQ R (Bh R (iR R) iL)<|xO R<|aZ<|cI R h2 (λB=>?_) λB=>?_
 ·exact zB B R id
 refine Zc<|C2 _<|aS λK5 C5 C=>aT λC6=>aF [0] ?_
 refine aR<|mM R<|sQ R (DJ R underlying9 iL)<|mM R<|aZ<|C6 _<|Ze<|BM B λo1 q E F=>?_
 have J1:∀(X:Unit) (Z:NN),o1=.nrm X→K5 ⟨[],[],(Z 0),53⟩:=by
  intro X Z e
  have h4:=E _ e
  exact C5 _<|zB h4 R id
 refine Zt (λ(I:Int) A=>⟨[(0,rS j),(23,rL j),(24,rI I)],[],(A 0),53⟩) (AH [n0]) q wk ?_
 intro I A v1 J w
 have h5:Lo j I=some v1:=J;unfold Lo at h5
 refine aU<|xS R<|aZ<|aT λC9=>cI R h5 (λM=>?_) λM=>?_
 ·refine Zc<|C9 _<|aT λO=>Ze<|aU<|mM R<|mA R<|aZ<|aU<|mM R<|mM R<|AG M λc1 T h7=>sQ R (Ck R underlying9 iL iL λ_=>T)<|mA R<|aZ<|aU<|mM R<|xS R<|mM R<|vM R<|vQ R (Bh R (iR R) iL)<|xO R<|mM R<|vM R<|vQ R (CN R (iR R) iL)<|vQ R (AK R<|iR R)<|wQ R (AK R iL)<|wQ R (Bh R (iR R) iL)<|vQ R (CZ R (iR R)<|iR R)<|xN R<|mM R<|vM R<|vQ R (DL R (iR R) iL)<|xN R<|mM R<|vM R<|vQ R (DL R (iR R) iL)<|xN R<|aZ<|cI R h7 (λU=>?_) λU=>?_
  ·exact zB (F _<|xH w U) R id
  refine Zc<|O _<|aF [0,23,24] ?_
  exact aR<|AG U λx4 V h9=>xA R V<|mM R<|Zh<|Zq h9 (AH [(A 0)]) wk
 exact Zm<|C _ _ wk<|J1 _ (AH [(A 0)])<|xH w M
theorem Vk{l r}(h:L2 l=some r):AR prog 106 [rS l] (rB r):=by
 unfold L2 at h
 refine mF func106 ntmps106 R λZ=>aU<|mA R<|aZ<|aT λc2=>aU<|mM R<|sQ R (Dp R iL iL)<|mM R<|vM R<|vQ R (DJ R underlying9<|iR R)<|vQ R (Bh R (iR R) iL)<|xO R<|aZ<|cI R h (λA=>?_) λA=>?_
 ·exact zB A R id
 refine Zc<|c2 _<|aS λK5 c5 B=>aU<|mM R<|sQ R (DJ R underlying9 iL)<|mM R<|aZ<|Ze<|BM A λo1 m C E=>?_
 have J1:∀(U:Unit) (V:NN),o1=.nrm U→K5 ⟨[],[],(V 0),27⟩:=by
  intro U V e
  have h2:=C _ e
  exact c5 _<|zB h2 R id
 refine Zt (λ(F:Int) w=>⟨[(0,rS l),(12,rL l),(13,rI F)],[],(w 0),27⟩) (AH [Z]) m wk ?_
 intro F w v1 I q
 have X:ND l F=some v1:=I;unfold ND at X
 refine aU<|xS R<|aZ<|aT λc9=>cI R X (λJ=>?_) λJ=>?_
 ·refine Zc<|c9 _<|aT λM=>Ze<|aU<|mM R<|mA R<|aZ<|aU<|mM R<|mM R<|AG J λa0 j h5=>sQ R (Ck R underlying9 iL iL λ_=>j)<|xS R<|mM R<|vM R<|vM R<|vQ R (Ck R underlying9 (iR R) (iR R) λ_=>j)<|vQ R (Bh R (iR R) iL)<|xO R<|aZ<|cI R h5 (λO=>?_) λO=>?_
  ·exact zB (E _<|xH q O) R id
  refine Zc<|M _<|aF [0,12,13] ?_
  exact aR<|AG O λx4 T h7=>xA R T<|mM R<|Zh<|Zq h7 (AH [(w 0)]) wk
 exact Zm<|B _ _ wk<|J1 _ (AH [(w 0)])<|xH q J
theorem ec{q b r}(h:NC q b=some r):AR prog 67 [qa q,rB b] (rI r):=by
 unfold NC at h
 refine mF func67 ntmps67 R λn0=>aU<|mA R<|aZ<|aS λK2 c2 C=>aU<|mM R<|xL Ay R<|mM R<|aZ<|Ze<|BM h λo1 w E l=>?_
 have J1:∀(u2:Unit) (i5:NN),o1=.nrm u2→K2 ⟨[],[],(i5 0),48⟩:=by
  intro u2 i5 e
  have h1:=E _ e
  exact c2 _<|zI h1 R id
 refine Zt (λ(F:Int) A=>⟨[(0,qa q),(1,rB b),(7,qa q),(8,rL q),(9,rI F)],[],(A 0),48⟩) (AH [n0]) w wk ?_
 intro F A v1 I j
 have h2:Li q b F=some v1:=I;unfold Li at h2
 refine aU<|xS R<|aZ<|aT λc6=>cI R h2 (λJ=>?_) λJ=>?_
 ·refine Zc<|c6 _<|aT λc7=>Ze<|aU<|mM R<|AG J λB M h4=>xI Ay R M<|xB ((CD B)) D7 R<|sS R (BH (cs:=[.r<|.str [],.r<|.str []]) 6 R SL R R)<|mA R<|Zl R R (A4 (ds:=(CD B)) R Q4 iL R iL R R R R)<|aZ<|Ze<|aU<|lF Cz A6 R R<|AG h4 λr1 O h5=>cL (TH<|O) R<|sQ R (BD R iL)<|mA R<|aZ<|cI R h5 (λT=>?_) λT=>?_
  ·exact zI (l _<|xH j T) R id
  refine aT λU=>aG [0,1,5,6,7,8,9] [6] ?_
  refine aR<|lF Hk A6 R R<|AG T λr2 V h7=>cL (Vk<|V) R<|sQ R (BD R iL)<|mM R<|vM R<|vQ R (AK R<|iR R)<|wQ R (fB R Hk iL fR R)<|wQ R (Aa (a:=rS B.Value) R A6 (iR R) R R)<|wQ R (Dp R (iR R) iL)<|vQ R (Bb R (iR R)<|iR R)<|vQ R (BD R<|iR R)<|xN R<|mA R<|aZ<|U _<|cI R h7 (λX=>?_) λX=>?_
  ·exact zI (l _<|xH j X) R id
  refine aT λZ=>?_
  refine ZB BR (by kernel_rfl) ?_
  refine qP R (AK R iL)<|qP R (Bh R iL iL)<|qP R (AK R iL)<|qO R (fB R Cz iL fR R)<|qO R (Aa (a:=rS B.Name) R A6 (iR R) R R)<|qO R (AK R iL)<|qO R (AK R iL)<|AG X λx5 a0 h9=>qO R (CS R (iR R) iL<|Ad a0)<|AG h9 λx6 a1 a2=>qO R (BB R Ay.slice (iR R) (iR R) (λ_=>R)<|Ad a1)<|qO R (BK R Cz<|iR R)<|qO R (Bt (d:=.str x6.Name) R A6 (iR R) R)<|qO R (oV R (iR R)<|iR R)<|qP R (Bb R iL<|iR R)<|qP R (Ek R iL)<|AQ.nil<|Z _<|cI R a2 (λm=>?_) λm=>?_
  ·exact zI (l _<|xH j m) R id
  refine Zc<|c7 _<|aF [0,1,7,8,9] ?_
  exact aR<|AG m λx7 a6 a7=>xA R a6<|mM R<|Zh<|Zq a7 (AH [((A 0)+1)]) wk
 exact Zm<|C _ _ wk<|J1 _ (AH [(A 0)])<|xH j J
theorem Pn{l r}(h:Gu l=some r):AR prog 37 [qa l] (rI r):=by
 unfold Gu at h
 exact mF func37 ntmps37 R λq=>aU<|mA R<|aZ<|aU<|mM R<|AG h λw j m=>cL (ec<|j) R<|mA R<|aZ<|Zi<|yI m R
theorem YG{k r}(h:Fp k=some r):AR prog 26 [rI k] (rB r):=by
 unfold Fp at h
 exact mF func26 ntmps26 R λj=>aU<|mA R<|aZ<|aU<|mM R<|xQ R<|mM R<|vM R<|vQ R (A9 R (iR R) iL)<|xO R<|mM R<|vM R<|vQ R (A9 R (iR R) iL)<|xO R<|mM R<|vM R<|vQ R (A9 R (iR R) iL)<|xO R<|mA R<|aZ<|Zi<|yB h R
theorem eD{k r}(h:F6 k=some r):AR prog 84 [rI k] (rB r):=by
 unfold F6 at h
 exact mF func84 ntmps84 R λj=>aU<|mA R<|aZ<|aU<|mM R<|xQ R<|mM R<|vM R<|vQ R (A9 R (iR R) iL)<|xO R<|mA R<|aZ<|Zi<|yB h R
theorem bF{k r}(h:FD k=some r):AR prog 85 [rI k] (rB r):=by
 unfold FD at h
 exact mF func85 ntmps85 R λj=>aU<|mA R<|aZ<|aU<|mM R<|xQ R<|mM R<|vM R<|vQ R (A9 R (iR R) iL)<|xO R<|mA R<|aZ<|Zi<|yB h R
theorem dz{s a r}(h:P0 s a=some r):AR prog 118 [qd s,qd a] (rB r):=by
 unfold P0 at h
 refine mF func118 ntmps118 R λn0=>aU<|mA R<|aZ<|aT λc2=>aU<|mM R<|xL Cp R<|mM R<|xL Cp R<|xU R<|aZ<|cI R h (λq=>?_) λq=>?_
 ·exact zB q R id
 refine Zc<|c2 _<|aS λK5 c5 w=>aU<|mM R<|xL Cp R<|mM R<|aZ<|Ze<|BM q λo1 j A B=>?_
 have J1:∀(V:Unit) (X:NN),o1=.nrm V→K5 ⟨[],[],(X 0),26⟩:=by
  intro V X e
  have h2:=A _ e
  exact c5 _<|zB h2 R id
 refine Zt (λ(C:Int) m=>⟨[(0,qd s),(1,qd a),(12,rL s),(13,rI C)],[],(m 0),26⟩) (AH [n0]) j wk ?_
 intro C m v1 E l
 have Z:PQ s a C=some v1:=E;unfold PQ at Z
 refine aU<|xS R<|aZ<|aT λc9=>cI R Z (λF=>?_) λF=>?_
 ·refine Zc<|c9 _<|aT λI=>Ze<|aU<|mM R<|mA R<|aZ<|aT λJ=>?_
  refine ZB BR (by kernel_rfl) ?_
  refine qP R (AK R iL)<|qP R (AK R iL)<|AG F λx4 M h5=>qP R (BB R Cp.slice iL iL (λ_=>R) λ_=>M)<|qP R (Ce (cs:=(BA x4)) R DU iL R R)<|qP R (AK R iL)<|qP R (AK R iL)<|AG h5 λx5 O h6=>qP R (BB R Cp.slice iL iL (λ_=>R) λ_=>O)<|qP R (Ce (cs:=(BA x5)) R DU iL R R)<|qP R (OA R Xr iL iL R)<|AQ.nil<|J _<|cI R h6 (λT=>?_) λT=>?_
  ·exact zB (B _<|xH l T) R id
  refine Zc<|I _<|aF [0,1,12,13] ?_
  exact aR<|AG T λx6 U h8=>xA R U<|mM R<|Zh<|Zq h8 (AH [(m 0)]) wk
 exact Zm<|w _ _ wk<|J1 _ (AH [(m 0)])<|xH l F
theorem qG{j q r}(h:LI j q=some r):AR prog 143 [qa j,qa q] (rB r):=by
 unfold LI at h
 refine mF func143 ntmps143 R λn0=>aU<|mA R<|aZ<|aT λc2=>aU<|mM R<|xL Ay R<|mM R<|xL Ay R<|xU R<|aZ<|cI R h (λA=>?_) λA=>?_
 ·exact zB A R id
 refine Zc<|c2 _<|aS λK5 c5 B=>aU<|mM R<|xL Ay R<|mM R<|aZ<|Ze<|BM A λo1 l C E=>?_
 have J1:∀(Z:Unit) (i5:NN),o1=.nrm Z→K5 ⟨[],[],(i5 0),26⟩:=by
  intro Z i5 e
  have h2:=C _ e
  exact c5 _<|zB h2 R id
 refine Zt (λ(F:Int) w=>⟨[(0,qa j),(1,qa q),(12,rL j),(13,rI F)],[],(w 0),26⟩) (AH [n0]) l wk ?_
 intro F w v1 I m
 have h3:M9 j q F=some v1:=I;unfold M9 at h3
 refine aU<|xS R<|aZ<|aT λc9=>cI R h3 (λJ=>?_) λJ=>?_
 ·refine Zc<|c9 _<|aT λM=>Ze<|aU<|mM R<|mA R<|aZ<|aT λO=>?_
  refine ZB BR (by kernel_rfl) ?_
  refine qP R (AK R iL)<|qP R (AK R iL)<|AG J λx4 T h5=>qP R (BB R Ay.slice iL iL (λ_=>R) λ_=>T)<|qP R (Ce (cs:=(CD x4)) R D7 iL R R)<|qP R (AK R iL)<|qP R (AK R iL)<|AG h5 λx5 U h6=>qP R (BB R Ay.slice iL iL (λ_=>R) λ_=>U)<|qP R (Ce (cs:=(CD x5)) R D7 iL R R)<|qP R (OA R Xg iL iL R)<|AQ.nil<|O _<|cI R h6 (λV=>?_) λV=>?_
  ·exact zB (E _<|xH m V) R id
  refine Zc<|M _<|aF [0,1,12,13] ?_
  exact aR<|AG V λx6 X h8=>xA R X<|mM R<|Zh<|Zq h8 (AH [(w 0)]) wk
 exact Zm<|B _ _ wk<|J1 _ (AH [(w 0)])<|xH m J
theorem cB{j l r}(h:Pj j l=some r):AR prog 120 [.agg<|Be j,.agg<|Be l] (rB r):=by
 unfold Pj at h
 exact mF func120 ntmps120 R λA=>aU<|sS R (At (cs:=(Be j)) 2 R iL R R)<|sS R (At (cs:=(Be l)) 3 R iL R R)<|mA R<|aZ<|aT λq=>aR<|lF Ei AJ R R<|lF Ei AJ R R<|xQ R<|mM R<|vF FA AJ R R<|vF FA AJ R R<|vQ R (A9 R (iR R)<|iR R)<|xN R<|mM R<|vF Hm A6 R R<|vF Hm A6 R R<|vQ R (Dp R (iR R)<|iR R)<|xN R<|mM R<|vF EA AJ R R<|vF EA AJ R R<|vQ R (A9 R (iR R)<|iR R)<|xN R<|mM R<|vF GL Bw R R<|vF GL Bw R R<|AG h λB m w=>vL (λhg=>qG<|Ad m hg) R<|xN R<|mA R<|aZ<|q _<|Zi<|yB w R
theorem dI{s a r}(h:NT s a=some r):AR prog 119 [qc s,qc a,.fn 120 []] (rB r):=by
 unfold NT at h
 refine mF func119 ntmps119 R λn0=>aU<|mA R<|aZ<|aT λc2=>aU<|mM R<|xL B8 R<|mM R<|xL B8 R<|xU R<|aZ<|cI R h (λq=>?_) λq=>?_
 ·exact zB q R id
 refine Zc<|c2 _<|aS λK5 c5 w=>aU<|mM R<|xL B8 R<|mM R<|aZ<|Ze<|BM q λo1 j A B=>?_
 have J1:∀(X:Unit) (Z:NN),o1=.nrm X→K5 ⟨[],[],(Z 0),32⟩:=by
  intro X Z e
  have h2:=A _ e
  exact c5 _<|zB h2 R id
 refine Zt (λ(C:Int) m=>⟨[(1,qc a),(2,.fn 120 []),(15,qc s),(16,rL s),(17,rI C)],[],(m 0),32⟩) (AH [n0]) j wk ?_
 intro C m v1 E l
 have h3:N6 s a C=some v1:=E;unfold N6 at h3
 refine aU<|xS R<|aZ<|aT λc9=>cI R h3 (λF=>?_) λF=>?_
 ·refine Zc<|c9 _<|aT λI=>Ze<|aU<|mM R<|AG F λx4 J h5=>xI B8 R J<|xB ((Be x4)) Er R<|sS R (BH (cs:=Hw) 8 R Iq R R)<|mA R<|Zl R R (A4 (ds:=(Be x4)) R IN iL R iL R R R R)<|aZ<|aU<|mM R<|mM R<|AG h5 λx5 M h6=>xI B8 R M<|xB ((Be x5)) Er R<|sS R (BH (cs:=Hw) 9 R Iq R R)<|Zl R R (A4 (ds:=(Be x5)) R IN iL R iL R R R R)<|aZ<|aT λO=>aG [1,2,8,9,15,16,17] [8,9] ?_
  refine aR<|mM R<|xC Er R<|xC Er R<|AG h6 λr1 T h7=>cL (cB<|T) R<|sQ R (BD R iL)<|aZ<|O _<|cI R h7 (λU=>?_) λU=>?_
  ·exact zB (B _<|xH l U) R id
  exact Zc<|I _<|aR<|AG U λx6 V h9=>xA R V<|mM R<|Zh<|Zq h9 (AH [((m 0)+2)]) wk
 exact Zm<|w _ _ wk<|J1 _ (AH [(m 0)])<|xH l F
theorem oq{j l r}(h:Kv j l=some r):AR prog 86 [.agg<|CG j,.agg<|CG l] (rB r):=by
 unfold Kv at h
 exact mF func86 ntmps86 R λC=>aU<|sS R (At (cs:=(CG j)) 2 R iL R R)<|sS R (At (cs:=(CG l)) 3 R iL R R)<|mA R<|aZ<|aU<|lF GZ AJ R R<|lF GZ AJ R R<|xQ R<|mM R<|vF GD AJ R R<|vF GD AJ R R<|vQ R (A9 R (iR R)<|iR R)<|xN R<|mM R<|vF EL EY R R<|vF EL EY R R<|AG h λE m w=>vL (λhg=>dz<|Ad m hg) R<|xN R<|mM R<|vF D4 EK R R<|vF D4 EK R R<|AG w λA q B=>AX.stepW (.one R R R) R R (Cw (r:=rB A) (caps:=[]) (bs:=[qc j.Cells,qc l.Cells,.fn 120 []]) R iL R ⟨⟨_,(iR R),.d R⟩,⟨_,(iR R),.d R⟩,⟨_,iL,.one<|.closed (.fn 120 []) R⟩,Za⟩ (λhg=>dI<|Ad q hg) R)<|xN R<|mA R<|aZ<|Zi<|yB B R
theorem TZ{k r}(h:F1 k=some r):AR prog 87 [rI k] (rB r):=by
 unfold F1 at h
 exact mF func87 ntmps87 R λj=>aU<|mA R<|aZ<|aU<|mM R<|xQ R<|mM R<|vM R<|vQ R (A9 R (iR R) iL)<|xO R<|mM R<|vM R<|vQ R (A9 R (iR R) iL)<|xO R<|mA R<|aZ<|Zi<|yB h R
theorem YJ{j r}(h:La j=some r):AR prog 104 [rI j] (rB r):=by
 unfold La at h
 exact mF func104 ntmps104 R λl=>aU<|mA R<|aZ<|aU<|mM R<|xQ R<|mM R<|vM R<|vQ R (A9 R (iR R) iL)<|xO R<|mM R<|vM R<|vQ R (Cq R (iR R) iL)<|vQ R (AK R<|iR R)<|wQ R (AK R iL)<|wQ R (CN R (iR R) iL)<|vQ R (Bb R (iR R)<|iR R)<|xO R<|mM R<|vM R<|vQ R (Cq R (iR R) iL)<|vQ R (AK R<|iR R)<|wQ R (AK R iL)<|wQ R (CN R (iR R) iL)<|vQ R (Bb R (iR R)<|iR R)<|xO R<|mM R<|vM R<|vQ R (Bh R (iR R) iL)<|vQ R (AK R<|iR R)<|wQ R (AK R iL)<|wQ R (FG R (iR R) iL)<|vQ R (Bb R (iR R)<|iR R)<|xO R<|mA R<|aZ<|Zi<|yB h R
theorem XW{l r}(h:Le l=some r):AR prog 66 (V3 l) (rI r):=by
 unfold Le at h
 refine mF func66 ntmps66 R λw=>aU<|sS R (At (cs:=(Bf l)) 1 R iL R R)<|mA R<|aZ<|aT λT=>Ze<|aU<|lF Ge AJ R R<|xU R<|lF Ds AJ R R<|xU R<|sQ R (nX R underlying4 iL iL)<|mA R<|aZ<|cI R h (λA=>?_) λA=>?_
 ·exact zI A R id
 refine aS λU V m=>aT λX=>aG [1] [1] ?_
 refine aR<|lF Ds AJ R R<|xQ R<|mM R<|vF Ge AJ R R<|AG A λr1 B Z=>vL (λhg=>YJ<|Ad B hg) R<|vQ R (BD R<|iR R)<|xN R<|mA R<|aZ<|X _<|BS Z λp1 q C=>?_
 have M:∀(E:Bool) (O:NN),p1=E→U ⟨[(1,.ptr 1 w 0 0),(11,rB E)],[(1,some<|.box w 37<|Bf l)],(O 0),37⟩:=by
  intro E O e
  have h3:=C _ e
  refine V _<|cI R h3 (λF=>?_) λF=>?_
  ·exact zI F R id
  exact Zc<|T _<|aU<|lF LK Bw R R<|AG F λr2 I h5=>cL (Pn<|I) R<|mA R<|aZ<|Zi<|yI h5 R
 refine aC R (λj=>?_) λj=>?_
 ·have J:=DN j q
  exact Zc<|m _ _ wk<|M _ (AH [(w+1)]) (Zf J).symm
 ·have J:=DH j q
  refine aG [1] [1] ?_
  exact aR<|lF Ds AJ R R<|xU R<|mM R<|vF Ds AJ R R<|vQ R (CN R (iR R) iL)<|vQ R (AK R<|iR R)<|wQ R (fB R Ds iL fR R)<|wQ R (Aa (a:=rI l.Ref) R AJ (iR R) R R)<|wQ R (Bh R (iR R) iL)<|vQ R (CZ R (iR R)<|iR R)<|xN R<|mA R<|Zh<|m _ _ wk<|M _ (AH [(w+1)]) (Zf J).symm
theorem Z5{j a r}(h:FO j a=some r):AR prog 88 [qe j,rB a] (rI r):=by
 unfold FO at h
 refine mF func88 ntmps88 R λn0=>aU<|mA R<|aZ<|aS λK2 c2 B=>aU<|mM R<|xL Bu R<|mM R<|aZ<|Ze<|BM h λo1 q C w=>?_
 have J1:∀(u2:Unit) (i5:NN),o1=.nrm u2→K2 ⟨[(0,qe j),(1,rB a)],[],(i5 0),43⟩:=by
  intro u2 i5 e
  have h1:=C _ e
  refine c2 _<|aT λc4=>aU<|mM R<|mM R<|vM R<|vQ R (Cv R Bu.slice<|iR R)<|vQ R (A9 R (iR R) iL)<|vQ R (AK R<|iR R)<|wQ R (AK R iL)<|wQ R (AK R iL)<|wQ R (Cv R Bu.slice<|iR R)<|AG h1 λx4 E h2=>wQ R (CS R (iR R) iL<|Ad E)<|AG h2 λx5 F h3=>wQ R (BB R Bu.slice (iR R) (iR R) (λ_=>R)<|Ad F)<|wQ R (BK R Ge<|iR R)<|wQ R (Bt (d:=.int .i64 x5.Char) R AJ (iR R) R)<|wQ R (DL R (iR R) iL)<|vQ R (CZ R (iR R)<|iR R)<|xN R<|aZ<|cI R h3 (λI=>?_) λI=>?_
  ·exact zI I R id
  exact Zc<|c4 _<|zI I R id
 refine Zt (λ(J:Int) A=>⟨[(0,qe j),(1,rB a),(8,qe j),(9,rL j),(10,rI J)],[],(A 0),43⟩) (AH [n0]) q wk ?_
 intro J A v1 M l
 have h5:LP j a J=some v1:=M;unfold LP at h5
 refine aU<|xS R<|aZ<|aT λc9=>cI R h5 (λO=>?_) λO=>?_
 ·refine Zc<|c9 _<|aT λT=>Ze<|aU<|AG O λx6 U h7=>xI Bu R U<|xB ((Bf x6)) FR R<|sS R (BH (cs:=Mh) 6 R Mv R R)<|Zl R R (A4 (ds:=(Bf x6)) R KC iL R iL R R R R)<|aZ<|aT λV=>aU<|xC FR R<|AG h7 λe1 X h8=>cL (XW<|X) R<|mA R<|aZ<|aU<|mM R<|xU R<|aZ<|cI R h8 (λZ=>?_) λZ=>?_
  ·refine aT λa0=>aF [7] ?_
   exact aR<|mM R<|mA R<|aZ<|a0 _<|Zi<|yI (w _<|xH l Z) R
  refine Zc<|V _<|aU<|mM R<|sQ R (BD R iL)<|mM R<|vF Ds AJ R R<|vQ R (A9 R (iR R) iL)<|xN R<|aZ<|cI R Z (λm=>?_) λm=>?_
  ·exact zI (w _<|xH l m) R id
  refine Zc<|T _<|aF [0,1,8,9,10] ?_
  exact aR<|AG m λx7 a1 a2=>xA R a1<|mM R<|Zh<|Zq a2 (AH [((A 0)+1)]) wk
 exact Zm<|B _ _ wk<|J1 _ (AH [(A 0)])<|xH l O
theorem mw{s1 r}(h:OU s1=some r):AR prog 175 [rS s1] (.tup [.r<|.int .i32 r.1,rI r.2]):=by
 unfold OU at h
 refine mF func175 ntmps175 R λn0=>aU<|mA R<|mA R<|aZ<|aU<|mM R<|sQ R (DJ R underlying9 iL)<|mA R<|aZ<|aT λc3=>aU<|mM R<|xS R<|aZ<|cI R h (λE=>?_) λE=>?_
 ·exact aU<|mA R<|mA R<|aZ<|Zi<|DC (P:=prog) (λ(r:Int × Int)=>.r<|.int .i32 r.1) (λ(r:Int × Int)=>rI r.2) E iL (.t<|.d R)<|.t<|.d R
 refine Zc<|c3 _<|aU<|mM R<|AG E λag j h2=>sQ R (Ck R underlying9 iL iL λ_=>j)<|mA R<|aZ<|aT λc7=>aR<|mM R<|AG h2 λx1 F h3=>?_
 refine sQ R (VZ (f:=(A3 .u8)) (l:=GP) R gM kS (by kernel_rfl) iL (λ_=>R) (by decide) λ_=>F) ?_
 refine xV (.int .u8 x1) Tz R<|mA R<|aZ<|c7 _<|aT λc8=>aT λc9=>aF [0,4,5,6] ?_
 refine aR<|mM R<|sQ R (Cq R iL iL)<|aZ<|c9 _<|cI R h3 (λI=>?_) λI=>?_
 ·refine aU<|mM R<|sQ R (Ea R underlying5 underlying21 iL)<|sQ R (Kp (b:=31) R iL iL)<|sQ R (Ti (b:=31) R iL iL)<|mA R<|aZ<|aT λJ=>aF [0,7] ?_
  exact aR<|mM R<|sQ R (Ck R underlying9 iL iL λ_=>j)<|sQ R (Ea R underlying5 underlying21 iL)<|mM R<|sQ R (qD R iL iL)<|mM R<|sQ R (Gh R iL iL)<|sQ R (KF R iL iL)<|mA R<|mA R<|aZ<|J _<|Zi<|DC (P:=prog) (λ(r:Int × Int)=>.r<|.int .i32 r.1) (λ(r:Int × Int)=>rI r.2) I iL (.t<|.d R)<|.t<|.d R
 refine Zc<|c8 _<|aU<|mM R<|sQ R (Gh R iL iL)<|sQ R (Ea R underlying5 underlying3 iL)<|mA R<|aZ<|aT λM=>aR<|mM R<|sQ R (Ti (b:=4) R iL iL)<|AG I λC O h5=>?_
 refine sQ R (VZ (f:=Ip.row) (l:=ST) R pX nH (by kernel_rfl) iL (λ_=>R) (by decide) λ_=>O) ?_
 refine xB ([.r<|.int .u8 C.lo,.r<|.int .u8 C.hi]) jb R<|sS R (BH (cs:=[.r<|.int .u8 0,.r<|.int .u8 0]) 9 R kX R R)<|Zl R R (A4 (ds:=[.r<|.int .u8 C.lo,.r<|.int .u8 C.hi]) R kq iL R iL R R R R)<|aZ<|M _<|aT λT=>aT λU=>aG [0,4,5,8,9] [9] ?_
 refine aR<|mM R<|mM R<|xS R<|aZ<|U _<|cI R h5 (λV=>?_) λV=>?_
 ·exact aU<|mA R<|mA R<|aZ<|Zi<|DC (P:=prog) (λ(r:Int × Int)=>.r<|.int .i32 r.1) (λ(r:Int × Int)=>rI r.2) V iL (.t<|.d R)<|.t<|.d R
 refine Zc<|T _<|aU<|mM R<|AG V λah w h7=>sQ R (Ck R underlying9 iL iL λ_=>w)<|mA R<|aZ<|aT λX=>aU<|mM R<|lF dE Tz R R<|xS R<|mM R<|vF kv Tz R R<|vM R<|vQ R (CN R (iR R)<|iR R)<|xO R<|aZ<|cI R h7 (λZ=>?_) λZ=>?_
 ·refine aT λa0=>aF [] ?_
  exact aR<|mA R<|mA R<|aZ<|a0 _<|Zi<|DC (P:=prog) (λ(r:Int × Int)=>.r<|.int .i32 r.1) (λ(r:Int × Int)=>rI r.2) Z iL (.t<|.d R)<|.t<|.d R
 refine Zc<|X _<|aT λa1=>aT λa2=>aF [0,5,8,10] ?_
 refine aR<|mM R<|sQ R (FG R iL iL)<|aZ<|a2 _<|cI R Z (λh9=>?_) λh9=>?_
 ·exact aU<|mM R<|sQ R (Gh R iL iL)<|sQ R (Ea R underlying5 underlying21 iL)<|sQ R (Kp (b:=6) R iL iL)<|mM R<|sQ R (Gh R iL iL)<|sQ R (Ea R underlying5 underlying21 iL)<|sQ R (KF R iL iL)<|mA R<|mA R<|aZ<|Zi<|DC (P:=prog) (λ(r:Int × Int)=>.r<|.int .i32 r.1) (λ(r:Int × Int)=>rI r.2) h9 iL (.t<|.d R)<|.t<|.d R
 refine Zc<|a1 _<|aU<|mM R<|AG h9 λai A a6=>sQ R (Ck R underlying9 iL iL λ_=>A)<|mA R<|aZ<|aT λa7=>aU<|mM R<|xS R<|mM R<|vM R<|vQ R (CN R iL<|iR R)<|xO R<|aZ<|cI R a6 (λl=>?_) λl=>?_
 ·refine aT λa8=>aF [] ?_
  exact aR<|mA R<|mA R<|aZ<|a8 _<|Zi<|DC (P:=prog) (λ(r:Int × Int)=>.r<|.int .i32 r.1) (λ(r:Int × Int)=>rI r.2) l iL (.t<|.d R)<|.t<|.d R
 refine Zc<|a7 _<|aT λaa=>aT λab=>aF [0,5,8,10,11] ?_
 refine aR<|mM R<|sQ R (FG R iL iL)<|aZ<|ab _<|cI R l (λm=>?_) λm=>?_
 ·exact aU<|mM R<|sQ R (Gh R iL iL)<|sQ R (Ea R underlying5 underlying21 iL)<|sQ R (Kp (b:=12) R iL iL)<|mM R<|sQ R (Gh R iL iL)<|sQ R (Ea R underlying5 underlying21 iL)<|sQ R (Kp (b:=6) R iL iL)<|sQ R (KF R iL iL)<|mM R<|sQ R (Gh R iL iL)<|sQ R (Ea R underlying5 underlying21 iL)<|sQ R (KF R iL iL)<|mA R<|mA R<|aZ<|Zi<|DC (P:=prog) (λ(r:Int × Int)=>.r<|.int .i32 r.1) (λ(r:Int × Int)=>rI r.2) m iL (.t<|.d R)<|.t<|.d R
 refine Zc<|aa _<|aU<|mM R<|AG m λaj B ac=>sQ R (Ck R underlying9 iL iL λ_=>B)<|mA R<|aZ<|aT λad=>aU<|mM R<|xS R<|mM R<|vM R<|vQ R (CN R iL<|iR R)<|xO R<|aZ<|cI R ac (λq=>?_) λq=>?_
 ·refine aT λae=>aF [] ?_
  exact aR<|mA R<|mA R<|aZ<|ae _<|Zi<|DC (P:=prog) (λ(r:Int × Int)=>.r<|.int .i32 r.1) (λ(r:Int × Int)=>rI r.2) q iL (.t<|.d R)<|.t<|.d R
 refine Zc<|ad _<|aT λaf=>aF [5,10,11,12] ?_
 exact aR<|mM R<|sQ R (Gh R iL iL)<|sQ R (Ea R underlying5 underlying21 iL)<|sQ R (Kp (b:=18) R iL iL)<|mM R<|sQ R (Gh R iL iL)<|sQ R (Ea R underlying5 underlying21 iL)<|sQ R (Kp (b:=12) R iL iL)<|sQ R (KF R iL iL)<|mM R<|sQ R (Gh R iL iL)<|sQ R (Ea R underlying5 underlying21 iL)<|sQ R (Kp (b:=6) R iL iL)<|sQ R (KF R iL iL)<|mM R<|sQ R (Gh R iL iL)<|sQ R (Ea R underlying5 underlying21 iL)<|sQ R (KF R iL iL)<|mA R<|mA R<|aZ<|af _<|Zi<|DC (P:=prog) (λ(r:Int × Int)=>.r<|.int .i32 r.1) (λ(r:Int × Int)=>rI r.2) q iL (.t<|.d R)<|.t<|.d R
theorem ml{w r}(h:M3 w=some r):AR prog 162 [rS w] (.tup [.r<|.int .i32 r.1,rI r.2]):=by
 unfold M3 at h
 refine mF func162 ntmps162 R λM=>aU<|mA R<|mA R<|aZ<|aT λA=>aU<|mM R<|sQ R (Dt R iL iL)<|mM R<|vM R<|AG h λB j C=>vQ R (Ck R underlying9 (iR R) iL<|Ad j)<|vQ R (CN R (iR R) iL)<|xN R<|aZ<|cI R C (λm=>?_) λm=>?_
 ·refine aT λE=>aF [0] ?_
  exact aR<|mM R<|AG m λF l I=>sQ R (Ck R underlying9 iL iL λ_=>l)<|sQ R (Ea R underlying5 underlying21 iL)<|mA R<|mA R<|aZ<|E _<|Zi<|DC (P:=prog) (λ(r:Int × Int)=>.r<|.int .i32 r.1) (λ(r:Int × Int)=>rI r.2) I iL (.t<|.d R)<|.t<|.d R
 refine aF [0] ?_
 exact aR<|mM R<|Ed m λO T q J=>cL (mw<|q) R<|mM R<|xX R<|xX R<|mA R<|mA R<|aZ<|A _<|Zi<|DC (P:=prog) (λ(r:Int × Int)=>.r<|.int .i32 r.1) (λ(r:Int × Int)=>rI r.2) J iL (.t<|.d R)<|.t<|.d R
theorem dY{O r}(h:O6 O=some r):AR prog 144 [rS O] (rB r):=by
 unfold O6 at h
 refine mF func144 ntmps144 R λX=>aU<|mA R<|aZ<|aS λZ c2 q=>Ze<|BM h λo1 j w A=>?_
 have J1:∀(T:Unit) (U:NN),o1=.nrm T→Z ⟨[],[],(U 0),31⟩:=by
  intro T U e
  have h1:=w _ e
  exact c2 _<|zB h1 R id
 refine Zt (λ(B:List UInt8) m=>⟨[(0,rS B)],[],(m 0),31⟩) (AH [X]) j wk ?_
 intro B m v1 C l
 have V:FT B=some v1:=C;unfold FT at V
 refine aT λc4=>aU<|mM R<|sQ R (Dt R iL iL)<|aZ<|cI R V (λE=>?_) λE=>?_
 ·refine Zc<|c4 _<|Ze<|aU<|mM R<|Ed E λr1 r2 F h4=>cL (ml<|F) R<|mM R<|xX R<|xX R<|mA R<|mA R<|aZ<|aT λc7=>aU<|mM R<|xQ R<|mM R<|vM R<|vQ R (A9 R (iR R) iL)<|xN R<|mM R<|vM R<|vQ R (A9 R (iR R) iL)<|xO R<|mM R<|vM R<|vQ R (Ea R underlying21 underlying3<|iR R)<|AG h4 λr3 I h5=>vL (λhg=>YJ<|Ad I hg) R<|vQ R (BD R<|iR R)<|xO R<|aZ<|cI R h5 (λJ=>?_) λJ=>?_
  ·exact zB (A _<|xH l J) R id
  refine Zc<|c7 _<|aF [0,4] ?_
  refine aR<|mM R<|mM R<|AG J λs5 M h7=>?_
  refine sQ R (JZ R underlying9 iL (by exact⟨_,iL⟩) (by exact R) λ_=>M) ?_
  exact mA R<|Zh<|Zq h7 (AH [(m 0)]) wk
 exact Zm<|q _ _ wk<|J1 _ (AH [(m 0)])<|xH l E
theorem nD{j r}(h:OR j=some r):AR prog 145 (Yt j) (rB r):=by
 unfold OR at h
 exact mF func145 ntmps145 R λl=>aU<|sS R (At (cs:=(Be j)) 1 R iL R R)<|mA R<|aZ<|aU<|lF Hm A6 R R<|sQ R (Dp R iL iL)<|mM R<|vF EA AJ R R<|vQ R (A9 R (iR R) iL)<|xN R<|mM R<|vF GL Bw R R<|vQ R (Cv R Ay.slice<|iR R)<|vQ R (A9 R (iR R) iL)<|xN R<|mA R<|aZ<|Zi<|yB h R
theorem WW{j r}(h:Lp j=some r):AR prog 163 [rI j] (rB r):=by
 unfold Lp at h
 exact mF func163 ntmps163 R λl=>aU<|mA R<|aZ<|aU<|mM R<|mM R<|xU R<|mA R<|aZ<|Zi<|yB h R
theorem L8{O T r}(h:GC O T=some r):AR prog 150 [rI O,rI T] (rI r):=by
 unfold GC at h
 refine mF func150 ntmps150 R λn0=>aU<|mA R<|aZ<|aU<|mM R<|AG h λm j U=>cL (WW<|j) R<|mA R<|aZ<|aU<|mM R<|AG U λq l V=>cL (WW<|l) R<|mA R<|aZ<|aT λX=>aU<|mM R<|aZ<|cI R V (λw=>?_) λw=>?_
 ·refine aT λZ=>aT λc7=>aF [6] ?_
  refine aR<|mM R<|aZ<|c7 _<|cI R w (λA=>?_) λA=>?_
  ·exact zI A R id
  exact Zc<|Z _<|zI A R id
 refine Zc<|X _<|aT λB=>aU<|mM R<|aZ<|cI R w (λC=>?_) λC=>?_
 ·exact zI C R id
 refine Zc<|B _<|aT λE=>aT λF=>aF [0,1] ?_
 refine aR<|mM R<|mM R<|xS R<|aZ<|F _<|cI R C (λI=>?_) λI=>?_
 ·exact zI I R id
 refine Zc<|E _<|aT λJ=>aU<|mM R<|mM R<|sQ R (Bh R iL iL)<|aZ<|cI R I (λM=>?_) λM=>?_
 ·exact zI M R id
 exact Zc<|J _<|zI M R id
theorem TI{v r}(h:IB v=some r):AR prog 149 [.r<|.sl<|v.map<|A3 .i64] (rI r):=by
 unfold IB at h
 refine mF func149 ntmps149 R λV=>aU<|mA R<|aZ<|aU<|mA R<|aZ<|aS λX Z q=>aU<|mM R<|xL CU R<|mM R<|aZ<|Ze<|BM h λo1 j w A=>?_
 have J1:∀(O:Unit) (T:NN),o1=.nrm O→X ⟨[(3,rI 0)],[],(T 0),18⟩:=by
  intro O T e
  have h1:=w _ e
  exact Z _<|aU<|mM R<|mA R<|aZ<|Zi<|yI h1 R
 refine Zt (λ(B:Int) m=>⟨[(3,rI 0),(6,.r<|.sl<|v.map<|A3 .i64),(7,rL v),(8,rI B)],[],(m 0),18⟩) (AH [V]) j wk ?_
 intro B m v1 C l
 have U:D3 v B=some v1:=C;unfold D3 at U
 refine aU<|xS R<|aZ<|aT λc7=>cI R U (λE=>?_) λE=>?_
 ·refine Zc<|c7 _<|aT λc8=>Ze<|aU<|AG E λx4 F h4=>xI CU R F<|xV (.int .i64 x4) AJ R<|mA R<|aZ<|aU<|mM R<|mM R<|xU R<|aZ<|cI R h4 (λI=>?_) λI=>?_
  ·refine aT λJ=>aF [5] ?_
   exact aR<|mM R<|mA R<|aZ<|J _<|Zi<|yI (A _<|xH l I) R
  exact Zc<|c8 _<|aR<|AG I λx5 M h6=>xA R M<|mM R<|Zh<|Zq h6 (AH [(m 0)]) wk
 exact Zm<|q _ _ wk<|J1 _ (AH [(m 0)])<|xH l E
theorem jH{l m r}(h:MS l m=some r):AR prog 146 [.agg<|Be l,.agg<|Be m] (rI r):=by
 unfold MS at h
 refine mF func146 ntmps146 R λj=>aU<|sS R (At (cs:=(Be l)) 2 R iL R R)<|sS R (At (cs:=(Be m)) 3 R iL R R)<|mA R<|aZ<|aT λC=>AG h λq w E=>?_
 refine rP 9 [pO 5<|.ptr 2 j 0 0,pO 6<|rI l.Row,pO 7<|.ptr 3 (j+1) 0 0,pO 8<|rI m.Row,pO 9<|rI q,pO 10<|.ptr 2 j 0 1,pO 11<|rI l.Col,pO 12<|.ptr 3 (j+1) 0 1,pO 13<|rI m.Col] BR R (by exact⟨oB [(2,.ptr 2 j 0 0)] [(2,some<|.box j 107<|Be l)]<|fB R Ei (.inl R) (λ_=>R) R,oB [(5,.ptr 2 j 0 0)] [(2,some<|.box j 107<|Be l)]<|Aa (a:=rI l.Row) R AJ (.inl R) R R,oB [(3,.ptr 3 (j+1) 0 0)] [(3,some<|.box (j+1) 107<|Be m)]<|fB R Ei (.inl R) (λ_=>R) R,oB [(7,.ptr 3 (j+1) 0 0)] [(3,some<|.box (j+1) 107<|Be m)]<|Aa (a:=rI m.Row) R AJ (.inl R) R R,oD (λ_=>[(6,rI l.Row),(8,rI m.Row)]) (λ_=>[]) λF e O n=>Cw (r:=rI q) (caps:=[]) (bs:=[rI l.Row,rI m.Row]) R (.inl R) R ⟨⟨_,(.inl R),.d R⟩,⟨_,(.inl R),.d R⟩,Za⟩ (λ_=>L8<|w) R,oB [(2,.ptr 2 j 0 0)] [(2,some<|.box j 107<|Be l)]<|fB R FA (.inl R) (λ_=>R) R,oB [(10,.ptr 2 j 0 1)] [(2,some<|.box j 107<|Be l)]<|Aa (a:=rI l.Col) R AJ (.inl R) R R,oB [(3,.ptr 3 (j+1) 0 0)] [(3,some<|.box (j+1) 107<|Be m)]<|fB R FA (.inl R) (λ_=>R) R,oB [(12,.ptr 3 (j+1) 0 1)] [(3,some<|.box (j+1) 107<|Be m)]<|Aa (a:=rI m.Col) R AJ (.inl R) R R,Za⟩) λF T=>?_
 refine BV [0,1,2,3,4,5,6,7,8,9,10,11,12,13] [2,3] ?_
 exact AG E λI A J=>cL (L8<|A) R<|sS R (BZ 15 R CU (f:=(A3 .i64)) (l:=([q,I]:List Int)) ⟨R,⟨_,iL,R⟩,R,⟨_,iL,R⟩,Za⟩ R (λ_=>R) R)<|AG J λU B M=>cL (TI<|B) R<|mA R<|aZ<|C _<|Zi<|yI M R
theorem d9{C a c n r}(h:Ns C a c n=some r):AR prog 121 [qc C,rI a,rI c,rB n] (rI r):=by
 unfold Ns at h
 refine mF func121 ntmps121 R λn0=>aU<|mA R<|aZ<|aS λK2 c2 I=>aU<|mM R<|xL B8 R<|mM R<|aZ<|Ze<|BM h λo1 E J l=>?_
 have J1:∀(u2:Unit) (i5:NN),o1=.nrm u2→K2 ⟨[],[],(i5 0),79⟩:=by
  intro u2 i5 e
  have h1:=J _ e
  exact c2 _<|zI h1 R id
 refine Zt (λ(M:Int) F=>⟨[(0,qc C),(1,rI a),(2,rI c),(3,rB n),(12,qc C),(13,rL C),(14,rI M)],[],(F 0),79⟩) (AH [n0]) E wk ?_
 intro M F v1 O j
 have h2:PE C a c n M=some v1:=O;unfold PE at h2
 refine aU<|xS R<|aZ<|aT λc6=>cI R h2 (λT=>?_) λT=>?_
 ·refine Zc<|c6 _<|aT λc7=>Ze<|aU<|mM R<|AG T λm U h4=>xI B8 R U<|xB ((Be m)) Er R<|sS R (BH (cs:=Hw) 10 R Iq R R)<|mA R<|Zl R R (A4 (ds:=(Be m)) R IN iL R iL R R R R)<|aZ<|aT λc9=>Ze<|aU<|lF Ei AJ R R<|xS R<|mM R<|vF Ei AJ R R<|vM R<|vQ R (Cq R (iR R)<|iR R)<|xO R<|mM R<|vF FA AJ R R<|vQ R (CN R (iR R) iL)<|xO R<|mM R<|vF FA AJ R R<|vM R<|vQ R (Cq R (iR R)<|iR R)<|xO R<|mA R<|aZ<|cI R h4 (λV=>?_) λV=>?_
  ·exact zI (l _<|xH j V) R id
  refine aT λX=>aG [0,1,2,3,9,10,12,13,14] [10] ?_
  refine aR<|lF EA AJ R R<|xS R<|mM R<|vF EA AJ R R<|vQ R (Bh R (iR R) iL)<|xO R<|mA R<|aZ<|X _<|cI R V (λZ=>?_) λZ=>?_
  ·exact zI (l _<|xH j Z) R id
  refine aU<|lF Hm A6 R R<|AG Z λr1 a0 h7=>cL (dY<|a0) R<|sQ R (BD R iL)<|mA R<|aZ<|cI R h7 (λh8=>?_) λh8=>?_
  ·exact zI (l _<|xH j h8) R id
  refine Zc<|c9 _<|aT λa1=>aT λa2=>aG [0,1,2,3,9,10,12,13,14] [10] ?_
  refine aR<|lF GL Bw R R<|AG h8 λe1 a6 h9=>cL (Pn<|a6) R<|mA R<|aZ<|a2 _<|aU<|mM R<|xU R<|aZ<|cI R h9 (λq=>?_) λq=>?_
  ·refine aT λa7=>aF [11] ?_
   exact aR<|mM R<|mA R<|aZ<|a7 _<|Zi<|yI (l _<|xH j q) R
  refine Zc<|a1 _<|aT λa8=>aU<|xC Er R<|AG q λr2 aa ab=>cL (nD<|aa) R<|mM R<|vM R<|vQ R (BD R<|iR R)<|xN R<|aZ<|cI R ab (λw=>?_) λw=>?_
  ·exact zI (l _<|xH j w) R id
  refine Zc<|a8 _<|aT λac=>aG [0,1,2,3,9,10,12,13,14] [10] ?_
  refine ZB BR (by kernel_rfl) ?_
  refine qP R (AK R iL)<|qP R (Bh R iL iL)<|qP R (AK R iL)<|qO R (AK R iL)<|qO R (AK R iL)<|AG w λx5 ad ae=>qO R (CS R (iR R) iL<|Ad ad)<|AG ae λA af ag=>qO R (BB R B8.slice (iR R) (iR R) (λ_=>R)<|Ad af)<|qO R (Ce (cs:=(Be A)) R Er (iR R) R R)<|qO R (DG R Er iL R R)<|AG ag λr3 ah ai=>P2 (.one R R R) R R (r:=rI r3) (caps:=[]) (bs:=[.agg<|Be A,.agg<|Be m]) R iL R ⟨⟨_,(iR R),.g (cs:=[.int .i64 A.Row,.int .i64 A.Col,.str A.Text,.int .i64 A.Ref,.sl<|A.Attrs.map AC.row]) R R⟩,⟨_,(iR R),.g (cs:=[.int .i64 m.Row,.int .i64 m.Col,.str m.Text,.int .i64 m.Ref,.sl<|m.Attrs.map AC.row]) R R⟩,Za⟩ (λhg=>jH<|Ad ah hg) R<|qO R (Cq R (iR R) iL)<|qP R (Bb R iL<|iR R)<|AQ.nil<|ac _<|cI R ai (λB=>?_) λB=>?_
  ·exact zI (l _<|xH j B) R id
  exact Zc<|c7 _<|aR<|AG B λx7 aj ak=>xA R aj<|mM R<|Zh<|Zq ak (AH [((F 0)+1)]) wk
 exact Zm<|I _ _ wk<|J1 _ (AH [(F 0)])<|xH j T
theorem iA{j a c r}(h:NE j a c=some r):AR prog 122 [.agg<|BA j,rI a,rI c] (rB r):=by
 unfold NE at h
 refine mF func122 ntmps122 R λA=>aU<|sS R (At (cs:=(BA j)) 3 R iL R R)<|mA R<|aZ<|aU<|lF Ct AJ R R<|sQ R (Cq R iL iL)<|mM R<|vF DW AJ R R<|vQ R (Cq R (iR R) iL)<|xN R<|mM R<|vF Gf AJ R R<|vQ R (Cq R (iR R) iL)<|xN R<|mM R<|vF Gx AJ R R<|vQ R (Cq R (iR R) iL)<|xN R<|mM R<|vF Ct AJ R R<|vM R<|vQ R (CN R (iR R)<|iR R)<|xN R<|mM R<|vF DW AJ R R<|vM R<|vQ R (CN R (iR R)<|iR R)<|xN R<|mM R<|vF Gf AJ R R<|vM R<|vF Ct AJ R R<|AG h λB l q=>vQ R (CS R (iR R) (iR R)<|Ad l)<|vQ R (FG R (iR R)<|iR R)<|xN R<|mM R<|vF Gx AJ R R<|vM R<|vF DW AJ R R<|AG q λC m w=>vQ R (CS R (iR R) (iR R)<|Ad m)<|vQ R (FG R (iR R)<|iR R)<|xN R<|mA R<|aZ ?_
 exact Zi<|yB w R
theorem kB{j l r}(h:NP j l=some r):AR prog 123 [.agg<|BA j,.agg<|BA l] (rB r):=by
 unfold NP at h
 exact mF func123 ntmps123 R λm=>aU<|sS R (At (cs:=(BA j)) 2 R iL R R)<|sS R (At (cs:=(BA l)) 3 R iL R R)<|mA R<|aZ<|aU<|lF Ct AJ R R<|lF Ct AJ R R<|xS R<|mM R<|vF Ct AJ R R<|vF Ct AJ R R<|vQ R (A9 R (iR R)<|iR R)<|vQ R (AK R<|iR R)<|wQ R (fB R DW iL fR R)<|wQ R (Aa (a:=rI j.Col) R AJ (iR R) R R)<|wQ R (fB R DW iL fR R)<|wQ R (Aa (a:=rI l.Col) R AJ (iR R) R R)<|wQ R (CN R (iR R)<|iR R)<|vQ R (Bb R (iR R)<|iR R)<|xO R<|mA R<|aZ<|Zi<|yB h R
theorem nO{j l r}(h:Oq j l=some r):AR prog 126 [.agg<|BA j,.agg<|BA l] (rB r):=by
 unfold Oq at h
 exact mF func126 ntmps126 R λI=>aU<|sS R (At (cs:=(BA j)) 2 R iL R R)<|sS R (At (cs:=(BA l)) 3 R iL R R)<|mA R<|aZ<|aU<|lF Ct AJ R R<|lF Ct AJ R R<|lF Gf AJ R R<|AG h λJ m B=>xA R m<|xS R<|mM R<|vF Ct AJ R R<|vF Ct AJ R R<|vF Gf AJ R R<|AG B λM q C=>vQ R (Iu R (iR R) (iR R)<|Ad q)<|vQ R (CN R (iR R)<|iR R)<|xN R<|mM R<|vF DW AJ R R<|vF DW AJ R R<|vF Gx AJ R R<|AG C λO w E=>vQ R (Iu R (iR R) (iR R)<|Ad w)<|vQ R (CN R (iR R)<|iR R)<|xN R<|mM R<|vF DW AJ R R<|vF DW AJ R R<|vF Gx AJ R R<|AG E λT A F=>vQ R (Iu R (iR R) (iR R)<|Ad A)<|vQ R (CN R (iR R)<|iR R)<|xN R<|mA R<|aZ<|Zi<|yB F R
theorem mR{l:Ai}{m:Ai}{r:Bool}{j:Nat}(h:QZ l m=some r):BC prog 125 1 [.agg<|BA m,.ptr 1000 j 0 0] [(1000,some<|.box j 109<|BA l)] (λq h'=>∃(i:Nat→Nat),q=rB r∧h'=[(1000,some<|.box j 109<|BA l)]):=by
 unfold QZ at h
 refine Dx func125 R R ntmps125 (Zr R) λB=>aU<|sS R (At (cs:=(BA m)) 2 R iL R R)<|mA R<|aZ<|aU<|xC DU R<|xC DU R<|AG h λA w C=>cL (nO<|w) R<|mA R<|aZ ?_
 exact Zi<|CE.mk (s':=⟨[(3,rB A)],[(1000,some<|.box j 109<|BA l)],(B+1),7⟩) wk<|CP (λ(r:Bool) q h'=>∃(i:Nat→Nat),q=rB r∧h'=[(1000,some<|.box j 109<|BA l)]) C<|by exact⟨rB A,[(1000,some<|.box j 109<|BA l)],R,⟨.inr R,Za⟩,R,R,AH [],R,R⟩
theorem iI{l:Ai}{m:List Ai}{r:Int}{j:Nat}(h:P9 l m=some r):BC prog 147 1 [qd m,.fn 125 [.ptr 1000 j 0 0]] [(1000,some<|.box j 109<|BA l)] (λq h'=>∃(i:Nat→Nat),q=rI r∧h'=[(1000,some<|.box j 109<|BA l)]):=by
 unfold P9 at h
 refine Dx func147 R R ntmps147 (Zr R) λn0=>aU<|mA R<|aZ<|aS λK2 c2 C=>aU<|mM R<|xL Cp R<|mM R<|aZ<|Ze<|BM h λo1 w E F=>?_
 have J1:∀(u2:Unit) (I:NN),o1=.nrm u2→K2 ⟨[],[(1000,some<|.box j 109<|BA l)],(I 0),19⟩:=by
  intro u2 I e
  have h1:=E _ e
  refine c2 _<|aU<|mA R<|aZ ?_
  exact Zi<|CE.mk (s':=⟨[(4,rI<|(-1))],[(1000,some<|.box j 109<|BA l)],(I 0),19⟩) wk<|CP (λ(r:Int) q h'=>∃(i:Nat→Nat),q=rI r∧h'=[(1000,some<|.box j 109<|BA l)]) h1<|by exact⟨rI<|(-1),[(1000,some<|.box j 109<|BA l)],R,⟨.inr R,Za⟩,R,R,AH [],R,R⟩
 refine Zt (λ(A:Int) J=>⟨[(0,qd m),(1,.fn 125 [.ptr 1000 j 0 0]),(7,rL m),(8,rI A)],[(1000,some<|.box j 109<|BA l)],(J 0),19⟩) (AH [n0]) w wk ?_
 intro A J v1 M B
 have h2:PI l m A=some v1:=M;unfold PI at h2
 refine aU<|xS R<|aZ<|aT λc6=>cI R h2 (λO=>?_) λO=>?_
 ·refine Zc<|c6 _<|aT λc7=>Ze<|aU<|mM R<|mA R<|aZ<|aT λc9=>aR<|mM R<|mM R<|mM R<|AG O λx4 T h4=>xI Cp R T<|xB ((BA x4)) DU R<|AG h4 λr1 U h5=>?_
  refine ZA [1000] (hc:=[(1000,some<|.box j 109<|BA l)]) (bs:=[.agg<|BA x4]) (caps:=[.ptr 1000 j 0 0]) R R R R iL R ⟨.inl ⟨iL,R⟩,Za⟩ ⟨R,R,R,Za⟩ (by decide) (mR U) ?_
  intro i6 n1
  refine BV [0,1,5,7,8,9,10,11,12,13,14,15,16] [1000] ?_
  refine aZ<|c9 _<|cI R h5 (λV=>?_) λV=>?_
  ·refine aT λX=>aG [5] [1000] ?_
   refine aR<|mM R<|mA R<|oZ X ?_
   exact Zi<|CE.mk (s':=⟨[(4,rI A)],[(1000,some<|.box j 109<|BA l)],n1,19⟩) wk<|CP (λ(r:Int) q h'=>∃(i:Nat→Nat),q=rI r∧h'=[(1000,some<|.box j 109<|BA l)]) (F _<|xH B V)<|by exact⟨rI A,[(1000,some<|.box j 109<|BA l)],R,⟨.inr R,Za⟩,R,R,AH [],R,R⟩
  refine Zc<|c7 _<|aG [0,1,7,8] [1000] ?_
  exact aR<|AG V λx5 Z h7=>xA R Z<|mM R<|Zh<|Zq h7 (AH [n1]) wk
 exact Zm<|C _ _ wk<|J1 _ (AH [(J 0)])<|xH B O
theorem dc{l:Ai}{m:List Ai}{r:Bool}{j:Nat}(h:Mj l m=some r):BC prog 124 1 [qd m,.fn 125 [.ptr 1000 j 0 0]] [(1000,some<|.box j 109<|BA l)] (λq h'=>∃(i:Nat→Nat),q=rB r∧h'=[(1000,some<|.box j 109<|BA l)]):=by
 unfold Mj at h
 refine Dx func124 R R ntmps124 (Zr R) λF=>aU<|mA R<|aZ<|aT λB=>aR<|mM R<|mM R<|AG h λA w C=>?_
 refine ZA [1000] (hc:=[(1000,some<|.box j 109<|BA l)]) (bs:=[qd m,.fn 125 [.ptr 1000 j 0 0]]) (caps:=[]) R R R R iL R ⟨.inl ⟨iL,R⟩,.inl ⟨iL,R⟩,Za⟩ ⟨R,R,R,Za⟩ (by decide) (iI w) ?_
 intro I E
 refine BV [0,1,4,5,6,7] [1000] ?_
 refine sQ R (Cq R iL iL)<|mA R<|oZ B ?_
 exact Zi<|CE.mk (s':=⟨[(4,rB<|(decide<|0≤A))],[(1000,some<|.box j 109<|BA l)],E,9⟩) wk<|CP (λ(r:Bool) q h'=>∃(i:Nat→Nat),q=rB r∧h'=[(1000,some<|.box j 109<|BA l)]) C<|by exact⟨rB<|(decide<|0≤A),[(1000,some<|.box j 109<|BA l)],R,⟨.inr R,Za⟩,R,R,AH [],R,R⟩
theorem jI{m r}(h:Oy m=some r):AR prog 89 (VB m) (rI r):=by
 unfold Oy at h
 refine mF func89 ntmps89 R λI=>aU<|sS R (At (cs:=(CG m)) 1 R iL R R)<|mA R<|aZ<|aT λc2=>aU<|lF GZ AJ R R<|xS R<|mM R<|vF GZ AJ R R<|vQ R (Bh R (iR R) iL)<|xO R<|mM R<|vF GD AJ R R<|vQ R (CN R (iR R) iL)<|xO R<|mM R<|vF GD AJ R R<|vQ R (Bh R (iR R) iL)<|xO R<|aZ<|cI R h (λJ=>?_) λJ=>?_
 ·exact zI J R id
 refine Zc<|c2 _<|aT λc5=>aT λc6=>aG [1] [1] ?_
 refine aR<|lF D4 EK R R<|lF GZ AJ R R<|lF GD AJ R R<|AG J λe1 M h2=>cL (d9<|M) R<|mA R<|aZ<|c6 _<|aU<|mM R<|xU R<|aZ<|cI R h2 (λO=>?_) λO=>?_
 ·refine aT λc8=>aF [3] ?_
  exact aR<|mM R<|mA R<|aZ<|c8 _<|Zi<|yI O R
 refine Zc<|c5 _<|aS λK9 c9 T=>aT λU=>aG [1] [1] ?_
 refine aR<|lF EL EY R R<|xL Cp R<|mM R<|aZ<|U _<|Ze<|BM O λo1 F V l=>?_
 have J1:∀(u2:Unit) (i5:NN),o1=.nrm u2→K9 ⟨[],[],(i5 0),81⟩:=by
  intro u2 i5 e
  have h4:=V _ e
  exact c9 _<|zI h4 R id
 refine Zt (λ(X:Int) C=>⟨[(1,.ptr 1 I 0 0),(35,qd m.Merges),(36,rL m.Merges),(37,rI X)],[(1,some<|.box I 51<|CG m)],(C 0),81⟩) (AH [(I+1)]) F wk ?_
 intro X C v1 Z j
 have h5:N3 m X=some v1:=Z;unfold N3 at h5
 refine aU<|xS R<|aZ<|aT λa0=>cI R h5 (λh6=>?_) λh6=>?_
 ·refine Zc<|a0 _<|aT λa1=>Ze<|aU<|mM R<|AG h6 λq a2 h7=>xI Cp R a2<|xB ((BA q)) DU R<|sS R (BH (cs:=Fr) 5 R H0 R R)<|mA R<|Zl R R (A4 (ds:=(BA q)) R HL iL R iL R R R R)<|aZ<|Ze<|aU<|xC DU R<|lF GZ AJ R R<|lF GD AJ R R<|AG h7 λr1 a6 h8=>cL (iA<|a6) R<|sQ R (BD R iL)<|mA R<|aZ<|cI R h8 (λh9=>?_) λh9=>?_
  ·exact zI (l _<|xH j h9) R id
  refine aT λa7=>aG [1,4,5,35,36,37] [1,5] ?_
  refine aR<|lF Gf AJ R R<|xQ R<|mM R<|vF Gx AJ R R<|vQ R (A9 R (iR R) iL)<|xN R<|mA R<|aZ<|a7 _<|cI R h9 (λw=>?_) λw=>?_
  ·exact zI (l _<|xH j w) R id
  refine aT λa8=>?_
  refine ZB BR (by kernel_rfl) ?_
  refine qP R (AK R iL)<|qP R (Bh R iL iL)<|qP R (AK R iL)<|qO R (fB R EL iL fR R)<|qO R (Aa (a:=qd m.Merges) R EY (iR R) R R)<|qO R (AK R iL)<|AG w λx5 aa ab=>qO R (CS R (iR R) iL<|Ad aa)<|AG ab λE ac ad=>qO R (BB R Cp.slice (iR R) (iR R) (λ_=>R)<|Ad ac)<|qO R (Ce (cs:=(BA E)) R DU (iR R) R R)<|qO R (DG R DU iL R R)<|AG ad λr2 ae af=>P2 (.one R R R) R R (r:=rB r2) (caps:=[]) (bs:=[.agg<|BA E,.agg<|BA q]) R iL R ⟨⟨_,(iR R),.g (cs:=[.int .i64 E.Row,.int .i64 E.Col,.int .i64 E.H,.int .i64 E.W]) R R⟩,⟨_,(iR R),.g (cs:=[.int .i64 q.Row,.int .i64 q.Col,.int .i64 q.H,.int .i64 q.W]) R R⟩,Za⟩ (λhg=>kB<|Ad ae hg) R<|qO R (BD R<|iR R)<|qP R (Bb R iL<|iR R)<|qP R (Ek R iL)<|AQ.nil<|a8 _<|cI R af (λA=>?_) λA=>?_
  ·exact zI (l _<|xH j A) R id
  refine aT λag=>aG [1,4,5,35,36,37] [1,5] ?_
  refine aR<|lF EL EY R R<|mM R<|AG A λl1 ah ai=>?_
  refine sQ R (YS R Cp.slice iL (by exact R) (by exact⟨_,iL⟩) (λ_=>R) λ_=>ah) ?_
  refine sQ R (Jj (bs:=[.ptr 5 (C 0) 0 0]) R<|by exact⟨iL,Za⟩) ?_
  refine AG ai λr3 aj ak=>?_
  refine ZA [5] (hc:=[(1000,some<|.box (C 0) 109<|BA q)]) (bs:=[qd l1,.fn 125 [.ptr 1000 (C 0) 0 0]]) (caps:=[]) R R R R iL R ⟨.inl ⟨iL,R⟩,.inl ⟨iL,R⟩,Za⟩ ⟨R,R,R,Za⟩ (by decide) (dc aj) ?_
  intro i6 n1
  refine BV [1,4,5,35,36,37,74,75,76,77,78,79] [1,5] ?_
  refine mA R<|aZ<|ag _<|cI R ak (λB=>?_) λB=>?_
  ·exact zI (l _<|xH j B) R id
  refine Zc<|a1 _<|aG [1,35,36,37] [1] ?_
  exact aR<|AG B λx7 al an=>xA R al<|mM R<|Zh<|Zq an (AH [n1]) wk
 exact Zm<|T _ _ wk<|J1 _ (AH [(C 0)])<|xH j h6
theorem lT{k j r}(h:Pf k j=some r):AR prog 90 [rI k,qc j] (rI r):=by
 unfold Pf at h
 refine mF func90 ntmps90 R λX=>aU<|mA R<|aZ<|aS λZ c2 A=>aU<|mM R<|xL B8 R<|mM R<|aZ<|Ze<|BM h λo1 l B C=>?_
 have J1:∀(T:Unit) (U:NN),o1=.nrm T→Z ⟨[],[],(U 0),36⟩:=by
  intro T U e
  have h1:=B _ e
  exact c2 _<|zI h1 R id
 refine Zt (λ(E:Int) q=>⟨[(0,rI k),(7,qc j),(8,rL j),(9,rI E)],[],(q 0),36⟩) (AH [X]) l wk ?_
 intro E q v1 F m
 have V:OD k j E=some v1:=F;unfold OD at V
 refine aU<|xS R<|aZ<|aT λc6=>cI R V (λI=>?_) λI=>?_
 ·refine Zc<|c6 _<|aT λc7=>Ze<|aU<|AG I λw J h4=>xI B8 R J<|xB ((Be w)) Er R<|sS R (BH (cs:=Hw) 6 R Iq R R)<|Zl R R (A4 (ds:=(Be w)) R IN iL R iL R R R R)<|aZ<|aU<|mM R<|xQ R<|mM R<|vF Hm A6 R R<|vQ R (Dt R (iR R) iL)<|vQ R (AK R<|iR R)<|wQ R (fB R GL iL fR R)<|wQ R (Aa (a:=qa w.Attrs) R Bw (iR R) R R)<|wQ R (Cv R Ay.slice<|iR R)<|wQ R (Bh R (iR R) iL)<|vQ R (CZ R (iR R)<|iR R)<|xN R<|mM R<|vM R<|vQ R (A9 R (iR R) iL)<|vQ R (AK R<|iR R)<|wQ R (fB R EA iL fR R)<|wQ R (Aa (a:=rI w.Ref) R AJ (iR R) R R)<|wQ R (DL R (iR R) iL)<|vQ R (Bb R (iR R)<|iR R)<|xO R<|aZ<|cI R h4 (λM=>?_) λM=>?_
  ·exact zI (C _<|xH m M) R id
  refine Zc<|c7 _<|aF [0,7,8,9] ?_
  exact aR<|AG M λx5 O h6=>xA R O<|mM R<|Zh<|Zq h6 (AH [((q 0)+1)]) wk
 exact Zm<|A _ _ wk<|J1 _ (AH [(q 0)])<|xH m I
theorem gk{l r}(h:Kd l=some r):AR prog 148 [rS l] (rB r):=by
 unfold Kd at h
 refine mF func148 ntmps148 R λn0=>aU<|mA R<|aZ<|aT λc2=>aU<|mM R<|sQ R (Dp R iL iL)<|mM R<|vM R<|vQ R (DJ R underlying9<|iR R)<|vQ R (Bh R (iR R) iL)<|xO R<|mM R<|vM R<|vM R<|vQ R (DJ R underlying9<|iR R)<|AG h λx1 B h1=>vQ R (CS R (iR R) iL<|Ad B)<|AG h1 λa0 m h2=>vQ R (Ck R underlying9 (iR R) (iR R)<|Ad m)<|vQ R (A9 R (iR R) iL)<|xO R<|aZ<|cI R h2 (λC=>?_) λC=>?_
 ·exact zB C R id
 refine Zc<|c2 _<|aS λK5 c5 E=>aT λc6=>aF [0] ?_
 refine aR<|mM R<|sQ R (DJ R underlying9 iL)<|mM R<|aZ<|c6 _<|Ze<|BM C λo1 q F I=>?_
 have J1:∀(X:Unit) (Z:NN),o1=.nrm X→K5 ⟨[],[],(Z 0),35⟩:=by
  intro X Z e
  have h4:=F _ e
  exact c5 _<|zB h4 R id
 refine Zt (λ(J:Int) A=>⟨[(0,rS l),(20,rL l),(21,rI J)],[],(A 0),35⟩) (AH [n0]) q wk ?_
 intro J A v1 M w
 have h5:LF l J=some v1:=M;unfold LF at h5
 refine aU<|xS R<|aZ<|aT λc9=>cI R h5 (λO=>?_) λO=>?_
 ·refine Zc<|c9 _<|aT λT=>Ze<|aU<|mM R<|mA R<|aZ<|aU<|mM R<|mM R<|AG O λa1 j h7=>sQ R (Ck R underlying9 iL iL λ_=>j)<|xS R<|mM R<|vM R<|vM R<|vQ R (Ck R underlying9 (iR R) (iR R) λ_=>j)<|vQ R (Bh R (iR R) iL)<|xO R<|aZ<|cI R h7 (λU=>?_) λU=>?_
  ·exact zB (I _<|xH w U) R id
  refine Zc<|T _<|aF [0,20,21] ?_
  exact aR<|AG U λx5 V h9=>xA R V<|mM R<|Zh<|Zq h9 (AH [(A 0)]) wk
 exact Zm<|E _ _ wk<|J1 _ (AH [(A 0)])<|xH w O
theorem gS{j r}(h:Ky j=some r):AR prog 127 (iX j) (rI r):=by
 unfold Ky at h
 refine mF func127 ntmps127 R λC=>aU<|sS R (At (cs:=(Bm j)) 1 R iL R R)<|mA R<|aZ<|aT λc2=>Ze<|aU<|lF Fu AJ R R<|xU R<|mM R<|vF Fu AJ R R<|vQ R (DL R (iR R) iL)<|xN R<|mA R<|aZ<|cI R h (λM=>?_) λM=>?_
 ·exact zI M R id
 refine aT λc5=>aG [1] [1] ?_
 refine aR<|lF IY AJ R R<|xS R<|mM R<|vF IY AJ R R<|vQ R (Bh R (iR R) iL)<|xO R<|mM R<|vF Kh AJ R R<|vQ R (CN R (iR R) iL)<|xO R<|mM R<|vF Kh AJ R R<|vQ R (Bh R (iR R) iL)<|xO R<|mM R<|vF Fa AJ R R<|vQ R (CN R (iR R) iL)<|xO R<|mM R<|vF Fa AJ R R<|vQ R (Bh R (iR R) iL)<|xO R<|mA R<|aZ<|c5 _<|cI R M (λO=>?_) λO=>?_
 ·exact zI O R id
 refine aS λK7 c7 E=>aT λc8=>aG [1] [1] ?_
 refine aR<|lF Fu AJ R R<|xQ R<|mM R<|vF L6 A6 R R<|vQ R (Dt R (iR R) iL)<|vQ R (AK R<|iR R)<|wQ R (fB R Jm iL fR R)<|wQ R (Aa (a:=rS j.Value) R A6 (iR R) R R)<|wQ R (Dt R (iR R) iL)<|vQ R (CZ R (iR R)<|iR R)<|xN R<|mA R<|aZ<|c8 _<|BS O λp1 F T=>?_
 have J1:∀(U:Bool) (J:NN),p1=U→K7 ⟨[(1,.ptr 1 C 0 0),(41,rB U)],[(1,some<|.box C 146<|Bm j)],(J 0),116⟩:=by
  intro U J e
  have h3:=T _ e
  refine c7 _<|cI R h3 (λV=>?_) λV=>?_
  ·exact zI V R id
  refine aU<|lF Fu AJ R R<|xQ R<|mM R<|vF G8 AJ R R<|vQ R (CN R (iR R) iL)<|vQ R (AK R<|iR R)<|wQ R (fB R G8 iL fR R)<|wQ R (Aa (a:=rI j.Parent) R AJ (iR R) R R)<|wQ R (Bh R (iR R) iL)<|vQ R (CZ R (iR R)<|iR R)<|xN R<|mA R<|aZ<|cI R V (λX=>?_) λX=>?_
  ·exact zI X R id
  refine aS λZ a0 l=>aT λa1=>aG [1] [1] ?_
  refine aR<|lF Fu AJ R R<|xQ R<|mM R<|vF Lw A6 R R<|AG X λr1 a2 h6=>vL (λhg=>gk<|Ad a2 hg) R<|vQ R (BD R<|iR R)<|xN R<|mA R<|aZ<|a1 _<|BS h6 λp2 I a6=>?_
  have J2:∀(x2:Bool) (i2:NN),p2=x2→Z ⟨[(1,.ptr 1 C 0 0),(82,rB x2)],[(1,some<|.box C 146<|Bm j)],(i2 0),116⟩:=by
   intro x2 i2 e
   have h7:=a6 _ e
   refine a0 _<|cI R h7 (λh8=>?_) λh8=>?_
   ·exact zI h8 R id
   refine aU<|lF Fu AJ R R<|xQ R<|mM R<|vF Jm A6 R R<|vQ R (Dt R (iR R) iL)<|xN R<|mM R<|vF Jm A6 R R<|AG h8 λr2 a7 h9=>vL (λhg=>Vk<|Ad a7 hg) R<|vQ R (BD R<|iR R)<|xN R<|mA R<|aZ<|cI R h9 (λm=>?_) λm=>?_
   ·exact zI m R id
   exact Zc<|c2 _<|zI m R id
  refine aC R (λq=>?_) λq=>?_
  ·have w:=DN q I
   exact Zc<|l _ _ wk<|J2 _ (AH [(J 0)]) (Zf w).symm
  ·have w:=DH q I
   refine aG [1] [1] ?_
   exact aR<|lF Fu AJ R R<|xQ R<|mM R<|vF L6 A6 R R<|AG w λr3 a8 aa=>vL (λhg=>TH<|Ad a8 hg) R<|vQ R (BD R<|iR R)<|xN R<|mA R<|Zh<|l _ _ wk<|J2 _ (AH [(J 0)]) (Zf aa).symm
 refine aC R (λA=>?_) λA=>?_
 ·have B:=DN A F
  exact Zc<|E _ _ wk<|J1 _ (AH [(C+1)]) (Zf B).symm
 ·have B:=DH A F
  refine aG [1] [1] ?_
  exact aR<|lF Fu AJ R R<|xQ R<|mM R<|vF G8 AJ R R<|vQ R (DL R (iR R) iL)<|vQ R (AK R<|iR R)<|wQ R (fB R Lw iL fR R)<|wQ R (Aa (a:=rS j.Place) R A6 (iR R) R R)<|wQ R (Dt R (iR R) iL)<|vQ R (CZ R (iR R)<|iR R)<|xN R<|mA R<|Zh<|E _ _ wk<|J1 _ (AH [(C+1)]) (Zf B).symm
theorem bV{l m r}(h:KO l m=some r):AR prog 128 [.agg<|Bm l,.agg<|Bm m] (rI r):=by
 unfold KO at h
 refine mF func128 ntmps128 R λj=>aU<|sS R (At (cs:=(Bm l)) 2 R iL R R)<|sS R (At (cs:=(Bm m)) 3 R iL R R)<|mA R<|aZ<|aT λC=>AG h λq w E=>?_
 refine rP 9 [pO 5<|.ptr 2 j 0 0,pO 6<|rI l.Clock,pO 7<|.ptr 3 (j+1) 0 0,pO 8<|rI m.Clock,pO 9<|rI q,pO 10<|.ptr 2 j 0 1,pO 11<|rI l.Site,pO 12<|.ptr 3 (j+1) 0 1,pO 13<|rI m.Site] BR R (by exact⟨oB [(2,.ptr 2 j 0 0)] [(2,some<|.box j 146<|Bm l)]<|fB R IY (.inl R) (λ_=>R) R,oB [(5,.ptr 2 j 0 0)] [(2,some<|.box j 146<|Bm l)]<|Aa (a:=rI l.Clock) R AJ (.inl R) R R,oB [(3,.ptr 3 (j+1) 0 0)] [(3,some<|.box (j+1) 146<|Bm m)]<|fB R IY (.inl R) (λ_=>R) R,oB [(7,.ptr 3 (j+1) 0 0)] [(3,some<|.box (j+1) 146<|Bm m)]<|Aa (a:=rI m.Clock) R AJ (.inl R) R R,oD (λ_=>[(6,rI l.Clock),(8,rI m.Clock)]) (λ_=>[]) λF e O n=>Cw (r:=rI q) (caps:=[]) (bs:=[rI l.Clock,rI m.Clock]) R (.inl R) R ⟨⟨_,(.inl R),.d R⟩,⟨_,(.inl R),.d R⟩,Za⟩ (λ_=>L8<|w) R,oB [(2,.ptr 2 j 0 0)] [(2,some<|.box j 146<|Bm l)]<|fB R Kh (.inl R) (λ_=>R) R,oB [(10,.ptr 2 j 0 1)] [(2,some<|.box j 146<|Bm l)]<|Aa (a:=rI l.Site) R AJ (.inl R) R R,oB [(3,.ptr 3 (j+1) 0 0)] [(3,some<|.box (j+1) 146<|Bm m)]<|fB R Kh (.inl R) (λ_=>R) R,oB [(12,.ptr 3 (j+1) 0 1)] [(3,some<|.box (j+1) 146<|Bm m)]<|Aa (a:=rI m.Site) R AJ (.inl R) R R,Za⟩) λF T=>?_
 refine BV [0,1,2,3,4,5,6,7,8,9,10,11,12,13] [2,3] ?_
 exact AG E λI A J=>cL (L8<|A) R<|sS R (BZ 15 R CU (f:=(A3 .i64)) (l:=([q,I]:List Int)) ⟨R,⟨_,iL,R⟩,R,⟨_,iL,R⟩,Za⟩ R (λ_=>R) R)<|AG J λU B M=>cL (TI<|B) R<|mA R<|aZ<|C _<|Zi<|yI M R
theorem lO{w r}(h:IT w=some r):AR prog 91 [qf w] (rI r):=by
 unfold IT at h
 refine mF func91 ntmps91 R λn0=>aU<|mA R<|aZ<|aS λK2 c2 E=>aU<|mM R<|xL D9 R<|mM R<|aZ<|Ze<|BM h λo1 A F B=>?_
 have J1:∀(u2:Unit) (i5:NN),o1=.nrm u2→K2 ⟨[],[],(i5 0),31⟩:=by
  intro u2 i5 e
  have h1:=F _ e
  exact c2 _<|zI h1 R id
 refine Zt (λ(I:Int) C=>⟨[(0,qf w),(6,qf w),(7,rL w),(8,rI I)],[],(C 0),31⟩) (AH [n0]) A wk ?_
 intro I C v1 J m
 have h2:K1 w I=some v1:=J;unfold K1 at h2
 refine aU<|xS R<|aZ<|aT λc6=>cI R h2 (λM=>?_) λM=>?_
 ·refine Zc<|c6 _<|aT λc7=>Ze<|aU<|mM R<|AG M λj O h4=>xI D9 R O<|xB ((Bm j)) G3 R<|sS R (BH (cs:=Rg) 4 R P5 R R)<|mA R<|Zl R R (A4 (ds:=(Bm j)) R Qs iL R iL R R R R)<|aZ<|aT λc9=>aU<|xC G3 R<|AG h4 λe1 T h5=>cL (gS<|T) R<|mA R<|aZ<|aU<|mM R<|xU R<|aZ<|cI R h5 (λU=>?_) λU=>?_
  ·refine aT λV=>aF [5] ?_
   exact aR<|mM R<|mA R<|aZ<|V _<|Zi<|yI (B _<|xH m U) R
  refine Zc<|c9 _<|aT λX=>aG [0,3,4,6,7,8] [4] ?_
  refine ZB BR (by kernel_rfl) ?_
  refine qP R (AK R iL)<|qP R (Bh R iL iL)<|qP R (AK R iL)<|qO R (AK R iL)<|qO R (AK R iL)<|AG U λx5 Z h7=>qO R (CS R (iR R) iL<|Ad Z)<|AG h7 λl a0 h8=>qO R (BB R D9.slice (iR R) (iR R) (λ_=>R)<|Ad a0)<|qO R (Ce (cs:=(Bm l)) R G3 (iR R) R R)<|qO R (DG R G3 iL R R)<|AG h8 λr1 a1 h9=>P2 (.one R R R) R R (r:=rI r1) (caps:=[]) (bs:=[.agg<|Bm l,.agg<|Bm j]) R iL R ⟨⟨_,(iR R),.g (cs:=[.int .i64 l.Clock,.int .i64 l.Site,.int .i64 l.Kind,.int .i64 l.Item,.int .i64 l.Parent,.str l.Place,.str l.Name,.str l.Value]) R R⟩,⟨_,(iR R),.g (cs:=[.int .i64 j.Clock,.int .i64 j.Site,.int .i64 j.Kind,.int .i64 j.Item,.int .i64 j.Parent,.str j.Place,.str j.Name,.str j.Value]) R R⟩,Za⟩ (λhg=>bV<|Ad a1 hg) R<|qO R (Cq R (iR R) iL)<|qP R (Bb R iL<|iR R)<|AQ.nil<|X _<|cI R h9 (λq=>?_) λq=>?_
  ·exact zI (B _<|xH m q) R id
  exact Zc<|c7 _<|aR<|AG q λx7 a2 a6=>xA R a2<|mM R<|Zh<|Zq a6 (AH [((C 0)+1)]) wk
 exact Zm<|E _ _ wk<|J1 _ (AH [(C 0)])<|xH m M
theorem ep{n1 r}(h:Ch n1=some r):AR prog 53 (IA n1) (rI r):=by
 unfold Ch at h
 refine mF func53 ntmps53 R λA=>aU<|sS R (At (cs:=(Af n1)) 1 R iL R R)<|mA R<|aZ<|aT λc2=>Ze<|aU<|lF Dk AJ R R<|xS R<|mM R<|vF Dk AJ R R<|vQ R (Bh R (iR R) iL)<|xO R<|mA R<|aZ<|cI R h (λV=>?_) λV=>?_
 ·exact zI V R id
 refine aT λc5=>aG [1] [1] ?_
 refine aR<|lF Cd AJ R R<|xS R<|mM R<|vF Cd AJ R R<|vQ R (Cq R (iR R) iL)<|xO R<|mM R<|vF Dk AJ R R<|vQ R (A9 R (iR R) iL)<|vF Cd AJ R R<|vQ R (A9 R (iR R) iL)<|vQ R (df R underlying4 (iR R)<|iR R)<|xO R<|mA R<|aZ<|c5 _<|cI R V (λX=>?_) λX=>?_
 ·exact zI X R id
 refine Zc<|c2 _<|aT λc7=>aT λc8=>aG [1] [1] ?_
 refine aR<|lF Eg Bw R R<|AG X λe1 Z h3=>cL (Pn<|Z) R<|mA R<|aZ<|c8 _<|aU<|mM R<|xU R<|aZ<|cI R h3 (λh4=>?_) λh4=>?_
 ·exact aU<|mM R<|mA R<|aZ<|Zi<|yI h4 R
 refine Zc<|c7 _<|aT λa0=>?_
 refine ZB BR (by kernel_rfl) ?_
 refine qP R (fB R Cd iL fR R)<|qP R (Aa (a:=rI n1.Kind) R AJ iL R R)<|AG h4 λl O h5=>AQ.stepC R R R (r:=rB l) (caps:=[]) (bs:=[rI n1.Kind]) R iL R ⟨⟨_,iL,.d R⟩,Za⟩ (λ_=>YG<|O) R<|qP R (AK R iL)<|qO R (fB R Cd iL fR R)<|qO R (Aa (a:=rI n1.Kind) R AJ (iR R) R R)<|AG h5 λm a1 h6=>P2 (.one R R R) R R (r:=rB m) (caps:=[]) (bs:=[rI n1.Kind]) R iL R ⟨⟨_,(iR R),.d R⟩,Za⟩ (λhg=>eD<|Ad a1 hg) R<|qP R (CZ R iL<|iR R)<|qP R (fB R Cd iL fR R)<|qP R (Aa (a:=rI n1.Kind) R AJ iL R R)<|AG h6 λj B h7=>AQ.stepC R R R (r:=rB j) (caps:=[]) (bs:=[rI n1.Kind]) R iL R ⟨⟨_,iL,.d R⟩,Za⟩ (λ_=>bF<|B) R<|qP R (Ek R iL)<|qP R (Ek R iL)<|AQ.nil<|a0 _<|aT λa2=>aS λa6 a7 C=>aG [1,4,5] [1] ?_
 refine aR<|mM R<|sQ R (BD R iL)<|mM R<|vF ET E0 R R<|vQ R (Cv R Bu.slice<|iR R)<|vQ R (Bh R (iR R) iL)<|xN R<|mM R<|vM R<|vQ R (BD R<|iR R)<|vQ R (AK R<|iR R)<|wQ R (fB R EH iL fR R)<|wQ R (IO (ds:=(CG n1.Grid)) R HV (iR R) R R R) ?_
 refine wQ R (Bj R pw (q:=[]) (by exact Za) (cs:=Qb)<|by rfl) ?_
 refine BS h7 λp1 T a8=>?_
 have J1:∀(x1:Bool) (i1:NN),p1=x1→a6 ⟨[(1,.ptr 1 A 0 0),(4,rB<|(l||m)),(5,rB j),(81,rB x1)],[(1,some<|.box A 54<|Af n1)],(i1 0),107⟩:=by
  intro x1 i1 e
  have h8:=a8 _ e
  refine a7 _<|cI R h8 (λh9=>?_) λh9=>?_
  ·exact zI h9 R id
  refine Zc<|a2 _<|aT λaa=>Ze<|aU<|mM R<|mA R<|aZ<|cI R h9 (λF=>?_) λF=>?_
  ·refine aT λab=>?_
   refine ZB BR (by kernel_rfl) ?_
   exact qP R (fB R ET iL fR R)<|qP R (Aa (a:=qe n1.Flow) R E0 iL R R)<|qP R (fB R Cd iL fR R)<|qP R (Aa (a:=rI n1.Kind) R AJ iL R R)<|AQ.stepC R R R (r:=rB l) (caps:=[]) (bs:=[rI n1.Kind]) R iL R ⟨⟨_,iL,.d R⟩,Za⟩ (λ_=>YG<|O) R<|AG F λr4 ac ad=>AQ.stepC R R R (r:=rI r4) (caps:=[]) (bs:=[qe n1.Flow,rB l]) R iL R ⟨⟨_,iL,.d R⟩,⟨_,iL,.d R⟩,Za⟩ (λ_=>Z5<|ac) R<|qP R (Ek R iL)<|AQ.nil<|ab _<|Zi<|yI ad R
  refine aU<|mM R<|mA R<|aZ<|cI R F (λI=>?_) λI=>?_
  ·refine aT λae=>aU<|sQ R (fB R EH iL fR R)<|sQ R (IO (ds:=(CG n1.Grid)) R HV iL R R R)<|AG I λe2 af ag=>cL (jI<|af) R<|mA R<|aZ<|aT λah=>aG [1,6] [1] ?_
   refine aR<|mM R<|xU R<|aZ<|ah _<|cI R ag (λJ=>?_) λJ=>?_
   ·exact aU<|mM R<|mA R<|aZ<|Zi<|yI J R
   exact Zc<|ae _<|aU<|lF Cd AJ R R<|sQ R (fB R EH iL fR R)<|lF D4 EK R R<|AG J λr5 ai aj=>cL (lT<|ai) R<|mA R<|aZ<|Zi<|yI aj R
  exact Zc<|aa _<|aU<|lF GW HA R R<|AG I λr6 ak al=>cL (lO<|ak) R<|mA R<|aZ<|Zi<|yI al R
 refine AX.split (((!(l||m))&&(0<(n1.Flow.length:Int)))==false) (λq=>?_) λq=>?_
 ·have E:=DN q T
  refine ZJ (by exact Ht (e':=[(1,.ptr 1 A 0 0),(4,rB<|(l||m)),(5,rB j),(51,rB<|(l||m)),(52,rB<|(!(l||m))),(53,rB<|(!(l||m))),(58,rB<|((!(l||m))&&(0<(n1.Flow.length:Int)))),(59,rB<|((!(l||m))&&(0<(n1.Flow.length:Int)))),(60,rB j),(61,rB<|(!j)),(62,rB<|(!j)),(63,.whn ((!j)==true)<|.ptr 1 A 0 4),(64,.whn ((!j)==true)<|.agg<|CG n1.Grid),(65,.whn ((!j)==true)<|.agg Qb)]) q ⟨.inl R,.inl R,.inl R,.inl R,.inl R,.inl R,.inl R,.inl R,.inr iL,.inr iL,.inr iL,.inr<|.inr<|.inl ⟨_,_,R,R⟩,.inr<|.inr<|.inl ⟨_,_,R,R⟩,.inr<|.inr<|.inl ⟨_,_,R,R⟩,Za⟩) ?_
  refine AX.split ((!j)==true) (λw=>?_) λw=>?_
  ·have M:=DN w E
   refine ZJ (by exact Ht (e':=[(1,.ptr 1 A 0 0),(4,rB<|(l||m)),(5,rB j),(51,rB<|(l||m)),(52,rB<|(!(l||m))),(53,rB<|(!(l||m))),(58,rB<|((!(l||m))&&(0<(n1.Flow.length:Int)))),(59,rB<|((!(l||m))&&(0<(n1.Flow.length:Int)))),(60,rB j),(61,rB<|(!j)),(62,rB<|(!j)),(63,.ptr 1 A 0 4),(64,.agg<|CG n1.Grid),(65,.agg Qb)]) w ⟨.inl R,.inl R,.inl R,.inl R,.inl R,.inl R,.inl R,.inl R,.inl R,.inl R,.inl R,.inr iL,.inr iL,.inr iL,Za⟩) ?_
   refine ZJ (by exact AZ.cv (e':=[(1,.ptr 1 A 0 0),(4,rB<|(l||m)),(5,rB j),(51,rB<|(l||m)),(52,rB<|(!(l||m))),(53,rB<|(!(l||m))),(58,rB<|((!(l||m))&&(0<(n1.Flow.length:Int)))),(59,rB<|((!(l||m))&&(0<(n1.Flow.length:Int)))),(60,rB j),(61,rB<|(!j)),(62,rB<|(!j)),(63,.ptr 1 A 0 4),(64,.agg<|CG n1.Grid),(65,.agg [rI 0,rI 0,.r<|.sl [],.r<|.sl []])]) (h':=[(1,some<|.box A 54<|Af n1)]) ⟨jL,jL,jL,jL,jL,jL,jL,jL,jL,jL,jL,jL,jL,.inr ⟨_,_,R,R,⟨.inl R,.inl R,.inr<|.inr ⟨R,R⟩,.inr<|.inr ⟨R,R⟩,Za⟩⟩,Za⟩ ⟨.inl R,Za⟩ nL) ?_
   exact AG M λr7 an ao=>ZN (.one R R R) w R R (Cw (r:=rB r7) (caps:=[]) (bs:=[.agg<|CG n1.Grid,.agg [rI 0,rI 0,.r<|.sl [],.r<|.sl []]]) R (.inl R) R ⟨⟨_,(.inl R),.g (cs:=[.int .i64 n1.Grid.Rows,.int .i64 n1.Grid.Cols,.sl<|n1.Grid.Cells.map Aj.row,.sl<|n1.Grid.Merges.map Ai.row]) R R⟩,⟨_,(.inl R),.g (cs:=[.int .i64 0,.int .i64 0,.sl<|[].map Aj.row,.sl<|[].map Ai.row]) R R⟩,Za⟩ (λ_=>oq<|an) R)<|ZN (.one R R R) w R R (B2 (BD R<|.inl R) _)<|ZN (.one R R R) q R R (B2 (Bb R (.inl R)<|.inl R) _)<|sQ R (CZ R iL iL)<|mM R<|vF Cd AJ R R<|AG ao λr8 aq ar=>vL (λhg=>TZ<|Ad aq hg) R<|vQ R (BD R<|iR R)<|vQ R (AK R<|iR R)<|wQ R (fB R GW iL fR R)<|wQ R (Aa (a:=qf n1.Draw) R HA (iR R) R R)<|wQ R (Cv R D9.slice<|iR R)<|wQ R (Bh R (iR R) iL)<|vQ R (Bb R (iR R)<|iR R)<|xO R<|Zh<|C _ _ wk<|J1 _ (AH [(A+1)]) (Zf ar).symm
  ·have M:=DH w E
   exact Zy (.one R R R) w R R<|Zy (.one R R R) w R R<|ZN (.one R R R) q R R (B2 (Bb R (.inl R)<|iR R) _)<|sQ R (CZ R iL iL)<|mM R<|vF Cd AJ R R<|AG M λr9 au av=>vL (λhg=>TZ<|Ad au hg) R<|vQ R (BD R<|iR R)<|vQ R (AK R<|iR R)<|wQ R (fB R GW iL fR R)<|wQ R (Aa (a:=qf n1.Draw) R HA (iR R) R R)<|wQ R (Cv R D9.slice<|iR R)<|wQ R (Bh R (iR R) iL)<|vQ R (Bb R (iR R)<|iR R)<|xO R<|Zh<|C _ _ wk<|J1 _ (AH [(A+1)]) (Zf av).symm
 ·have E:=DH q T
  exact Zy (.two R R R) (GU q) R R<|Zy (.two R R R) (GU q) R R<|Zy (.one R R R) q R R<|xO R<|mM R<|vF Cd AJ R R<|AG E λax U aw=>vL (λhg=>TZ<|Ad U hg) R<|vQ R (BD R<|iR R)<|vQ R (AK R<|iR R)<|wQ R (fB R GW iL fR R)<|wQ R (Aa (a:=qf n1.Draw) R HA (iR R) R R)<|wQ R (Cv R D9.slice<|iR R)<|wQ R (Bh R (iR R) iL)<|vQ R (Bb R (iR R)<|iR R)<|xO R<|Zh<|C _ _ wk<|J1 _ (AH [(A+1)]) (Zf aw).symm
theorem dC{q r}(h:K0 q=some r):AR prog 93 [qe q] (.r<|.sl<|r.map<|A3 .i64):=by
 unfold K0 at h
 refine mF func93 ntmps93 R λF=>aU<|mA R<|aZ<|aU<|mA R<|aZ<|aS λK3 c3 M=>aU<|mM R<|xL Bu R<|mM R<|aZ<|Ze<|BS h λo1 C O=>?_
 have J1:∀(j:List Int) (I:NN),o1=j→K3 ⟨[(3,.own 5003<|I 0)],[(5003,some<|.arr (I 0) 3 1<|j.map<|A3 .i64)],(I 1),22⟩:=by
  intro j I e
  have h1:=O _ e
  exact c3 _<|aU<|mM R<|mA R<|aZ<|Zi<|Bz (P:=prog) (λ(r:(List Int))=>.r<|.sl<|r.map<|A3 .i64) h1 iL<|.t<|.one<|.own R
 refine ZK (λ(J:Int) (l:List Int) w=>⟨[(3,.own 5003<|w 0),(6,qe q),(7,rL q),(8,rI J)],[(5003,some<|.arr (w 0) 3 1<|l.map<|A3 .i64)],(w 1),22⟩) (AH [F,(F+1)]) C (Zw (Zw (Fd 3 5003 3 1 (by decide) R)<|by exact AZ.cv (e':=[(0,qe q),(2,cZ),(3,.own 5003 F),(6,qe q),(7,rL q),(8,rI 0)]) (h':=[(5003,some<|.arr F 3 1<|([]:List Int).map<|A3 .i64)]) ⟨jL,jL,jL,jL,jL,jL,Za⟩ ⟨.inl R,Za⟩ nL) wk) ?_
 intro J l w v1 T U
 have h2:Fc q J l=some v1:=T;unfold Fc at h2
 refine aU<|xS R<|aZ<|aT λc7=>cI R h2 (λV=>?_) λV=>?_
 ·refine Zc<|c7 _<|aS λK8 c8 E=>Ze<|BS V λp1 X Z=>?_
  have J2:∀(m:List Int) (B:NN),p1=m→K8 ⟨[(3,.own 5003<|B 0),(6,qe q),(7,rL q),(8,rI J)],[(5003,some<|.arr (B 0) 3 1<|m.map<|A3 .i64)],(B 1),22⟩:=by
   intro m B e
   have h4:=Z _ e
   exact c8 _<|aR<|AG h4 λx4 a0 h5=>xA R a0<|mM R<|Zh<|ZI h5 (AH [(B 0),(B 1)]) wk
  refine aU<|AG X λx5 a1 h6=>xI Bu R a1<|xB ((Bf x5)) FR R<|sS R (BH (cs:=Mh) 5 R Mv R R)<|Zl R R (A4 (ds:=(Bf x5)) R KC iL R iL R R R R)<|aZ<|aU<|lF Ds AJ R R<|xU R<|aZ<|cI R h6 (λh7=>?_) λh7=>?_
  ·exact aR<|mM R<|lF Ds AJ R R<|sS R (BZ 18 R CU (f:=(A3 .i64)) (l:=([x5.Ref]:List Int)) ⟨R,⟨_,iL,R⟩,Za⟩ R (λ_=>R) R)<|AG h7 λa2 A h8=>sS R (Cs R CU iL R (.inr<|.inl ⟨_,_,iL,R⟩) A)<|mA R<|Zh<|E _ _ wk<|J2 _ (AH [((w 1)+2),((w 1)+3)]) (Zf h8).symm
  exact Zc<|E _ _ wk<|J2 _ (AH [(w 0),((w 1)+1)]) (Zf h7).symm
 exact Zm<|M _ _ wk<|J1 _ (AH [(w 0),(w 1)])<|xH U V
theorem Zv{w r}(h:Ke w=some r):BC prog 93 1 [qe w] [] (λM h'=>∃(i:Nat→Nat),M=.own 1000 (i 0)∧h'=[(1000,some<|.arr (i 0) 3 1<|r.map<|A3 .i64)]):=by
 unfold Ke at h
 refine Dx func93 R R ntmps93 (Zr R) λI=>aU<|mA R<|aZ<|aU<|mA R<|aZ<|aS λK3 c3 O=>aU<|mM R<|xL Bu R<|mM R<|aZ<|Ze<|BS h λo1 E T=>?_
 have J1:∀(j:List Int) (l:NN),o1=j→K3 ⟨[(3,.own 5003<|l 0)],[(5003,some<|.arr (l 0) 3 1<|j.map<|A3 .i64)],(l 1),22⟩:=by
  intro j l e
  have h1:=T _ e
  refine c3 _<|aU<|mM R<|mA R<|aZ ?_
  exact Zi<|CE.mk (s':=⟨[(2,.own 1000<|l 1)],[(1000,some<|.arr (l 1) 3 1<|j.map<|A3 .i64)],((l 1)+1),22⟩) (Zw (Zw (AZ.ren 2 5003 1000 R R R)<|by exact AZ.cv (e':=[(2,.own 1000<|l 1)]) (h':=[(1000,some<|.arr (l 1) 3 1<|j.map<|A3 .i64)]) ⟨jL,Za⟩ ⟨.inl R,Za⟩ nL) wk)<|CP (λ(r:(List Int)) M h'=>∃(i:Nat→Nat),M=.own 1000 (i 0)∧h'=[(1000,some<|.arr (i 0) 3 1<|r.map<|A3 .i64)]) h1<|by exact⟨.own 1000<|l 1,[(1000,some<|.arr (l 1) 3 1<|j.map<|A3 .i64)],R,⟨.inr R,Za⟩,R,R,AH [(l 1)],R,R⟩
 refine ZK (λ(J:Int) (m:List Int) A=>⟨[(3,.own 5003<|A 0),(6,qe w),(7,rL w),(8,rI J)],[(5003,some<|.arr (A 0) 3 1<|m.map<|A3 .i64)],(A 1),22⟩) (AH [I,(I+1)]) E (Zw (Zw (Fd 3 5003 3 1 (by decide) R)<|by exact AZ.cv (e':=[(0,qe w),(2,cZ),(3,.own 5003 I),(6,qe w),(7,rL w),(8,rI 0)]) (h':=[(5003,some<|.arr I 3 1<|([]:List Int).map<|A3 .i64)]) ⟨jL,jL,jL,jL,jL,jL,Za⟩ ⟨.inl R,Za⟩ nL) wk) ?_
 intro J m A v1 U V
 have h2:Ey w J m=some v1:=U;unfold Ey at h2
 refine aU<|xS R<|aZ<|aT λc7=>cI R h2 (λX=>?_) λX=>?_
 ·refine Zc<|c7 _<|aS λK8 c8 F=>Ze<|BS X λp1 Z a0=>?_
  have J2:∀(q:List Int) (C:NN),p1=q→K8 ⟨[(3,.own 5003<|C 0),(6,qe w),(7,rL w),(8,rI J)],[(5003,some<|.arr (C 0) 3 1<|q.map<|A3 .i64)],(C 1),22⟩:=by
   intro q C e
   have h4:=a0 _ e
   exact c8 _<|aR<|AG h4 λx4 a1 h5=>xA R a1<|mM R<|Zh<|ZI h5 (AH [(C 0),(C 1)]) wk
  refine aU<|AG Z λx5 a2 h6=>xI Bu R a2<|xB ((Bf x5)) FR R<|sS R (BH (cs:=Mh) 5 R Mv R R)<|Zl R R (A4 (ds:=(Bf x5)) R KC iL R iL R R R R)<|aZ<|aU<|lF Ds AJ R R<|xU R<|aZ<|cI R h6 (λh7=>?_) λh7=>?_
  ·exact aR<|mM R<|lF Ds AJ R R<|sS R (BZ 18 R CU (f:=(A3 .i64)) (l:=([x5.Ref]:List Int)) ⟨R,⟨_,iL,R⟩,Za⟩ R (λ_=>R) R)<|AG h7 λa6 B h8=>sS R (Cs R CU iL R (.inr<|.inl ⟨_,_,iL,R⟩) B)<|mA R<|Zh<|F _ _ wk<|J2 _ (AH [((A 1)+2),((A 1)+3)]) (Zf h8).symm
  exact Zc<|F _ _ wk<|J2 _ (AH [(A 0),((A 1)+1)]) (Zf h7).symm
 exact Zm<|O _ _ wk<|J1 _ (AH [(A 0),(A 1)])<|xH V X
theorem nh{n1 r}(h:GM n1=some r):AR prog 55 (IA n1) (.r<|.sl<|r.map<|A3 .i64):=by
 unfold GM at h
 refine mF func55 ntmps55 R λn0=>aU<|sS R (At (cs:=(Af n1)) 1 R iL R R)<|mA R<|aZ<|aT λc2=>aR<|lF ET E0 R R<|AG h λw1 I h1=>?_
 refine ZA [8] (hc:=[]) (bs:=[qe n1.Flow]) (caps:=[]) R R R R iL R ⟨.inl ⟨iL,R⟩,Za⟩ Za (by decide) (Zv I) ?_
 intro i1 n2
 refine BV [0,1,2,6,7,8] [1,8] ?_
 refine mA R<|aZ<|c2 _<|aS λK3 c3 J=>aU<|sQ R (fB R EH iL fR R)<|lF D4 EK R R<|xL B8 R<|mM R<|aZ<|Ze<|BS h1 λo1 B M=>?_
 have J1:∀(j:List Int) (E:NN),o1=j→K3 ⟨[(3,.own 8<|E 0)],[(8,some<|.arr (E 0) 3 1<|j.map<|A3 .i64)],(E 1),27⟩:=by
  intro j E e
  have h2:=M _ e
  exact c3 _<|aU<|mM R<|mA R<|aZ<|Zi<|Bz (P:=prog) (λ(r:(List Int))=>.r<|.sl<|r.map<|A3 .i64) h2 iL<|.t<|.one<|.own R
 refine ZK (λ(F:Int) (l:List Int) q=>⟨[(3,.own 8<|q 0),(11,qc n1.Grid.Cells),(12,rL n1.Grid.Cells),(13,rI F)],[(8,some<|.arr (q 0) 3 1<|l.map<|A3 .i64)],(q 1),27⟩) (AH [(i1 0),n2]) B wk ?_
 intro F l q v1 O T
 have h3:EB n1 F l=some v1:=O;unfold EB at h3
 refine aU<|xS R<|aZ<|aT λc7=>cI R h3 (λU=>?_) λU=>?_
 ·refine Zc<|c7 _<|aS λK8 c8 C=>Ze<|BS U λp1 V X=>?_
  have J2:∀(m:List Int) (A:NN),p1=m→K8 ⟨[(3,.own 8<|A 0),(11,qc n1.Grid.Cells),(12,rL n1.Grid.Cells),(13,rI F)],[(8,some<|.arr (A 0) 3 1<|m.map<|A3 .i64)],(A 1),27⟩:=by
   intro m A e
   have h5:=X _ e
   exact c8 _<|aR<|AG h5 λx4 Z h6=>xA R Z<|mM R<|Zh<|ZI h6 (AH [(A 0),(A 1)]) wk
  refine aU<|AG V λx5 a0 h7=>xI B8 R a0<|xB ((Be x5)) Er R<|sS R (BH (cs:=Hw) 5 R Iq R R)<|Zl R R (A4 (ds:=(Be x5)) R IN iL R iL R R R R)<|aZ<|aU<|lF EA AJ R R<|xU R<|aZ<|cI R h7 (λh8=>?_) λh8=>?_
  ·exact aR<|mM R<|lF EA AJ R R<|sS R (BZ 23 R CU (f:=(A3 .i64)) (l:=([x5.Ref]:List Int)) ⟨R,⟨_,iL,R⟩,Za⟩ R (λ_=>R) R)<|AG h8 λa1 w h9=>sS R (Cs R CU iL R (.inr<|.inl ⟨_,_,iL,R⟩) w)<|mA R<|Zh<|C _ _ wk<|J2 _ (AH [((q 1)+2),((q 1)+3)]) (Zf h9).symm
  exact Zc<|C _ _ wk<|J2 _ (AH [(q 0),((q 1)+1)]) (Zf h8).symm
 exact Zm<|J _ _ wk<|J1 _ (AH [(q 0),(q 1)])<|xH T U
theorem XX{n1 i r}(h:MB n1 i=some r):AR prog 95 [.agg<|Af n1,rI i] (rI r):=by
 unfold MB at h
 refine mF func95 ntmps95 R λq=>aU<|sS R (At (cs:=(Af n1)) 2 R iL R R)<|mA R<|aZ<|aT λm=>Ze<|aU<|lF Dk AJ R R<|mM R<|xS R<|mA R<|aZ<|cI R h (λj=>?_) λj=>?_
 ·exact zI j R id
 refine aU<|lF Dk AJ R R<|mM R<|sQ R (Bh R iL iL)<|mA R<|aZ<|cI R j (λl=>?_) λl=>?_
 ·exact zI l R id
 exact Zc<|m _<|zI l R id
theorem gG{l a r}(h:Nq l a=some r):AR prog 94 [qb l,rI a,.fn 95 []] (.tup [rI r.1,rB r.2]):=by
 unfold Nq at h
 refine mF func94 ntmps94 R λn0=>aU<|mA R<|mA R<|aZ<|aU<|mM R<|xL A8 R<|mA R<|aZ<|aU<|mM R<|mA R<|mA R<|aZ<|aS λK4 c4 A=>Ze<|BS h λo1 m B=>?_
 have J1:∀(i8:Int) (i9:NN),o1=i8→K4 ⟨[(0,qb l),(1,rI a),(2,.fn 95 []),(8,rL l),(9,rI i8)],[],(i9 0),49⟩:=by
  intro i8 i9 e
  have h1:=B _ e
  exact c4 _<|aU<|mM R<|mM R<|mM R<|xS R<|mM R<|vM R<|vM R<|vM R<|AG h1 λj C h2=>vQ R (BB R A8.slice (iR R) (iR R) (λ_=>R)<|Ad C)<|vQ R (Ce (cs:=(Af j)) R Cf (iR R) R R)<|vM R<|AG h2 λr1 E h3=>AX.stepW (.one R R R) R R (Cw (r:=rI r1) (caps:=[]) (bs:=[.agg<|Af j,rI a]) R (iR R) R ⟨⟨_,(iR R),.g (cs:=[.int .i64 j.ID,.int .i64 j.Kind,.sl<|j.Attrs.map AC.row,.sl<|j.Flow.map AL.row,.int .i64 j.Grid.Rows,.int .i64 j.Grid.Cols,.sl<|j.Grid.Cells.map Aj.row,.sl<|j.Grid.Merges.map Ai.row,.sl<|j.Draw.map Ax.row]) R R⟩,⟨_,(iR R),.d R⟩,Za⟩ (λhg=>XX<|Ad E hg) R)<|vQ R (A9 R (iR R) iL)<|xN R<|mA R<|mA R<|aZ<|Zi<|DC (P:=prog) (λ(r:Int × Bool)=>rI r.1) (λ(r:Int × Bool)=>rB r.2) h3 iL (.t<|.d R)<|.t<|.d R
 refine ZK (λ(F:Int) (I:Int) q=>⟨[(0,qb l),(1,rI a),(2,.fn 95 []),(8,rL l),(9,rI F),(10,rI I)],[],(q 0),49⟩) (AH [n0]) m wk ?_
 intro F I q v1 J M
 have h4:E5 l a F I=some v1:=J;unfold E5 at h4
 refine aT λc6=>aU<|mM R<|mM R<|xS R<|aZ<|cI R h4 (λO=>?_) λO=>?_
 ·refine Zc<|c6 _<|Ze<|aU<|mM R<|mM R<|AG O λx3 T h6=>xA R T<|sQ R (Ea R underlying3 underlying158 iL)<|sQ R (Ti (b:=1) R iL iL)<|sQ R (Ea R underlying158 underlying3 iL)<|mA R<|aZ<|aT λc9=>aF [0,1,2,8,9,10,11] ?_
  refine aR<|mM R<|mM R<|mM R<|AG h6 λx4 U h7=>xI A8 R U<|xB ((Af x4)) Cf R<|mM R<|AG h7 λr2 V h8=>cL (XX<|V) R<|xS R<|aZ<|c9 _<|cI R h8 (λX=>?_) λX=>?_
  ·refine aF [0,1,2,8,10,11] ?_
   exact aR<|mM R<|AG X λa0 w Z=>xA R w<|mA R<|Zh<|ZI Z (AH [(q 0)]) wk
  refine aF [0,1,2,8,9,11] ?_
  exact aR<|mM R<|mA R<|Zh<|ZI X (AH [(q 0)]) wk
 exact Zm<|A _ _ wk<|J1 _ (AH [(q 0)])<|xH M O
theorem Q2{d1 i r}(h:FX d1 i=some r):AR prog 56 [.agg [qb d1.Nodes],rI i] (.tup [rI r.1,rB r.2]):=by
 unfold FX at h
 exact mF func56 ntmps56 R λw=>aU<|sS R (At (cs:=[qb d1.Nodes]) 2 R iL R R)<|mA R<|mA R<|aZ<|aU<|lF CH B7 R R<|mM R<|Ed h λl m j q=>sS R (Cw (r:=.tup [rI l,rB m]) (caps:=[]) (bs:=[qb d1.Nodes,rI i,.fn 95 []]) R iL R ⟨⟨_,iL,.d R⟩,⟨_,iL,.d R⟩,⟨_,iL,.one<|.closed (.fn 95 []) R⟩,Za⟩ (λ_=>gG<|j) R)<|xX R<|xX R<|mA R<|mA R<|aZ<|Zi<|DC (P:=prog) (λ(r:Int × Bool)=>rI r.1) (λ(r:Int × Bool)=>rB r.2) q iL (.t<|.d R)<|.t<|.d R
theorem lL{j v1 r}(h:Ow j v1=some r):AR prog 151 [.r<|.sl<|j.map<|A3 .i64,rI v1] (rI r):=by
 unfold Ow at h
 refine mF func151 ntmps151 R λX=>aU<|mA R<|aZ<|aS λZ c2 w=>aU<|mM R<|xL CU R<|mM R<|aZ<|Ze<|BM h λo1 l A B=>?_
 have J1:∀(T:Unit) (U:NN),o1=.nrm T→Z ⟨[],[],(U 0),19⟩:=by
  intro T U e
  have h1:=A _ e
  exact c2 _<|zI h1 R id
 refine Zt (λ(C:Int) q=>⟨[(0,.r<|.sl<|j.map<|A3 .i64),(1,rI v1),(7,rL j),(8,rI C)],[],(q 0),19⟩) (AH [X]) l wk ?_
 intro C q v2 E m
 have V:JF j v1 C=some v2:=E;unfold JF at V
 refine aU<|xS R<|aZ<|aT λc6=>cI R V (λF=>?_) λF=>?_
 ·refine Zc<|c6 _<|aT λc7=>Ze<|aU<|mM R<|mA R<|aZ<|aU<|mM R<|mM R<|mM R<|AG F λx4 I h4=>xI CU R I<|xV (.int .i64 x4) AJ R<|xQ R<|aZ<|cI R h4 (λJ=>?_) λJ=>?_
  ·refine aT λM=>aF [5] ?_
   exact aR<|mM R<|mA R<|aZ<|M _<|Zi<|yI (B _<|xH m J) R
  refine Zc<|c7 _<|aF [0,1,7,8] ?_
  exact aR<|AG J λx5 O h6=>xA R O<|mM R<|Zh<|Zq h6 (AH [(q 0)]) wk
 exact Zm<|w _ _ wk<|J1 _ (AH [(q 0)])<|xH m F
theorem bO{l v1 r}(h:LO l v1=some r):AR prog 129 [.r<|.sl<|l.map<|A3 .i64,rI v1] (rB r):=by
 unfold LO at h
 exact mF func129 ntmps129 R λq=>aU<|mA R<|aZ<|aU<|mM R<|mM R<|AG h λw j m=>cL (lL<|j) R<|sQ R (Cq R iL iL)<|mA R<|aZ<|Zi<|yB m R
theorem ed{p k r}(h:Kw p k=some r):AR prog 92 [rI p,rI k] (rB r):=by
 unfold Kw at h
 refine mF func92 ntmps92 R λC=>aU<|mA R<|aZ<|aU<|mA R<|aZ<|aS λK3 c3 j=>aU<|mM R<|aZ<|Ze<|BS h λp1 E J=>?_
 have l:∀(M:List Int) (i1:NN),p1=M→K3 ⟨[(1,rI k),(5,.r<|.sl<|M.map<|A3 .i64)],[],(i1 0),29⟩:=by
  intro M i1 e
  have h1:=J _ e
  exact c3 _<|aU<|mM R<|mM R<|AG h1 λr1 O h2=>cL (bO<|O) R<|mA R<|aZ<|Zi<|yB h2 R
 refine aU<|xQ R<|mA R<|aZ<|aC R (λm=>?_) λm=>?_
 ·have T:=DN m E
  refine aR<|sS R (BZ 9 R CU (f:=(A3 .i64)) (l:=([1,6,7,10,11,12]:List Int)) ⟨R,⟨_,iL,R⟩,R,⟨_,iL,R⟩,R,⟨_,iL,R⟩,R,⟨_,iL,R⟩,R,⟨_,iL,R⟩,R,⟨_,iL,R⟩,Za⟩ R (λ_=>R) R)<|mA R<|Zh ?_
  exact j _ _ (Zw (by exact AZ.frz (e':=[(0,rI p),(1,rI k),(4,rB false),(5,.r<|.sl<|[1,6,7,10,11,12].map<|A3 .i64),(6,rI p),(7,rB<|(decide<|p=0)),(8,rB<|(decide<|p=0)),(9,.r<|.sl<|[1,6,7,10,11,12].map<|A3 .i64)]) (h':=[]) 9 R ⟨jL,jL,jL,.inl<|.inr<|.inr ⟨R,R⟩,jL,jL,jL,.inl<|.inr<|.inr ⟨R,R⟩,Za⟩ Za) wk)<|l _ (AH [(C+1)]) (Zf T).symm
 ·have T:=DH m E
  refine aU<|xQ R<|mA R<|aZ<|cI R T (λU=>?_) λU=>?_
  ·refine aR<|sS R (BZ 12 R CU (f:=(A3 .i64)) (l:=([2,4,5,10]:List Int)) ⟨R,⟨_,iL,R⟩,R,⟨_,iL,R⟩,R,⟨_,iL,R⟩,R,⟨_,iL,R⟩,Za⟩ R (λ_=>R) R)<|mA R<|Zh ?_
   exact j _ _ (Zw (by exact AZ.frz (e':=[(0,rI p),(1,rI k),(4,rB false),(5,.r<|.sl<|[2,4,5,10].map<|A3 .i64),(6,rI p),(7,rB<|(decide<|p=0)),(8,rB<|(decide<|p=0)),(10,rB<|(decide<|p=1)),(11,rB<|(decide<|p=1)),(12,.r<|.sl<|[2,4,5,10].map<|A3 .i64)]) (h':=[]) 12 R ⟨jL,jL,jL,.inl<|.inr<|.inr ⟨R,R⟩,jL,jL,jL,jL,jL,.inl<|.inr<|.inr ⟨R,R⟩,Za⟩ Za) wk)<|l _ (AH [(C+1)]) (Zf U).symm
  refine aU<|xQ R<|mA R<|aZ<|cI R U (λV=>?_) λV=>?_
  ·refine aF [1] ?_
   refine aR<|sS R (BZ 15 R CU (f:=(A3 .i64)) (l:=([4,5,10]:List Int)) ⟨R,⟨_,iL,R⟩,R,⟨_,iL,R⟩,R,⟨_,iL,R⟩,Za⟩ R (λ_=>R) R)<|mA R<|Zh ?_
   exact j _ _ (Zw (by exact AZ.frz (e':=[(1,rI k),(5,.r<|.sl<|[4,5,10].map<|A3 .i64),(15,.r<|.sl<|[4,5,10].map<|A3 .i64)]) (h':=[]) 15 R ⟨jL,.inl<|.inr<|.inr ⟨R,R⟩,.inl<|.inr<|.inr ⟨R,R⟩,Za⟩ Za) wk)<|l _ (AH [(C+1)]) (Zf V).symm
  refine aS λK9 c9 F=>aU<|xQ R<|mA R<|aZ<|BS V λp2 I X=>?_
  have J2:∀(A:Bool) (B:NN),p2=A→K9 ⟨[(1,rI k),(5,cZ),(6,rI p),(16,rB A)],[],(B 0),29⟩:=by
   intro A B e
   have h6:=X _ e
   refine c9 _<|cI R h6 (λZ=>?_) λZ=>?_
   ·refine aR<|sS R (BZ 19 R CU (f:=(A3 .i64)) (l:=([5]:List Int)) ⟨R,⟨_,iL,R⟩,Za⟩ R (λ_=>R) R)<|mA R<|Zh ?_
    exact j _ _ (Zw (by exact AZ.frz (e':=[(1,rI k),(5,.r<|.sl<|[5].map<|A3 .i64),(6,rI p),(16,rB A),(19,.r<|.sl<|[5].map<|A3 .i64)]) (h':=[]) 19 R ⟨jL,.inl<|.inr<|.inr ⟨R,R⟩,jL,jL,.inl<|.inr<|.inr ⟨R,R⟩,Za⟩ Za) wk)<|l _ (AH [((B 0)+1)]) (Zf Z).symm
   refine aU<|xQ R<|mA R<|aZ<|cI R Z (λh8=>?_) λh8=>?_
   ·refine aR<|sS R (BZ 22 R CU (f:=(A3 .i64)) (l:=([3]:List Int)) ⟨R,⟨_,iL,R⟩,Za⟩ R (λ_=>R) R)<|mA R<|Zh ?_
    exact j _ _ (Zw (by exact AZ.frz (e':=[(1,rI k),(5,.r<|.sl<|[3].map<|A3 .i64),(6,rI p),(16,rB A),(20,rB<|(decide<|p=2)),(21,rB<|(decide<|p=2)),(22,.r<|.sl<|[3].map<|A3 .i64)]) (h':=[]) 22 R ⟨jL,.inl<|.inr<|.inr ⟨R,R⟩,jL,jL,jL,jL,.inl<|.inr<|.inr ⟨R,R⟩,Za⟩ Za) wk)<|l _ (AH [((B 0)+1)]) (Zf h8).symm
   refine aU<|xQ R<|mA R<|aZ<|cI R h8 (λh9=>?_) λh9=>?_
   ·refine aR<|sS R (BZ 25 R CU (f:=(A3 .i64)) (l:=([8,9]:List Int)) ⟨R,⟨_,iL,R⟩,R,⟨_,iL,R⟩,Za⟩ R (λ_=>R) R)<|mA R<|Zh ?_
    exact j _ _ (Zw (by exact AZ.frz (e':=[(1,rI k),(5,.r<|.sl<|[8,9].map<|A3 .i64),(6,rI p),(16,rB A),(20,rB<|(decide<|p=2)),(21,rB<|(decide<|p=2)),(23,rB<|(decide<|p=7)),(24,rB<|(decide<|p=7)),(25,.r<|.sl<|[8,9].map<|A3 .i64)]) (h':=[]) 25 R ⟨jL,.inl<|.inr<|.inr ⟨R,R⟩,jL,jL,jL,jL,jL,jL,.inl<|.inr<|.inr ⟨R,R⟩,Za⟩ Za) wk)<|l _ (AH [((B 0)+1)]) (Zf h9).symm
   refine Zc ?_
   exact j _ _ ((by exact AZ.cv ⟨jL,.inl<|.inr<|.inr ⟨R,R⟩,Za⟩ Za nL))<|l _ (AH [(B 0)]) (Zf h9).symm
  refine aC R (λq=>?_) λq=>?_
  ·have w:=DN q I
   exact Zc<|F _ _ wk<|J2 _ (AH [C]) (Zf w).symm
  ·have w:=DH q I
   refine aF [1,5,6] ?_
   exact aR<|xQ R<|mA R<|Zh<|F _ _ wk<|J2 _ (AH [C]) (Zf w).symm
theorem fM{d1 k a r}(h:Ej d1 k a=some r):AR prog 54 [.agg [qb d1.Nodes],rI k,.r<|.sl<|a.map<|A3 .i64] (rI r):=by
 unfold Ej at h
 refine mF func54 ntmps54 R λw=>aU<|sS R (At (cs:=[qb d1.Nodes]) 3 R iL R R)<|mA R<|aZ<|aS λK2 c2 A=>aU<|mM R<|xL CU R<|mM R<|aZ<|Ze<|BM h λo1 l B m=>?_
 have J1:∀(u2:Unit) (i5:NN),o1=.nrm u2→K2 ⟨[],[],(i5 0),35⟩:=by
  intro u2 i5 e
  have h1:=B _ e
  exact c2 _<|zI h1 R id
 refine Zt (λ(C:Int) q=>⟨[(1,rI k),(3,.ptr 3 w 0 0),(11,.r<|.sl<|a.map<|A3 .i64),(12,rL a),(13,rI C)],[(3,some<|.box w 24 [qb d1.Nodes])],(q 0),35⟩) (AH [(w+1)]) l wk ?_
 intro C q v1 E j
 have h2:Ci d1 k a C=some v1:=E;unfold Ci at h2
 refine aU<|xS R<|aZ<|aT λc6=>cI R h2 (λF=>?_) λF=>?_
 ·refine Zc<|c6 _<|aT λc7=>Ze<|aU<|AG F λx4 I h4=>xI CU R I<|xV (.int .i64 x4) AJ R<|mA R<|aZ<|aU<|xC Bs R<|mM R<|Ed h4 λr1 r2 J h5=>cL (Q2<|J) R<|mM R<|xX R<|xX R<|mA R<|mA R<|aZ<|aT λM=>aT λO=>aG [1,3,9,10,11,12,13] [3] ?_
  refine aR<|mM R<|sQ R (BD R iL)<|aZ<|O _<|cI R h5 (λT=>?_) λT=>?_
  ·exact zI (m _<|xH j T) R id
  refine Zc<|M _<|aU<|mM R<|lF CH B7 R R<|mM R<|AG T λx5 U h7=>xI A8 R U<|sQ R (BK R Cd iL)<|xV (.int .i64 x5.Kind) AJ R<|AG h7 λr3 V h8=>cL (ed<|V) R<|sQ R (BD R iL)<|aZ<|cI R h8 (λX=>?_) λX=>?_
  ·exact zI (m _<|xH j X) R id
  refine Zc<|c7 _<|aG [1,3,11,12,13] [3] ?_
  exact aR<|AG X λx6 Z a0=>xA R Z<|mM R<|Zh<|Zq a0 (AH [(q 0)]) wk
 exact Zm<|A _ _ wk<|J1 _ (AH [(q 0)])<|xH j F
theorem Pz{d1 r}(h:D2 d1=some r):AR prog 24 [.agg [qb d1.Nodes]] (rI r):=by
 unfold D2 at h
 refine mF func24 ntmps24 R λl=>aU<|sS R (At (cs:=[qb d1.Nodes]) 1 R iL R R)<|mA R<|aZ<|aT λc2=>aU<|lF CH B7 R R<|xL A8 R<|xQ R<|aZ<|cI R h (λX=>?_) λX=>?_
 ·exact zI X R id
 refine Zc<|c2 _<|aS λK5 c5 Z=>aU<|lF CH B7 R R<|xL A8 R<|mM R<|aZ<|Ze<|BM X λo1 B a0 C=>?_
 have J1:∀(u2:Unit) (i5:NN),o1=.nrm u2→K5 ⟨[(1,.ptr 1 l 0 0)],[(1,some<|.box l 24 [qb d1.Nodes])],(i5 0),67⟩:=by
  intro u2 i5 e
  have h2:=a0 _ e
  refine c5 _<|aS λK7 c7 a1=>aU<|lF CH B7 R R<|xL A8 R<|mM R<|aZ<|Ze<|BM h2 λo2 E a2 a6=>?_
  have J2:∀(u4:Unit) (F:NN),o2=.nrm u4→K7 ⟨[],[],(F 0),67⟩:=by
   intro u4 F e
   have h3:=a2 _ e
   exact c7 _<|zI h3 R id
  refine Zt (λ(x5:Int) i8=>⟨[(1,.ptr 1 l 0 0),(51,qb d1.Nodes),(52,rL d1.Nodes),(53,rI x5)],[(1,some<|.box l 24 [qb d1.Nodes])],(i8 0),67⟩) (AH [(i5 0)]) E wk ?_
  intro x5 i8 v1 a7 I
  have h4:Cc d1 x5=some v1:=a7;unfold Cc at h4
  refine aU<|xS R<|aZ<|aT λa8=>cI R h4 (λh5=>?_) λh5=>?_
  ·refine Zc<|a8 _<|aT λaa=>Ze<|aU<|AG h5 λj ab h6=>xI A8 R ab<|xB ((Af j)) Cf R<|sS R (BH (cs:=De) 7 R GA R R)<|Zl R R (A4 (ds:=(Af j)) R E8 iL R iL R R R R)<|aZ<|aT λac=>AG h6 λr1 ad h7=>?_
   refine rP 5 [pO 57<|.agg [qb d1.Nodes],pO 58<|.ptr 7 (i8 0) 0 1,pO 59<|rI j.Kind,pO 60<|.agg<|Af j,pO 61<|.r<|.sl<|r1.map<|A3 .i64] BR R (by exact⟨oB [(1,.ptr 1 l 0 0)] [(1,some<|.box l 24 [qb d1.Nodes])]<|DG R Bs (.inl R) R R,oB [(7,.ptr 7 (i8 0) 0 0)] [(7,some<|.box (i8 0) 54<|Af j)]<|fB R Cd (.inl R) (λ_=>R) R,oB [(58,.ptr 7 (i8 0) 0 1)] [(7,some<|.box (i8 0) 54<|Af j)]<|Aa (a:=rI j.Kind) R AJ (.inl R) R R,oB [(7,.ptr 7 (i8 0) 0 0)] [(7,some<|.box (i8 0) 54<|Af j)]<|DG R Cf (.inl R) R R,oD (λ_=>[(60,.agg<|Af j)]) (λ_=>[]) λG1 e h' n=>BJ (r:=.r<|.sl<|r1.map<|A3 .i64) (caps:=[]) (bs:=(IA j)) R (.inl R) R ⟨.inl ⟨(.inl R),R⟩,Za⟩ λ_=>nh<|ad,Za⟩) λG1 n1=>?_
   refine BV [1,7,51,52,53,54,55,56,57,58,59,60,61] [1,7] ?_
   refine AG h7 λe1 ae h8=>cL (fM<|ae) R<|mA R<|aZ<|ac _<|aT λaf=>aG [1,8,51,52,53] [1] ?_
   refine aR<|mM R<|xU R<|aZ<|af _<|cI R h8 (λh9=>?_) λh9=>?_
   ·exact aU<|mM R<|mA R<|aZ<|Zi<|yI (a6 _<|xH I h9) R
   exact Zc<|aa _<|aR<|AG h9 λx8 ag ah=>xA R ag<|mM R<|Zh<|Zq ah (AH [n1]) wk
  exact Zm<|a1 _ _ wk<|J2 _ (AH [(i8 0)])<|xH I h5
 refine Zt (λ(x2:Int) U=>⟨[(1,.ptr 1 l 0 0),(14,qb d1.Nodes),(15,rL d1.Nodes),(16,rI x2)],[(1,some<|.box l 24 [qb d1.Nodes])],(U 0),67⟩) (AH [(l+1)]) B wk ?_
 intro x2 U v2 ai m
 have J:CJ d1 x2=some v2:=ai;unfold CJ at J
 refine aU<|xS R<|aZ<|aT λaj=>cI R J (λq=>?_) λq=>?_
 ·refine Zc<|aj _<|aT λak=>Ze<|aU<|mM R<|AG q λV al an=>xI A8 R al<|xB ((Af V)) Cf R<|sS R (BH (cs:=De) 4 R GA R R)<|mA R<|Zl R R (A4 (ds:=(Af V)) R E8 iL R iL R R R R)<|aZ<|aT λao=>aU<|xC Cf R<|AG an λe2 aq ar=>cL (ep<|aq) R<|mA R<|aZ<|aU<|mM R<|xU R<|aZ<|cI R ar (λw=>?_) λw=>?_
  ·refine aT λau=>aF [5] ?_
   exact aR<|mM R<|mA R<|aZ<|au _<|Zi<|yI (C _<|xH m w) R
  refine Zc<|ao _<|aT λav=>aG [1,3,4,14,15,16] [1,4] ?_
  refine ZB BR (by kernel_rfl) ?_
  refine qP R (AK R iL)<|qP R (A9 R iL iL)<|qP R (AK R iL)<|qO R (fB R Dk iL fR R)<|qO R (Aa (a:=rI V.ID) R AJ (iR R) R R)<|qO R (DL R (iR R) iL)<|qP R (Bb R iL<|iR R)<|qP R (AK R iL)<|qO R (AK R iL)<|qO R (Bh R (iR R) iL)<|qO R (AK R<|iR R)<|qT R (fB R Dk iL fR R)<|qT R (Aa (a:=rI V.ID) R AJ (iR R) R R)<|qT R (fB R CH iL fR R)<|qT R (Aa (a:=qb d1.Nodes) R B7 (iR R) R R)<|qT R (AK R iL)<|AG w λb0 M aw=>qT R (CS R (iR R) iL<|Ad M)<|AG aw λax O ay=>qT R (BB R A8.slice (iR R) (iR R) (λ_=>R)<|Ad O)<|qT R (BK R Dk<|iR R)<|qT R (Bt (d:=.int .i64 ax.ID) R AJ (iR R) R)<|qT R (FG R (iR R)<|iR R)<|qO R (Bb R (iR R)<|iR R)<|qP R (CZ R iL<|iR R)<|AQ.nil<|av _<|cI R ay (λA=>?_) λA=>?_
  ·exact zI (C _<|xH m A) R id
  exact Zc<|ak _<|aR<|AG A λb1 T az=>xA R T<|mM R<|Zh<|Zq az (AH [((U 0)+1)]) wk
 exact Zm<|Z _ _ wk<|J1 _ (AH [(U 0)])<|xH m q
theorem iO{j r}(h:NV j=some r):AR prog 36 [qe j] (rI r):=by
 unfold NV at h
 refine mF func36 ntmps36 R λn0=>aU<|mA R<|aZ<|aS λK2 c2 w=>aU<|mM R<|xL Bu R<|mM R<|aZ<|Ze<|BM h λo1 l A B=>?_
 have J1:∀(U:Unit) (V:NN),o1=.nrm U→K2 ⟨[],[],(V 0),18⟩:=by
  intro U V e
  have h1:=A _ e
  exact c2 _<|zI h1 R id
 refine Zt (λ(C:Int) q=>⟨[(6,qe j),(7,rL j),(8,rI C)],[],(q 0),18⟩) (AH [n0]) l wk ?_
 intro C q v1 E m
 have X:N0 j C=some v1:=E;unfold N0 at X
 refine aU<|xS R<|aZ<|aT λc6=>cI R X (λF=>?_) λF=>?_
 ·refine Zc<|c6 _<|aT λc7=>Ze<|aU<|AG F λZ I h4=>xI Bu R I<|xB ((Bf Z)) FR R<|sS R (BH (cs:=Mh) 4 R Mv R R)<|Zl R R (A4 (ds:=(Bf Z)) R KC iL R iL R R R R)<|aZ<|aU<|xC FR R<|AG h4 λe1 J h5=>cL (XW<|J) R<|mA R<|aZ<|aU<|mM R<|xU R<|aZ<|cI R h5 (λM=>?_) λM=>?_
  ·refine aT λO=>aF [5] ?_
   exact aR<|mM R<|mA R<|aZ<|O _<|Zi<|yI (B _<|xH m M) R
  refine Zc<|c7 _<|aF [6,7,8] ?_
  exact aR<|AG M λx5 T h7=>xA R T<|mM R<|Zh<|Zq h7 (AH [((q 0)+1)]) wk
 exact Zm<|w _ _ wk<|J1 _ (AH [(q 0)])<|xH m F
theorem iZ{B r}(h:Of B=some r):AR prog 152 [qe B] (qe r):=by
 unfold Of at h
 refine mF func152 ntmps152 R λn0=>aU<|mA R<|aZ<|aU<|mM R<|xL Bu R<|AG h λa1 C h1=>sS R (Ww 8 R Bu (f:=AL.row) (z0:=(AL.mk 0 0 [])) jd iL iL C)<|mA R<|aZ<|aS λK3 c3 M=>aU<|mM R<|xL Bu R<|mM R<|aZ<|Ze<|BS h1 λo1 E O=>?_
 have J1:∀(w:List AL) (J:NN),o1=w→K3 ⟨[(3,.own 8<|J 0)],[(8,some<|.arr (J 0) 37 3<|w.map AL.row)],(J 1),29⟩:=by
  intro w J e
  have h2:=O _ e
  exact c3 _<|aU<|mM R<|mA R<|aZ<|Zi<|Bz (P:=prog) (λ(r:(List AL))=>qe r) h2 iL<|.t<|.one<|.own R
 refine ZK (λ(A:Int) (m:List AL) j=>⟨[(3,.own 8<|j 0),(9,qe B),(10,rL B),(11,rI A)],[(8,some<|.arr (j 0) 37 3<|m.map AL.row)],(j 1),29⟩) (AH [n0,(n0+1)]) E wk ?_
 intro A m j v1 T U
 have h3:Ji B A m=some v1:=T;unfold Ji at h3
 refine aU<|xS R<|aZ<|aT λc7=>cI R h3 (λV=>?_) λV=>?_
 ·refine Zc<|c7 _<|aT λc8=>Ze<|aU<|mM R<|AG V λl X h5=>xI Bu R X<|xB ((Bf l)) FR R<|sS R (BH (cs:=Mh) 5 R Mv R R)<|mA R<|Zl R R (A4 (ds:=(Bf l)) R KC iL R iL R R R R)<|aZ<|AG h5 λF Z h6=>?_
  refine Iw 10 [pO 16<|.own 8<|j 0,pO 17<|rI A,pO 18<|.ptr 5 (j 1) 0 0,pO 19<|rI l.Char,pO 20<|.ptr 5 (j 1) 0 1,pO 21<|rI l.Ref,pO 22<|.ptr 5 (j 1) 0 2,pO 23<|qa l.Attrs,⟨some 24,(λq=>.own 24<|q 8),some (24,(λq=>some<|.arr (q 8) 71 2<|F.map AC.row)),[8]⟩,⟨some 25,(λq=>.agg [rI l.Char,rI l.Ref,.own 24<|q 8]),none,[8]⟩] BR (by kernel_rfl) (by exact⟨λ_ _ h=>⟨R,λ_ _ e=>by cases e⟩,λ_ _ h=>⟨R,λ_ _ e=>by cases e⟩,λ_ _ h=>⟨R,λ_ _ e=>by cases e⟩,λ_ _ h=>⟨R,λ_ _ e=>by cases e⟩,λ_ _ h=>⟨R,λ_ _ e=>by cases e⟩,λ_ _ h=>⟨R,λ_ _ e=>by cases e⟩,λ_ _ h=>⟨R,λ_ _ e=>by cases e⟩,λ_ _ h=>⟨R,λ_ _ e=>by cases e⟩,λ_ _ h=>⟨by simp only[h 8 R],λ_ _ e=>by cases e;simp only[h 8 R]⟩,λ_ _ h=>⟨by simp only[h 8 R],λ_ _ e=>by cases e⟩,Za⟩) R (by exact⟨oB [(3,.own 8<|j 0)] [(8,some<|.arr (j 0) 37 3<|m.map AL.row)]<|AK R<|.inl R,oB [(4,rI A)] []<|AK R<|.inl R,oB [(5,.ptr 5 (j 1) 0 0)] [(5,some<|.box (j 1) 37<|Bf l)]<|fB R Ge (.inl R) (λ_=>R) R,oB [(18,.ptr 5 (j 1) 0 0)] [(5,some<|.box (j 1) 37<|Bf l)]<|Aa (a:=rI l.Char) R AJ (.inl R) R R,oB [(5,.ptr 5 (j 1) 0 0)] [(5,some<|.box (j 1) 37<|Bf l)]<|fB R Ds (.inl R) (λ_=>R) R,oB [(20,.ptr 5 (j 1) 0 1)] [(5,some<|.box (j 1) 37<|Bf l)]<|Aa (a:=rI l.Ref) R AJ (.inl R) R R,oB [(5,.ptr 5 (j 1) 0 0)] [(5,some<|.box (j 1) 37<|Bf l)]<|fB R LK (.inl R) (λ_=>R) R,oB [(22,.ptr 5 (j 1) 0 2)] [(5,some<|.box (j 1) 37<|Bf l)]<|Aa (a:=qa l.Attrs) R Bw (.inl R) R R,oM (λ_=>[(23,qa l.Attrs)]) (λ_=>[]) R λq e h' n=>MD 24 (f:=AC.row) R Ay (.inl R) (.inl ⟨(.inl R),λ_=>R⟩) Z,oC (λq=>[(19,rI l.Char),(21,rI l.Ref),(24,.own 24<|q 8)]) (λq=>[(24,some<|.arr (q 8) 71 2<|F.map AC.row)]) λq e h'=>Bj R Jf (q:=[(0,_),(1,_),(2,_)]) (by exact⟨R,R,R,(.inl R),R,R,R,(.inl R),R,R,R,(.inl R),Za⟩) (cs:=[rI l.Char,rI l.Ref,.own 24<|q 8])<|by rfl,Za⟩) λq n1=>?_
  refine BV [3,4,5,9,10,11,12,13,14,15,16,17,18,19,20,21,22,23,24,25] [5,8,24] ?_
  refine AG h6 λx5 I h7=>sQ R (Fs R Bu.slice iL R iL λ_=>I) ?_
  refine ZJ (by exact AZ.frz (e':=[(3,.own 8<|j 0),(4,rI A),(5,.ptr 5 (j 1) 0 0),(9,qe B),(10,rL B),(11,rI A),(12,rB<|(decide<|A<(B.length:Int))),(13,rI A),(14,.rop (AL.row l) 0),(15,.agg<|Bf l),(16,.own 8<|j 0),(17,rI A),(18,.ptr 5 (j 1) 0 0),(19,rI l.Char),(20,.ptr 5 (j 1) 0 1),(21,rI l.Ref),(22,.ptr 5 (j 1) 0 2),(23,qa l.Attrs),(24,qa F),(25,.agg [rI l.Char,rI l.Ref,qa F]),(26,.ptr 8 (j 0) A.toNat 0)]) (h':=[(5,some<|.box (j 1) 37<|Bf l),(8,some<|.arr (j 0) 37 3<|m.map AL.row)]) 24 R ⟨jL,jL,jL,jL,jL,jL,jL,jL,jL,jL,jL,jL,jL,jL,jL,jL,jL,jL,.inl<|.inr<|.inr ⟨R,R⟩,.inr ⟨_,_,R,R,⟨.inl R,.inl R,.inr<|.inr ⟨R,R⟩,Za⟩⟩,jL,Za⟩ ⟨R,.inl R,R,.inl R,Za⟩) ?_
  refine Zl R R (S9 (v:=(AL.mk l.Char l.Ref F)) R KC iL R I iL R R R R)<|aZ<|c8 _<|aG [3,9,10,11] [8] ?_
  exact aR<|AG h7 λx6 a0 h8=>xA R a0<|mM R<|Zh<|ZI h8 (AH [(j 0),n1]) wk
 exact Zm<|M _ _ wk<|J1 _ (AH [(j 0),(j 1)])<|xH U V
theorem kf{n1 r}(h:PX n1=some r):AR prog 130 (IA n1) (.agg<|Af r):=by
 unfold PX at h
 refine mF func130 ntmps130 R λj=>aU<|sS R (At (cs:=(Af n1)) 1 R iL R R)<|sS R (BH (cs:=De) 2 R GA R R)<|aZ<|aU<|lF Eg Bw R R<|AG h λI J h1=>sS R (MD 8 (f:=AC.row) R Ay iL (.inl ⟨iL,λ_=>R⟩) J)<|sQ R (fB R Eg iL fR R)<|Zl R R (A4 (ds:=[rI n1.ID,rI n1.Kind,.own 8<|j+2,qe n1.Flow,rI n1.Grid.Rows,rI n1.Grid.Cols,qc n1.Grid.Cells,qd n1.Grid.Merges,qf n1.Draw]) R I2 iL R iL R R R R)<|aZ<|aU<|lF ET E0 R R<|AG h1 λB M h2=>sS R (BJ (r:=qe B) (caps:=[]) (bs:=[qe n1.Flow]) R iL R ⟨.inl ⟨iL,R⟩,Za⟩ λ_=>iZ<|M)<|sQ R (fB R ET iL fR R)<|Zl R R (A4 (ds:=[rI n1.ID,rI n1.Kind,.own 8<|j+2,qe B,rI n1.Grid.Rows,rI n1.Grid.Cols,qc n1.Grid.Cells,qd n1.Grid.Merges,qf n1.Draw]) R V0 iL R iL R R R R)<|aZ<|aT λc4=>aG [1,2] [1,2,8] ?_
 refine aR<|lF GW HA R R<|AG h2 λO T h3=>sS R (MD 16 (f:=Ax.row) R D9 iL (.inl ⟨iL,λ_=>R⟩) T)<|sQ R (fB R GW iL fR R)<|Zl R R (A4 (ds:=[rI n1.ID,rI n1.Kind,.own 8<|j+2,qe B,rI n1.Grid.Rows,rI n1.Grid.Cols,qc n1.Grid.Cells,qd n1.Grid.Merges,.own 16<|j+3]) R dL iL R iL R R R R)<|aZ<|c4 _<|aU<|sQ R (fB R EH iL fR R)<|sQ R (IO (ds:=(CG n1.Grid)) R HV iL R R R)<|sS R (BH (cs:=Qb) 3 R lX R R)<|Zl R R (A4 (ds:=(CG n1.Grid)) R Yz iL R iL R R R R)<|aZ<|aU<|lF EL EY R R<|AG h3 λl3 U h4=>sS R (MD 22 (f:=Ai.row) R Cp iL (.inl ⟨iL,λ_=>R⟩) U)<|sQ R (fB R EL iL fR R)<|Zl R R (A4 (ds:=[rI n1.Grid.Rows,rI n1.Grid.Cols,qc n1.Grid.Cells,.own 22<|j+5]) R pr iL R iL R R R R)<|aZ<|aT λc7=>aG [1,2,3] [1,2,3,8,16,22] ?_
 refine aR<|lF D4 EK R R<|AG h4 λF V h5=>sS R (MD 26 (f:=Aj.row) R B8 iL (.inl ⟨iL,λ_=>R⟩) V)<|sQ R (fB R D4 iL fR R)<|Zl R R (A4 (ds:=[rI n1.Grid.Rows,rI n1.Grid.Cols,.own 26<|j+6,.own 22<|j+5]) R pB iL R iL R R R R)<|aZ<|c7 _<|aS λK8 c8 X=>aU<|lF D4 EK R R<|sQ R (JL R B8.slice iL R)<|mM R<|aZ<|Ze<|BS h5 λo1 C Z=>?_
 have J1:∀(g4:Ar) (w:NN),o1=g4→K8 ⟨[(1,.ptr 1 j 0 0),(2,.ptr 2 (j+1) 0 0),(3,.ptr 3 (j+4) 0 0)],[(1,some<|.box j 54 [rI n1.ID,rI n1.Kind,.own 8<|j+2,qe B,rI n1.Grid.Rows,rI n1.Grid.Cols,qc n1.Grid.Cells,qd n1.Grid.Merges,.own 16<|j+3]),(2,some<|.box (j+1) 54 De),(3,some<|.box (j+4) 51 [rI g4.Rows,rI g4.Cols,.own 26<|w 0,.own 22<|w 1]),(8,some<|.arr (j+2) 71 2<|I.map AC.row),(16,some<|.arr (j+3) 146 8<|O.map Ax.row),(22,some<|.arr (w 1) 109 4<|g4.Merges.map Ai.row),(26,some<|.arr (w 0) 107 5<|g4.Cells.map Aj.row)],(w 2),48⟩:=by
  intro g4 w e
  have h6:=Z _ e
  refine c8 _<|aU<|xC HV R<|sQ R (fB R EH iL fR R)<|Zl R R (A4 (ds:=[rI n1.ID,rI n1.Kind,.own 8<|j+2,qe B,rI g4.Rows,rI g4.Cols,.own 26<|w 0,.own 22<|w 1,.own 16<|j+3]) R Yz iL R iL R R R R)<|aZ<|aU<|xC Cf R<|Zl R R (A4 (ds:=[rI n1.ID,rI n1.Kind,.own 8<|j+2,qe B,rI g4.Rows,rI g4.Cols,.own 26<|w 0,.own 22<|w 1,.own 16<|j+3]) R E8 iL R iL R R R R)<|aZ ?_
  exact Zi<|Bz (P:=prog) (λ(r:AI)=>.agg<|Af r) h6 iL<|.a Cf R R R<|.agg<|by exact⟨.closed _ R,.closed _ R,.own R,.closed _ R,.closed _ R,.closed _ R,.own R,.own R,.own R,Za⟩
 refine ZK (λ(q:Int) (g2:Ar) l=>⟨[(1,.ptr 1 j 0 0),(2,.ptr 2 (j+1) 0 0),(3,.ptr 3 (j+4) 0 0),(29,.own 26<|l 0),(30,rL F),(31,rI q)],[(1,some<|.box j 54 [rI n1.ID,rI n1.Kind,.own 8<|j+2,qe B,rI n1.Grid.Rows,rI n1.Grid.Cols,qc n1.Grid.Cells,qd n1.Grid.Merges,.own 16<|j+3]),(2,some<|.box (j+1) 54 De),(3,some<|.box (j+4) 51 [rI g2.Rows,rI g2.Cols,.own 26<|l 0,.own 22<|l 1]),(8,some<|.arr (j+2) 71 2<|I.map AC.row),(16,some<|.arr (j+3) 146 8<|O.map Ax.row),(22,some<|.arr (l 1) 109 4<|g2.Merges.map Ai.row),(26,some<|.arr (l 0) 107 5<|g2.Cells.map Aj.row)],(l 2),48⟩) (AH [(j+6),(j+5),(j+7)]) C wk ?_
 intro q g2 l v1 a0 a1
 have h7:Km F q g2=some v1:=a0;unfold Km at h7
 refine aU<|xS R<|aZ<|aT λa2=>cI R h7 (λh8=>?_) λh8=>?_
 ·refine Zc<|a2 _<|aT λa6=>Ze<|aU<|mM R<|AG h8 λm A h9=>sQ R (Fs R B8.slice iL R iL λ_=>A)<|sQ R (U4 (cs:=(Be m)) R Er iL fR (λ_=>A) R)<|sS R (BH (cs:=Hw) 5 R Iq R R)<|mA R<|Zl R R (A4 (ds:=(Be m)) R IN iL R iL R R R R)<|aZ<|AG h9 λl5 a7 a8=>?_
  refine Iw 6 [pO 36<|.ptr 3 (j+4) 0 2,pO 37<|.own 26<|l 0,pO 38<|rI q,pO 39<|.ptr 5 (l 2) 0 4,pO 40<|qa m.Attrs,⟨some 41,(λE=>.own 41<|E 5),some (41,(λE=>some<|.arr (E 5) 71 2<|l5.map AC.row)),[5]⟩] BR (by kernel_rfl) (by exact⟨λ_ _ h=>⟨R,λ_ _ e=>by cases e⟩,λ_ _ h=>⟨R,λ_ _ e=>by cases e⟩,λ_ _ h=>⟨R,λ_ _ e=>by cases e⟩,λ_ _ h=>⟨R,λ_ _ e=>by cases e⟩,λ_ _ h=>⟨R,λ_ _ e=>by cases e⟩,λ_ _ h=>⟨by simp only[h 5 R],λ_ _ e=>by cases e;simp only[h 5 R]⟩,Za⟩) R (by exact⟨oB [(3,.ptr 3 (j+4) 0 0)] [(3,some<|.box (j+4) 51 [rI g2.Rows,rI g2.Cols,.own 26<|l 0,.own 22<|l 1])]<|fB R D4 (.inl R) (λ_=>R) R,oB [(36,.ptr 3 (j+4) 0 2)] [(3,some<|.box (j+4) 51 [rI g2.Rows,rI g2.Cols,.own 26<|l 0,.own 22<|l 1])]<|Aa (a:=.own 26<|l 0) R EK (.inl R) R R,oB [(4,rI q)] []<|AK R<|.inl R,oB [(5,.ptr 5 (l 2) 0 0)] [(5,some<|.box (l 2) 107<|Be m)]<|fB R GL (.inl R) (λ_=>R) R,oB [(39,.ptr 5 (l 2) 0 4)] [(5,some<|.box (l 2) 107<|Be m)]<|Aa (a:=qa m.Attrs) R Bw (.inl R) R R,oM (λ_=>[(40,qa m.Attrs)]) (λ_=>[]) R λE e h' n=>MD 41 (f:=AC.row) R Ay (.inl R) (.inl ⟨(.inl R),λ_=>R⟩) a7,Za⟩) λE n2=>?_
  refine BV [1,2,3,4,5,29,30,31,32,33,34,35,36,37,38,39,40,41] [1,2,3,5,8,16,22,26,41] ?_
  refine sQ R (Fs R B8.slice iL R iL λ_=>A)<|sQ R (GK (ob:=.arr _ _ _ _) R GL iL fR R) ?_
  refine ZJ (by exact AZ.frz (e':=[(1,.ptr 1 j 0 0),(2,.ptr 2 (j+1) 0 0),(3,.ptr 3 (j+4) 0 0),(4,rI q),(5,.ptr 5 (l 2) 0 0),(29,.own 26<|l 0),(30,rL F),(31,rI q),(32,rB<|(decide<|q<(F.length:Int))),(33,rI q),(34,.ptr 26 (l 0) q.toNat 0),(35,.agg<|Be m),(36,.ptr 3 (j+4) 0 2),(37,.own 26<|l 0),(38,rI q),(39,.ptr 5 (l 2) 0 4),(40,qa m.Attrs),(41,qa l5),(42,.ptr 26 (l 0) q.toNat 0),(43,.ptr 26 (l 0) q.toNat 4)]) (h':=[(1,some<|.box j 54 [rI n1.ID,rI n1.Kind,.own 8<|j+2,qe B,rI n1.Grid.Rows,rI n1.Grid.Cols,qc n1.Grid.Cells,qd n1.Grid.Merges,.own 16<|j+3]),(2,some<|.box (j+1) 54 De),(3,some<|.box (j+4) 51 [rI g2.Rows,rI g2.Cols,.own 26<|l 0,.own 22<|l 1]),(5,some<|.box (l 2) 107<|Be m),(8,some<|.arr (j+2) 71 2<|I.map AC.row),(16,some<|.arr (j+3) 146 8<|O.map Ax.row),(22,some<|.arr (l 1) 109 4<|g2.Merges.map Ai.row),(26,some<|.arr (l 0) 107 5<|g2.Cells.map Aj.row)]) 41 R ⟨jL,jL,jL,jL,jL,jL,jL,jL,jL,jL,jL,jL,jL,jL,jL,jL,jL,.inl<|.inr<|.inr ⟨R,R⟩,jL,jL,Za⟩ ⟨R,.inl R,R,.inl R,R,.inl R,R,.inl R,R,.inl R,R,.inl R,R,.inl R,R,.inl R,Za⟩) ?_
  refine Zl R R (SE (v:=(Aj.mk m.Row m.Col m.Text m.Ref l5)) R I2 iL R A iL R R R R)<|aZ<|a6 _<|aG [1,2,3,29,30,31] [1,2,3,8,16,22,26] ?_
  exact aR<|AG a8 λx5 aa ab=>xA R aa<|mM R<|Zh<|ZI ab (AH [(l 0),(l 1),n2]) wk
 exact Zm<|X _ _ wk<|J1 _ (AH [(l 0),(l 1),(l 2)])<|xH a1 h8
theorem np{d1 r}(h:PU d1=some r):AR prog 96 [.agg [qb d1.Nodes]] (.agg [qb r.Nodes]):=by
 unfold PU at h
 refine mF func96 ntmps96 R λj=>aU<|sS R (At (cs:=[qb d1.Nodes]) 1 R iL R R)<|sS R (BH (cs:=[cZ]) 2 R Mn R R)<|aZ<|aT λc2=>aR<|lF CH B7 R R<|xL A8 R<|AG h λl1 F h1=>sS R (Ww 9 R A8 (f:=AI.row) (z0:=(AI.mk 0 0 [] [] (Ar.mk 0 0 [] []) [])) Zp iL iL F) ?_
 refine sQ R (Bj R Ri (q:=[(0,_)]) (by exact⟨R,R,R,iL,Za⟩) (cs:=[.own 9<|j+2])<|by rfl) ?_
 refine sS R (BH (cs:=[cZ]) 3 R Mn R R)<|Zl R R (A4 (ds:=[.own 9<|j+2]) R KW iL R iL R R R R)<|aZ<|c2 _<|aS λK3 c3 I=>aU<|lF CH B7 R R<|xL A8 R<|mM R<|aZ<|Ze<|BS h1 λo1 A J=>?_
 have J1:∀(m:AP) (B:NN),o1=m→K3 ⟨[(2,.ptr 2 (j+1) 0 0),(3,.ptr 3 (j+3) 0 0)],[(2,some<|.box (j+1) 24 [cZ]),(3,some<|.box (j+3) 24 [.own 9<|B 0]),(9,some<|.arr (B 0) 54 9<|m.Nodes.map AI.row)],(B 1),27⟩:=by
  intro m B e
  have h2:=J _ e
  refine c3 _<|aU<|xC Bs R<|Zl R R (A4 (ds:=[.own 9<|B 0]) R KW iL R iL R R R R)<|aZ ?_
  exact Zi<|Bz (P:=prog) (λ(r:AP)=>.agg [qb r.Nodes]) h2 iL<|.a Bs R R R<|.agg<|by exact⟨.own R,Za⟩
 refine ZK (λ(C:Int) (q:AP) l=>⟨[(2,.ptr 2 (j+1) 0 0),(3,.ptr 3 (j+3) 0 0),(12,qb d1.Nodes),(13,rL d1.Nodes),(14,rI C)],[(2,some<|.box (j+1) 24 [cZ]),(3,some<|.box (j+3) 24 [.own 9<|l 0]),(9,some<|.arr (l 0) 54 9<|q.Nodes.map AI.row)],(l 1),27⟩) (AH [(j+2),(j+4)]) A wk ?_
 intro C q l v1 M O
 have h3:Ii d1 C q=some v1:=M;unfold Ii at h3
 refine aU<|xS R<|aZ<|aT λc7=>cI R h3 (λT=>?_) λT=>?_
 ·refine Zc<|c7 _<|aT λc8=>Ze<|aU<|mM R<|AG T λw U h5=>xI A8 R U<|xB ((Af w)) Cf R<|sS R (BH (cs:=De) 5 R GA R R)<|mA R<|Zl R R (A4 (ds:=(Af w)) R E8 iL R iL R R R R)<|aZ<|AG h5 λV X h6=>?_
  refine rP 5 [pO 19<|.ptr 3 (j+3) 0 0,pO 20<|.own 9<|l 0,pO 21<|rI C,pO 22<|.agg<|Af w,pO 23<|.agg<|Af V] BR R (by exact⟨oB [(3,.ptr 3 (j+3) 0 0)] [(3,some<|.box (j+3) 24 [.own 9<|l 0])]<|fB R CH (.inl R) (λ_=>R) R,oB [(19,.ptr 3 (j+3) 0 0)] [(3,some<|.box (j+3) 24 [.own 9<|l 0])]<|Aa (a:=.own 9<|l 0) R B7 (.inl R) R R,oB [(4,rI C)] []<|AK R<|.inl R,oB [(5,.ptr 5 (l 1) 0 0)] [(5,some<|.box (l 1) 54<|Af w)]<|DG R Cf (.inl R) R R,oD (λ_=>[(22,.agg<|Af w)]) (λ_=>[]) λG1 e h' n=>BJ (r:=.agg<|Af V) (caps:=[]) (bs:=(IA w)) R (.inl R) R ⟨.inl ⟨(.inl R),R⟩,Za⟩ λ_=>kf<|X,Za⟩) λG1 n1=>?_
  refine BV [2,3,4,5,12,13,14,15,16,17,18,19,20,21,22,23] [2,3,5,9] ?_
  refine AG h6 λx5 E h7=>sQ R (Fs R A8.slice iL R iL λ_=>E)<|Zl R R (S9 (v:=V) R E8 iL R E iL R R R R)<|aZ<|c8 _<|aG [2,3,12,13,14] [2,3,9] ?_
  exact aR<|AG h7 λx6 Z h8=>xA R Z<|mM R<|Zh<|ZI h8 (AH [(l 0),n1]) wk
 exact Zm<|I _ _ wk<|J1 _ (AH [(l 0),(l 1)])<|xH O T
theorem cX{d1 r}(h:SD d1=some r):BC prog 57 1 [.agg [qb d1.Nodes]] [] (λm h'=>∃(i:Nat→Nat),m=.fn 97 [.ptr 1000 (i 0) 0 0]∧h'=[(1000,some<|.box (i 0) 24 [qb r.Nodes])]):=by
 unfold SD at h
 refine Dx func57 R R ntmps57 (Zr R) λj=>aU<|sS R (At (cs:=[qb d1.Nodes]) 1000 R iL R R)<|mA R<|aZ<|aU<|xC Bs R<|AG h λl q w=>sS R (BJ (r:=.agg [qb l.Nodes]) (caps:=[]) (bs:=[.agg [qb d1.Nodes]]) R iL R ⟨.inl ⟨iL,R⟩,Za⟩ λ_=>np<|q)<|Zl R R (A4 (ds:=[qb l.Nodes]) R KW iL R iL R R R R)<|aZ<|aT λA=>aR ?_
 refine sQ R (Jj (bs:=[.ptr 1000 j 0 0]) R<|by exact⟨iL,Za⟩) ?_
 refine mA R<|oZ A ?_
 exact Zi<|CE.mk (s':=⟨[(2,.fn 97 [.ptr 1000 j 0 0])],[(1000,some<|.box j 24 [qb l.Nodes])],(j+1),6⟩) wk<|CP (λ(r:AP) m h'=>∃(i:Nat→Nat),m=.fn 97 [.ptr 1000 (i 0) 0 0]∧h'=[(1000,some<|.box (i 0) 24 [qb r.Nodes])]) w<|by exact⟨.fn 97 [.ptr 1000 j 0 0],[(1000,some<|.box j 24 [qb l.Nodes])],R,⟨.inr R,Za⟩,R,R,AH [j],R,R⟩
theorem lf{B:List (List RV)→Option Bool}{m:List (List RV)}{v1:Aw}{r:Bool × (List<|List RV)}{l:Nat}{j:Nat}{q:Et}(h:G0 B m v1=some r)(C:q.P=prog∧q.A=B):BC prog 99 2 [.agg<|FW v1,.ptr 1000 l 0 0] [(1000,some<|.box l 121 [.yld 1001 j]),(1001,some<|.cal j q m)] (λw h'=>∃(i:Nat→Nat),w=rB r.1∧h'=[(1000,some<|.box l 121 [.yld 1001 j]),(1001,some<|.cal j q r.2)]):=by
 unfold G0 at h
 refine Dx func99 R R ntmps99 (Zr R) λF=>aU<|sS R (At (cs:=(FW v1)) 2 R iL R R)<|mA R<|aZ<|aT λI=>ZY<|B1.step R R R (B2 (Aa (a:=.yld 1001 j) R ke (.inl R) R R) _)<|B1.step R R R (B2 (fB R KX (.inl R) fR R) _)<|B1.step R R R (B2 (Aa (a:=rI v1.id) R AJ (.inl R) R R) _)<|B1.step R R R (B2 (fB R aW (.inl R) fR R) _)<|B1.step R R R (B2 (Aa (a:=rI v1.parent) R AJ (.inl R) R R) _)<|AG h λE A J=>?_
 refine B1.stepC (W:=q) (y:=[.int .i64 v1.id,.int .i64 v1.parent]) C.1 R R R R (.inl R) ⟨(.inl R),(.inl R),Za⟩ R R (by rw[C.2];exact A) ?_
 refine B1.step R R R (B2 (Ek R<|.inl R) _)<|B1.nil<|I _ ?_
 exact Zi<|CE.mk (s':=⟨[(3,rB E)],[(1000,some<|.box l 121 [.yld 1001 j]),(1001,some<|.cal j q<|m++[[.int .i64 v1.id,.int .i64 v1.parent]])],(F+1),10⟩) wk<|CP (λ(r:Bool × (List<|List RV)) w h'=>∃(i:Nat→Nat),w=rB r.1∧h'=[(1000,some<|.box l 121 [.yld 1001 j]),(1001,some<|.cal j q r.2)]) J<|by exact⟨rB E,[(1000,some<|.box l 121 [.yld 1001 j]),(1001,some<|.cal j q<|m++[[.int .i64 v1.id,.int .i64 v1.parent]])],R,⟨.inr R,.inr R,Za⟩,R,R,AH [],R,R⟩
theorem kH{m b c r}(h:He m b c=some r):AR prog 132 [.agg<|CG m,rI b,rI c] (.agg<|BA r):=by
 unfold He at h
 refine mF func132 ntmps132 R λj=>aU<|sS R (At (cs:=(CG m)) 3 R iL R R)<|sS R (BH (cs:=Fr) 6 R H0 R R)<|aZ<|aT λc2=>aR<|mM R<|mM R ?_
 refine sQ R (Bj R WZ (q:=[(0,_),(1,_),(2,_),(3,_)]) (by exact⟨R,R,R,iL,R,R,R,iL,R,R,R,iL,R,R,R,iL,Za⟩) (cs:=[rI b,rI c,rI 1,rI 1])<|by rfl) ?_
 refine sS R (BH (cs:=Fr) 7 R H0 R R)<|Zl R R (A4 (ds:=[rI b,rI c,rI 1,rI 1]) R HL iL R iL R R R R)<|aZ<|c2 _<|aS λK3 c3 B=>aU<|lF EL EY R R<|xL Cp R<|mM R<|aZ<|Ze<|BM h λo1 q C E=>?_
 have J1:∀(u2:Unit) (i5:NN),o1=.nrm u2→K3 ⟨[(6,.ptr 6 (j+1) 0 0),(7,.ptr 7 (j+2) 0 0)],[(6,some<|.box (j+1) 109 Fr),(7,some<|.box (j+2) 109 [rI b,rI c,rI 1,rI 1])],(i5 0),51⟩:=by
  intro u2 i5 e
  have h1:=C _ e
  exact c3 _<|aU<|xC DU R<|Zl R R (A4 (ds:=[rI b,rI c,rI 1,rI 1]) R HL iL R iL R R R R)<|aZ<|Zi<|Bz (P:=prog) (λ(r:Ai)=>.agg<|BA r) h1 iL<|.a DU R R R<|.g (cs:=[.int .i64 b,.int .i64 c,.int .i64 1,.int .i64 1]) R R
 refine Zt (λ(F:Int) A=>⟨[(1,rI b),(2,rI c),(6,.ptr 6 (j+1) 0 0),(7,.ptr 7 (j+2) 0 0),(14,qd m.Merges),(15,rL m.Merges),(16,rI F)],[(6,some<|.box (j+1) 109 Fr),(7,some<|.box (j+2) 109 [rI b,rI c,rI 1,rI 1])],(A 0),51⟩) (AH [(j+3)]) q wk ?_
 intro F A v1 I w
 have h2:Js m b c F=some v1:=I;unfold Js at h2
 refine aU<|xS R<|aZ<|aT λc7=>cI R h2 (λJ=>?_) λJ=>?_
 ·refine Zc<|c7 _<|aT λc8=>Ze<|aU<|AG J λl M h4=>xI Cp R M<|xB ((BA l)) DU R<|sS R (BH (cs:=Fr) 9 R H0 R R)<|Zl R R (A4 (ds:=(BA l)) R HL iL R iL R R R R)<|aZ<|aT λO=>aR<|mM R<|lF Ct AJ R R<|sQ R (Cq R iL iL)<|mM R<|vM R<|vF Ct AJ R R<|AG h4 λx5 T h5=>vQ R (CS R (iR R) (iR R)<|Ad T)<|vF Gf AJ R R<|vQ R (CN R (iR R)<|iR R)<|xN R<|mM R<|vM R<|vF DW AJ R R<|vQ R (Cq R (iR R)<|iR R)<|xN R<|mM R<|vM R<|vF DW AJ R R<|AG h5 λx6 U h6=>vQ R (CS R (iR R) (iR R)<|Ad U)<|vF Gx AJ R R<|vQ R (CN R (iR R)<|iR R)<|xN R<|aZ<|O _<|cI R h6 (λV=>?_) λV=>?_
  ·refine aT λX=>aG [6,9] [6,9] ?_
   exact aR<|xC DU R<|Zl R R (A4 (ds:=(BA l)) R HL iL R iL R R R R)<|aZ<|X _<|Zi<|Bz (P:=prog) (λ(r:Ai)=>.agg<|BA r) (E _<|xH w V) iL<|.a DU R R R<|.g (cs:=[.int .i64 l.Row,.int .i64 l.Col,.int .i64 l.H,.int .i64 l.W]) R R
  refine Zc<|c8 _<|aG [1,2,6,7,14,15,16] [6,7] ?_
  exact aR<|AG V λx7 Z h8=>xA R Z<|mM R<|Zh<|Zq h8 (AH [((A 0)+1)]) wk
 exact Zm<|B _ _ wk<|J1 _ (AH [(A 0)])<|xH w J
theorem S7{w:List AC}{A:AC}{B:AC}{r:(List AC)}{j:Nat}{l:Nat}(h:KR w A B=some r):BC prog 109 2 [.agg<|CD A,.agg<|CD B,.ptr 1000 j 0 0] [(1000,some<|.box j 35 [.own 1001 l]),(1001,some<|.arr l 71 2<|w.map AC.row)] (λq h'=>∃(i:Nat→Nat),q=.tup []∧h'=[(1000,some<|.box j 35 [.own 1001<|i 0]),(1001,some<|.arr (i 0) 71 2<|r.map AC.row)]):=by
 unfold KR at h
 refine Dx func109 R R ntmps109 (Zr R) λm=>aU<|sS R (At (cs:=(CD A)) 3 R iL R R)<|sS R (At (cs:=(CD B)) 4 R iL R R)<|aZ<|Ze<|aU<|lF Cz A6 R R<|sQ R (Dp R iL iL)<|mA R<|aZ<|cI R h (λC=>?_) λC=>?_
 ·refine aR<|sQ R (Aa (a:=.own 1001 l) R Bw iL R R)<|xC D7 R<|sS R (BZ 11 R Ay (f:=AC.row) (l:=([A]:List AC)) ⟨R,⟨_,iL,R⟩,Za⟩ R (λ_=>R) R)<|AG C λJ E O=>sS R (Cs R Ay iL R (.inr<|.inl ⟨_,_,iL,R⟩) E)<|Zl R R (A4 (ds:=[.own 1001<|m+3]) R I2 iL R iL R R R R)<|Zh ?_
  exact CE.mk (s':=⟨[],[(1000,some<|.box j 35 [.own 1001<|m+3]),(1001,some<|.arr (m+3) 71 2<|J.map AC.row)],(m+4),21⟩) wk<|CP (λ(r:(List AC)) q h'=>∃(i:Nat→Nat),q=.tup []∧h'=[(1000,some<|.box j 35 [.own 1001<|i 0]),(1001,some<|.arr (i 0) 71 2<|r.map AC.row)]) O<|by exact⟨.tup [],[(1000,some<|.box j 35 [.own 1001<|m+3]),(1001,some<|.arr (m+3) 71 2<|J.map AC.row)],⟨_,R,Za⟩,⟨.inr R,.inr R,Za⟩,R,R,AH [(m+3)],R,R⟩
 refine aU<|lF Hk A6 R R<|sQ R (Dt R iL iL)<|mA R<|aZ<|cI R C (λF=>?_) λF=>?_
 ·refine aG [2,4] [4,1000,1001] ?_
  refine aR<|sQ R (Aa (a:=.own 1001 l) R Bw iL R R)<|xC D7 R<|sS R (BZ 19 R Ay (f:=AC.row) (l:=([B]:List AC)) ⟨R,⟨_,iL,R⟩,Za⟩ R (λ_=>R) R)<|AG F λM I T=>sS R (Cs R Ay iL R (.inr<|.inl ⟨_,_,iL,R⟩) I)<|Zl R R (A4 (ds:=[.own 1001<|m+3]) R I2 iL R iL R R R R)<|Zh ?_
  exact CE.mk (s':=⟨[],[(1000,some<|.box j 35 [.own 1001<|m+3]),(1001,some<|.arr (m+3) 71 2<|M.map AC.row)],(m+4),21⟩) wk<|CP (λ(r:(List AC)) q h'=>∃(i:Nat→Nat),q=.tup []∧h'=[(1000,some<|.box j 35 [.own 1001<|i 0]),(1001,some<|.arr (i 0) 71 2<|r.map AC.row)]) T<|by exact⟨.tup [],[(1000,some<|.box j 35 [.own 1001<|m+3]),(1001,some<|.arr (m+3) 71 2<|M.map AC.row)],⟨_,R,Za⟩,⟨.inr R,.inr R,Za⟩,R,R,AH [(m+3)],R,R⟩
 refine Zc ?_
 exact CE.mk (s':=⟨[],[(1000,some<|.box j 35 [.own 1001 l]),(1001,some<|.arr l 71 2<|w.map AC.row)],(m+2),21⟩) wk<|CP (λ(r:(List AC)) q h'=>∃(i:Nat→Nat),q=.tup []∧h'=[(1000,some<|.box j 35 [.own 1001<|i 0]),(1001,some<|.arr (i 0) 71 2<|r.map AC.row)]) F<|by exact⟨.tup [],[(1000,some<|.box j 35 [.own 1001 l]),(1001,some<|.arr l 71 2<|w.map AC.row)],⟨_,R,Za⟩,⟨.inr R,.inr R,Za⟩,R,R,AH [l],R,R⟩
theorem Z4{c1:List AC}{B:List AC}{C:List AC}{r:(List AC)}{j:Nat}{l:Nat}(h:OK c1 B C=some r):BC prog 108 2 [qa B,qa C,.fn 109 [.ptr 1000 j 0 0]] [(1000,some<|.box j 35 [.own 1001 l]),(1001,some<|.arr l 71 2<|c1.map AC.row)] (λE h'=>∃(i:Nat→Nat),E=.tup []∧h'=[(1000,some<|.box j 35 [.own 1001<|i 0]),(1001,some<|.arr (i 0) 71 2<|r.map AC.row)]):=by
 unfold OK at h
 refine Dx func108 R R ntmps108 (Zr R) λn0=>aU<|mA R<|mA R<|aZ<|Ze<|BM h λo4 w av F=>J0 (λ(I:Int) (J:Int) (o2:List AC) m=>⟨[(0,qa B),(1,qa C),(2,.fn 109 [.ptr 1000 j 0 0]),(6,rI I),(7,rI J)],[(1000,some<|.box j 35 [.own 1001<|m 0]),(1001,some<|.arr (m 0) 71 2<|o2.map AC.row)],(m 1),92⟩) (AH [l,n0]) w wk ?_
 intro I J o2 m v1 M O
 have h1:PW B C I J o2=some v1:=M;unfold PW at h1
 refine aT λC2=>aU<|mM R<|mM R<|xL Ay R<|xS R<|mM R<|vM R<|vM R<|vQ R (Cv R Ay.slice<|iR R)<|vQ R (CN R (iR R)<|iR R)<|xO R<|aZ<|cI R h1 (λT=>?_) λT=>?_
 ·refine Zc<|C2 _<|Ze<|Ze<|aT λC4=>?_
  refine ZB BR (by kernel_rfl) ?_
  refine qP R (AK R iL)<|qP R (AK R iL)<|qP R (Cv R Ay.slice iL)<|qP R (A9 R iL iL)<|qP R (AK R iL)<|qO R (AK R iL)<|qO R (AK R iL)<|qO R (Cv R Ay.slice<|iR R)<|qO R (CN R (iR R)<|iR R)<|qO R (AK R<|iR R)<|qT R (AK R iL)<|qT R (AK R iL)<|AG T λx1 U h3=>qT R (BB R Ay.slice (iR R) (iR R) (λ_=>R)<|Ad U)<|qT R (BK R Cz<|iR R)<|qT R (Bt (d:=.str x1.Name) R A6 (iR R) R)<|qT R (AK R iL)<|qT R (AK R iL)<|AG h3 λx2 V h4=>qT R (BB R Ay.slice (iR R) (iR R) (λ_=>R)<|Ad V)<|qT R (BK R Cz<|iR R)<|qT R (Bt (d:=.str x2.Name) R A6 (iR R) R)<|qT R (N5 R (iR R)<|iR R)<|qO R (Bb R (iR R)<|iR R)<|qP R (CZ R iL<|iR R)<|qP R (Ek R iL)<|AQ.nil<|C4 _<|cI R h4 (λX=>?_) λX=>?_
  ·refine aT λC5=>aG [0,1,2,6,7] [1000,1001] ?_
   refine aR<|mM R<|mM R<|mM R<|AG X λx3 Z h6=>xI Ay R Z<|xB ((CD x3)) D7 R ?_
   refine sQ R (Bj R Fg (q:=[]) (by exact Za) (cs:=[.r<|.str [],.r<|.str []])<|by rfl) ?_
   refine AG h6 λw1 a0 h7=>?_
   refine ZA [1000,1001] (hc:=[(1000,some<|.box j 35 [.own 1001<|m 0]),(1001,some<|.arr (m 0) 71 2<|o2.map AC.row)]) (bs:=[.agg<|CD x3,.agg [.r<|.str [],.r<|.str []]]) (caps:=[.ptr 1000 j 0 0]) R R R R iL R ⟨.inl ⟨iL,R⟩,.inl ⟨iL,R⟩,Za⟩ ⟨R,R,R,R,R,R,Za⟩ (by decide) (S7 a0) ?_
   intro i8 n1
   refine BV [0,1,2,6,7,56,57,58,59,60,61,62] [1000,1001] ?_
   exact aZ<|C5 _<|aR<|mM R<|AG h7 λi9 a2 h8=>xA R a2<|mA R<|Zh<|F9.mk h8 (AH [(i8 0),n1]) wk
  refine aT λC6=>aG [0,1,2,6,7] [1000,1001] ?_
  refine ZB BR (by kernel_rfl) ?_
  refine qP R (AK R iL)<|qP R (AK R iL)<|qP R (Cv R Ay.slice iL)<|qP R (A9 R iL iL)<|qP R (AK R iL)<|qO R (AK R iL)<|qO R (AK R iL)<|AG X λx4 a6 h9=>qO R (BB R Ay.slice (iR R) (iR R) (λ_=>R)<|Ad a6)<|qO R (BK R Cz<|iR R)<|qO R (Bt (d:=.str x4.Name) R A6 (iR R) R)<|qO R (AK R iL)<|qO R (AK R iL)<|AG h9 λx5 a7 a8=>qO R (BB R Ay.slice (iR R) (iR R) (λ_=>R)<|Ad a7)<|qO R (BK R Cz<|iR R)<|qO R (Bt (d:=.str x5.Name) R A6 (iR R) R)<|qO R (N5 R (iR R)<|iR R)<|qP R (CZ R iL<|iR R)<|qP R (Ek R iL)<|AQ.nil<|C6 _<|cI R a8 (λq=>?_) λq=>?_
  ·refine aT λC7=>aR<|mM R ?_
   refine sQ R (Bj R Fg (q:=[]) (by exact Za) (cs:=[.r<|.str [],.r<|.str []])<|by rfl) ?_
   refine mM R<|mM R<|AG q λx6 aa ab=>xI Ay R aa<|xB ((CD x6)) D7 R<|AG ab λw2 ac ad=>?_
   refine ZA [1000,1001] (hc:=[(1000,some<|.box j 35 [.own 1001<|m 0]),(1001,some<|.arr (m 0) 71 2<|o2.map AC.row)]) (bs:=[.agg [.r<|.str [],.r<|.str []],.agg<|CD x6]) (caps:=[.ptr 1000 j 0 0]) R R R R iL R ⟨.inl ⟨iL,R⟩,.inl ⟨iL,R⟩,Za⟩ ⟨R,R,R,R,R,R,Za⟩ (by decide) (S7 ac) ?_
   intro ae n2
   refine BV [0,1,2,6,7,65,66,67,68,69,70,82,83,84,85,86,87,88,89] [1000,1001] ?_
   refine aZ<|C7 _<|aG [0,1,2,6,7] [1000,1001] ?_
   exact aR<|mM R<|AG ad λj4 af ag=>xA R af<|mA R<|Zh<|F9.mk ag (AH [(ae 0),n2]) wk
  refine aT λC8=>?_
  refine VK 9 BR (by kernel_rfl) R R ?_
  refine AT.step R R R (AK R iL)<|AT.step R R R (AK R iL)<|AT.step R R R (AK R iL)<|AG q λx7 ah ai=>AT.step R R R (BB R Ay.slice iL iL (λ_=>R) λ_=>ah)<|AT.step R R R (Ce (cs:=(CD x7)) R D7 iL R R)<|AT.step R R R (AK R iL)<|AT.step R R R (AK R iL)<|AG ai λx8 aj ak=>AT.step R R R (BB R Ay.slice iL iL (λ_=>R) λ_=>aj)<|AT.step R R R (Ce (cs:=(CD x8)) R D7 iL R R)<|AT.nil<|AG ak λw3 al an=>?_
  refine ZA [1000,1001] (hc:=[(1000,some<|.box j 35 [.own 1001<|m 0]),(1001,some<|.arr (m 0) 71 2<|o2.map AC.row)]) (bs:=[.agg<|CD x7,.agg<|CD x8]) (caps:=[.ptr 1000 j 0 0]) R R R R iL R ⟨.inl ⟨iL,R⟩,.inl ⟨iL,R⟩,Za⟩ ⟨R,R,R,R,R,R,Za⟩ (by decide) (S7 al) ?_
  intro ao n3
  refine BV [0,1,2,6,7,18,19,20,21,22,23,24,25,26,27,65,66,67,68,69,70,82] [1000,1001] ?_
  refine aZ<|C8 _<|aG [0,1,2,6,7] [1000,1001] ?_
  exact aR<|mM R<|AG an λaw A aq=>xA R A<|mM R<|AG aq λj5 ar au=>xA R ar<|mA R<|mA R<|Zh<|F9.mk au (AH [(ao 0),n3]) wk
 refine Zm ?_
 exact CE.mk (s':=⟨[],[(1000,some<|.box j 35 [.own 1001<|m 0]),(1001,some<|.arr (m 0) 71 2<|o2.map AC.row)],(m 1),92⟩) wk<|CP (λ(r:(List AC)) E h'=>∃(i:Nat→Nat),E=.tup []∧h'=[(1000,some<|.box j 35 [.own 1001<|i 0]),(1001,some<|.arr (i 0) 71 2<|r.map AC.row)]) (F _<|xH O T)<|by exact⟨.tup [],[(1000,some<|.box j 35 [.own 1001<|m 0]),(1001,some<|.arr (m 0) 71 2<|o2.map AC.row)],⟨_,R,Za⟩,⟨.inr R,.inr R,Za⟩,R,R,AH [(m 0)],R,R⟩
theorem Lx{l c r}(h:GE l c=some r):AR prog 70 [qa l,qa c] (qa r):=by
 unfold GE at h
 refine mF func70 ntmps70 R λj=>aU<|mA R<|aZ<|aU<|sS R (BH (cs:=[cZ]) 5 R RK R R)<|aZ<|aT λq=>aR<|mM R<|mM R ?_
 refine sQ R (Jj (bs:=[.ptr 5 j 0 0]) R<|by exact⟨iL,Za⟩) ?_
 refine ZJ (Zw (VN 5 0 3050 71 2 (by decide) R R<|by decide)<|by exact AZ.cv (e':=[(0,qa l),(1,qa c),(4,cZ),(5,.ptr 5 j 0 0),(6,qa l),(7,qa c),(8,.fn 109 [.ptr 5 j 0 0])]) (h':=[(5,some<|.box j 35 [.own 3050<|j+1]),(3050,some<|.arr (j+1) 71 2<|([]:List AC).map AC.row)]) ⟨jL,jL,jL,jL,jL,jL,jL,Za⟩ ⟨.inl R,.inl R,Za⟩ nL) ?_
 refine AG h λB m w=>?_
 refine ZA [5,3050] (hc:=[(1000,some<|.box j 35 [.own 1001<|j+1]),(1001,some<|.arr (j+1) 71 2<|([]:List AC).map AC.row)]) (bs:=[qa l,qa c,.fn 109 [.ptr 1000 j 0 0]]) (caps:=[]) R R R R iL R ⟨.inl ⟨iL,R⟩,.inl ⟨iL,R⟩,.inl ⟨iL,R⟩,Za⟩ ⟨R,R,R,R,R,R,Za⟩ (by decide) (Z4 m) ?_
 intro A C
 refine BV [0,1,4,5,6,7,8,9] [5,3050] ?_
 exact aZ<|q _<|aU<|sQ R (Aa (a:=.own 3050<|A 0) R Bw iL R R)<|mA R<|aZ<|Zi<|Bz (P:=prog) (λ(r:(List AC))=>qa r) w iL<|.t<|.one<|.own R
theorem ol{A:List (Int × AE)}{m2:List (Int × (List AC))}{E:Int}{C:Int}{r:Bool}{q:Nat}{j:Nat}{w:Nat}{m:Nat}(h:Ol A m2 E C=some r):BC prog 176 3 [.ptr 1000 q 0 0,rI E,rI C] [(1000,some<|.box q 197 [.mref 1001 j,.mref 1002 m]),(1001,some<|.mb j w 167<|AN AE.row A),(1002,some<|.md m<|AN (λ(l:List AC)=>RV.sl<|l.map AC.row) m2)] (λF h'=>∃(i:Nat→Nat),F=rB r∧h'=[(1000,some<|.box q 197 [.mref 1001 j,.mref 1002 m]),(1001,some<|.mb j w 167<|AN AE.row A),(1002,some<|.md m<|AN (λ(l:List AC)=>RV.sl<|l.map AC.row) m2)]):=by
 unfold Ol at h
 refine Dx func176 R R ntmps176 (Zr R) λn0=>aU<|mA R<|aZ<|aS λK2 c2 U=>Ze<|BM h λo1 O V T=>?_
 have J1:∀(u2:Unit) (X:NN),o1=.nrm u2→K2 ⟨[],[(1000,some<|.box q 197 [.mref 1001 j,.mref 1002 m]),(1001,some<|.mb j w 167<|AN AE.row A),(1002,some<|.md m<|AN (λ(l:List AC)=>RV.sl<|l.map AC.row) m2)],(X 0),29⟩:=by
  intro u2 X e
  have h1:=V _ e
  refine c2 _<|aU<|mA R<|aZ ?_
  exact Zi<|CE.mk (s':=⟨[(6,rB false)],[(1000,some<|.box q 197 [.mref 1001 j,.mref 1002 m]),(1001,some<|.mb j w 167<|AN AE.row A),(1002,some<|.md m<|AN (λ(l:List AC)=>RV.sl<|l.map AC.row) m2)],(X 0),29⟩) wk<|CP (λ(r:Bool) F h'=>∃(i:Nat→Nat),F=rB r∧h'=[(1000,some<|.box q 197 [.mref 1001 j,.mref 1002 m]),(1001,some<|.mb j w 167<|AN AE.row A),(1002,some<|.md m<|AN (λ(l:List AC)=>RV.sl<|l.map AC.row) m2)]) h1<|by exact⟨rB false,[(1000,some<|.box q 197 [.mref 1001 j,.mref 1002 m]),(1001,some<|.mb j w 167<|AN AE.row A),(1002,some<|.md m<|AN (λ(l:List AC)=>RV.sl<|l.map AC.row) m2)],R,⟨.inr R,.inr R,.inr R,Za⟩,R,R,AH [],R,R⟩
 refine Zt (λ(B:Int) M=>⟨[(0,.ptr 1000 q 0 0),(1,rI B),(2,rI C)],[(1000,some<|.box q 197 [.mref 1001 j,.mref 1002 m]),(1001,some<|.mb j w 167<|AN AE.row A),(1002,some<|.md m<|AN (λ(l:List AC)=>RV.sl<|l.map AC.row) m2)],(M 0),29⟩) (AH [n0]) O wk ?_
 intro B M v1 Z I
 have h2:Gr A C B=some v1:=Z;unfold Gr at h2
 refine aT λc4=>aU<|mM R<|sQ R (Bh R iL iL)<|aZ<|cI R h2 (λh3=>?_) λh3=>?_
 ·refine Zc<|c4 _<|Ze<|aT λc6=>aU<|mM R<|mM R<|xQ R<|aZ<|cI R h3 (λh4=>?_) λh4=>?_
  ·refine aU<|mA R<|aZ ?_
   exact Zi<|CE.mk (s':=⟨[(6,rB true)],[(1000,some<|.box q 197 [.mref 1001 j,.mref 1002 m]),(1001,some<|.mb j w 167<|AN AE.row A),(1002,some<|.md m<|AN (λ(l:List AC)=>RV.sl<|l.map AC.row) m2)],(M 0),29⟩) wk<|CP (λ(r:Bool) F h'=>∃(i:Nat→Nat),F=rB r∧h'=[(1000,some<|.box q 197 [.mref 1001 j,.mref 1002 m]),(1001,some<|.mb j w 167<|AN AE.row A),(1002,some<|.md m<|AN (λ(l:List AC)=>RV.sl<|l.map AC.row) m2)]) (T _<|xH I h4)<|by exact⟨rB true,[(1000,some<|.box q 197 [.mref 1001 j,.mref 1002 m]),(1001,some<|.mb j w 167<|AN AE.row A),(1002,some<|.md m<|AN (λ(l:List AC)=>RV.sl<|l.map AC.row) m2)],R,⟨.inr R,.inr R,.inr R,Za⟩,R,R,AH [],R,R⟩
  refine Zc<|c6 _<|aU<|mM R<|sQ R (Mw (ob:=.box _ _ _) R iL fR R)<|lF TU T1 R R<|mM R<|sQ R (bC true R underlying194 underlying3 (IE qA) (.inl R) (.inl R) R)<|mM R<|xX R<|xX R<|mA R<|mA R<|aZ<|aT λa0=>aT λa1=>aG [0,2,7,8] [1000,1001,1002] ?_
  refine aR<|mM R<|sQ R (BD R iL)<|aZ<|a1 _<|cI R h4 (λh5=>?_) λh5=>?_
  ·refine aU<|mA R<|aZ ?_
   exact Zi<|CE.mk (s':=⟨[(6,rB false)],[(1000,some<|.box q 197 [.mref 1001 j,.mref 1002 m]),(1001,some<|.mb j w 167<|AN AE.row A),(1002,some<|.md m<|AN (λ(l:List AC)=>RV.sl<|l.map AC.row) m2)],(M 0),29⟩) wk<|CP (λ(r:Bool) F h'=>∃(i:Nat→Nat),F=rB r∧h'=[(1000,some<|.box q 197 [.mref 1001 j,.mref 1002 m]),(1001,some<|.mb j w 167<|AN AE.row A),(1002,some<|.md m<|AN (λ(l:List AC)=>RV.sl<|l.map AC.row) m2)]) (T _<|xH I h5)<|by exact⟨rB false,[(1000,some<|.box q 197 [.mref 1001 j,.mref 1002 m]),(1001,some<|.mb j w 167<|AN AE.row A),(1002,some<|.md m<|AN (λ(l:List AC)=>RV.sl<|l.map AC.row) m2)],R,⟨.inr R,.inr R,.inr R,Za⟩,R,R,AH [],R,R⟩
  exact Zc<|a0 _<|aR<|mM R<|AG h5 λx1 J h6=>sQ R (L4 R iL R R λ_=>J)<|sQ R (RR R Mg iL R R λ_=>J)<|sQ R (Th (a:=x1) (d:=.int .i64 x1.Parent) R AJ iL R R (λ_=>J) R)<|mA R<|Zh<|Zq h6 (AH [(M 0)]) wk
 exact Zm<|U _ _ wk<|J1 _ (AH [(M 0)])<|xH I h3
theorem mG{w r}(h:Lu w=some r):BC prog 164 3 [qf w] [] (λZ h'=>∃(i:Nat→Nat),Z=.ptr 1000 (i 0) 0 0∧h'=[(1000,some<|.box (i 0) 197 [.mref 1001<|i 1,.mref 1002<|i 3]),(1001,some<|.mb (i 1) (i 2) 167<|AN AE.row r.1),(1002,some<|.md (i 3)<|AN (λ(l:List AC)=>RV.sl<|l.map AC.row) r.2)]):=by
 unfold Lu at h
 refine Dx func164 R R ntmps164 (Zr R) λj=>aU<|mA R<|aZ<|aT λc2=>aR<|sS R (eI AE.row 1001 167 R)<|sS R (R1 (λ(l:List AC)=>RV.sl<|l.map AC.row) 1002 R) ?_
 refine sQ R (Bj R gQ (q:=[(0,_),(1,_)]) (by exact⟨R,R,R,iL,R,R,R,iL,Za⟩) (cs:=[.mref 1001 j,.mref 1002<|j+1])<|by rfl) ?_
 refine sS R (At (cs:=[.mref 1001 j,.mref 1002<|j+1]) 1000 R iL R R)<|mA R<|aZ<|c2 _<|aS λK3 c3 a0=>aU<|mM R<|xL D9 R<|mM R<|aZ<|Ze<|IR h λo1 I a1=>?_
 have J1:∀(J:List (Int × AE)) (M:List (Int × (List AC))) (B:NN),o1=(J,M)→K3 ⟨[(3,.ptr 1000 (j+2) 0 0)],[(1000,some<|.box (j+2) 197 [.mref 1001 j,.mref 1002<|j+1]),(1001,some<|.mb j (B 0) 167<|AN AE.row J),(1002,some<|.md (j+1)<|AN (λ(l:List AC)=>RV.sl<|l.map AC.row) M)],(B 1),64⟩:=by
  intro J M B e
  have h1:=a1 _ _ e
  refine c3 _<|aU<|mM R<|mA R<|aZ ?_
  exact Zi<|CE.mk (s':=⟨[(2,.ptr 1000 (j+2) 0 0)],[(1000,some<|.box (j+2) 197 [.mref 1001 j,.mref 1002<|j+1]),(1001,some<|.mb j (B 0) 167<|AN AE.row J),(1002,some<|.md (j+1)<|AN (λ(l:List AC)=>RV.sl<|l.map AC.row) M)],(B 1),64⟩) wk<|CP (λ(r:(List<|Int × AE) × (List<|Int × (List AC))) Z h'=>∃(i:Nat→Nat),Z=.ptr 1000 (i 0) 0 0∧h'=[(1000,some<|.box (i 0) 197 [.mref 1001<|i 1,.mref 1002<|i 3]),(1001,some<|.mb (i 1) (i 2) 167<|AN AE.row r.1),(1002,some<|.md (i 3)<|AN (λ(l:List AC)=>RV.sl<|l.map AC.row) r.2)]) h1<|by exact⟨.ptr 1000 (j+2) 0 0,[(1000,some<|.box (j+2) 197 [.mref 1001 j,.mref 1002<|j+1]),(1001,some<|.mb j (B 0) 167<|AN AE.row J),(1002,some<|.md (j+1)<|AN (λ(l:List AC)=>RV.sl<|l.map AC.row) M)],R,⟨.inr R,.inr R,.inr R,Za⟩,R,R,AH [(j+2),j,(B 0),(j+1)],R,R⟩
 refine J0 (λ(O:Int) (T:List (Int × AE)) (A:List (Int × (List AC))) q=>⟨[(3,.ptr 1000 (j+2) 0 0),(10,qf w),(11,rL w),(12,rI O)],[(1000,some<|.box (j+2) 197 [.mref 1001 j,.mref 1002<|j+1]),(1001,some<|.mb j (q 0) 167<|AN AE.row T),(1002,some<|.md (j+1)<|AN (λ(l:List AC)=>RV.sl<|l.map AC.row) A)],(q 1),64⟩) (AH [j,(j+3)]) I wk ?_
 intro O T A q v1 a2 a6
 have h2:IV w O T A=some v1:=a2;unfold IV at h2
 refine aU<|xS R<|aZ<|aT λc7=>cI R h2 (λh3=>?_) λh3=>?_
 ·refine Zc<|c7 _<|aS λK8 c8 C=>Ze<|IR h3 λp1 a7 a8=>?_
  have J2:∀(m9:List (Int × AE)) (E:List (Int × (List AC))) (U:NN),p1=(m9,E)→K8 ⟨[(3,.ptr 1000 (j+2) 0 0),(10,qf w),(11,rL w),(12,rI O)],[(1000,some<|.box (j+2) 197 [.mref 1001 j,.mref 1002<|j+1]),(1001,some<|.mb j (U 0) 167<|AN AE.row m9),(1002,some<|.md (j+1)<|AN (λ(l:List AC)=>RV.sl<|l.map AC.row) E)],(U 1),64⟩:=by
   intro m9 E U e
   have h4:=a8 _ _ e
   exact c8 _<|aR<|AG h4 λx4 aa h5=>xA R aa<|mM R<|Zh<|F9.mk h5 (AH [(U 0),(U 1)]) wk
  refine aU<|AG a7 λm ab h6=>xI D9 R ab<|xB ((Bm m)) G3 R<|sS R (BH (cs:=Rg) 5 R P5 R R)<|Zl R R (A4 (ds:=(Bm m)) R Qs iL R iL R R R R)<|aZ<|Ze<|aU<|lF Fu AJ R R<|xQ R<|mA R<|aZ<|cI R h6 (λh7=>?_) λh7=>?_
  ·refine AG h7 λr1 ac h8=>?_
   refine rP 20 [pO 20<|.ptr 1000 (j+2) 0 0,pO 21<|.ptr 1000 (j+2) 0 0,pO 22<|.ptr 1000 (j+2) 0 1,pO 23<|.mref 1002<|j+1,pO 24<|.ptr 5 (q 1) 0 3,pO 25<|rI m.Item,pO 26<|.ptr 1000 (j+2) 0 0,pO 27<|.ptr 1000 (j+2) 0 0,pO 28<|.ptr 1000 (j+2) 0 1,pO 29<|.mref 1002<|j+1,pO 30<|.ptr 5 (q 1) 0 3,pO 31<|rI m.Item,pO 32<|.r<|.sl<|((AU A m.Item).getD []).map AC.row,pO 33<|.ptr 5 (q 1) 0 6,pO 34<|rS m.Name,pO 35<|.ptr 5 (q 1) 0 7,pO 36<|rS m.Value,pO 37<|.agg [rS m.Name,rS m.Value],⟨some 38,(λ_=>.r<|.sl<|[(AC.mk m.Name m.Value)].map AC.row),some (38,(λ_=>none)),[]⟩,pO 39<|qa r1] BR R (by exact⟨oB [(3,.ptr 1000 (j+2) 0 0)] [(1000,some<|.box (j+2) 197 [.mref 1001 j,.mref 1002<|j+1])]<|AK R<|.inl R,oB [(20,.ptr 1000 (j+2) 0 0)] [(1000,some<|.box (j+2) 197 [.mref 1001 j,.mref 1002<|j+1])]<|Mw (ob:=.box _ _ _) R (.inl R) (λ_=>R) R,oB [(21,.ptr 1000 (j+2) 0 0)] [(1000,some<|.box (j+2) 197 [.mref 1001 j,.mref 1002<|j+1])]<|fB R Us (.inl R) (λ_=>R) R,oB [(22,.ptr 1000 (j+2) 0 1)] [(1000,some<|.box (j+2) 197 [.mref 1001 j,.mref 1002<|j+1])]<|Aa (a:=.mref 1002<|j+1) R T7 (.inl R) R R,oB [(5,.ptr 5 (q 1) 0 0)] [(5,some<|.box (q 1) 146<|Bm m)]<|fB R Fa (.inl R) (λ_=>R) R,oB [(24,.ptr 5 (q 1) 0 3)] [(5,some<|.box (q 1) 146<|Bm m)]<|Aa (a:=rI m.Item) R AJ (.inl R) R R,oB [(3,.ptr 1000 (j+2) 0 0)] [(1000,some<|.box (j+2) 197 [.mref 1001 j,.mref 1002<|j+1])]<|AK R<|.inl R,oB [(26,.ptr 1000 (j+2) 0 0)] [(1000,some<|.box (j+2) 197 [.mref 1001 j,.mref 1002<|j+1])]<|Mw (ob:=.box _ _ _) R (.inl R) (λ_=>R) R,oB [(27,.ptr 1000 (j+2) 0 0)] [(1000,some<|.box (j+2) 197 [.mref 1001 j,.mref 1002<|j+1])]<|fB R Us (.inl R) (λ_=>R) R,oB [(28,.ptr 1000 (j+2) 0 1)] [(1000,some<|.box (j+2) 197 [.mref 1001 j,.mref 1002<|j+1])]<|Aa (a:=.mref 1002<|j+1) R T7 (.inl R) R R,oB [(5,.ptr 5 (q 1) 0 0)] [(5,some<|.box (q 1) 146<|Bm m)]<|fB R Fa (.inl R) (λ_=>R) R,oB [(30,.ptr 5 (q 1) 0 3)] [(5,some<|.box (q 1) 146<|Bm m)]<|Aa (a:=rI m.Item) R AJ (.inl R) R R,oB [(29,.mref 1002<|j+1),(31,rI m.Item)] [(1002,some<|.md (j+1)<|AN (λ(l:List AC)=>RV.sl<|l.map AC.row) A)]<|NQ (rd:=(λ(l:List AC)=>RV.sl<|l.map AC.row)) false (.slice none 0 0) [] R underlying195 underlying3 (IE RK) (λ_ _=>.snil) (.inl R) (.inl R) R,oB [(5,.ptr 5 (q 1) 0 0)] [(5,some<|.box (q 1) 146<|Bm m)]<|fB R L6 (.inl R) (λ_=>R) R,oB [(33,.ptr 5 (q 1) 0 6)] [(5,some<|.box (q 1) 146<|Bm m)]<|Aa (a:=rS m.Name) R A6 (.inl R) R R,oB [(5,.ptr 5 (q 1) 0 0)] [(5,some<|.box (q 1) 146<|Bm m)]<|fB R Jm (.inl R) (λ_=>R) R,oB [(35,.ptr 5 (q 1) 0 7)] [(5,some<|.box (q 1) 146<|Bm m)]<|Aa (a:=rS m.Value) R A6 (.inl R) R R,oB [(34,rS m.Name),(36,rS m.Value)] []<|Bj R Fg (q:=[(0,_),(1,_)]) (by exact⟨R,R,R,(.inl R),R,R,R,(.inl R),Za⟩) (cs:=[rS m.Name,rS m.Value])<|by rfl,ZZ R R (by intro d h;cases h;rfl) R (λ_=>[(37,.agg [rS m.Name,rS m.Value])]) (λ_=>[]) (λD X hr=>⟨Vq hr 17 R R (by kernel_rfl) R R,Za⟩) (λD X hr=>Za) λX e h' n=>Gb.frz<|BQ.toN<|BZ 38 R Ay (f:=AC.row) (l:=([(AC.mk m.Name m.Value)]:List AC)) ⟨R,⟨_,(.inl R),R⟩,Za⟩ R (λ_=>R) R,oD (λ_=>[(32,.r<|.sl<|((AU A m.Item).getD []).map AC.row),(38,.r<|.sl<|[(AC.mk m.Name m.Value)].map AC.row)]) (λ_=>[]) λX e h' n=>BJ (r:=qa r1) (caps:=[]) (bs:=[.r<|.sl<|((AU A m.Item).getD []).map AC.row,.r<|.sl<|[(AC.mk m.Name m.Value)].map AC.row]) R (.inl R) R ⟨.inl ⟨(.inl R),R⟩,.inl ⟨(.inl R),R⟩,Za⟩ λ_=>Lx<|ac,Za⟩) λX n1=>?_
   refine BV [3,5,10,11,12,13,14,15,16,17,18,19,20,21,22,23,24,25,26,27,28,29,30,31,32,33,34,35,36,37,38,39] [5,1000,1001,1002] ?_
   exact Zl R R (Nk (rd:=(λ(l:List AC)=>RV.sl<|l.map AC.row)) (a:=r1) iL underlying195 underlying3 iL iL iL R)<|Zh<|C _ _ wk<|J2 _ _ (AH [(q 0),n1]) (Zf h8).symm
  refine aT λad=>aR<|mM R<|lF G8 AJ R R<|lF Fa AJ R R<|AG h7 λr2 ae h9=>?_
  refine ZA [1000,1001,1002] (hc:=[(1000,some<|.box (j+2) 197 [.mref 1001 j,.mref 1002<|j+1]),(1001,some<|.mb j (q 0) 167<|AN AE.row T),(1002,some<|.md (j+1)<|AN (λ(l:List AC)=>RV.sl<|l.map AC.row) A)]) (bs:=[.ptr 1000 (j+2) 0 0,rI m.Parent,rI m.Item]) (caps:=[]) R R R R iL R ⟨.inl ⟨iL,R⟩,.inl ⟨iL,R⟩,.inl ⟨iL,R⟩,Za⟩ ⟨R,R,R,R,R,R,R,R,R,Za⟩ (by decide) (ol ae) ?_
  intro i7 V
  refine BV [3,5,10,11,12,13,14,15,16,17,18,19,41,42,43,44,45,46] [5,1000,1001,1002] ?_
  refine sQ R (BD R iL)<|mA R<|aZ<|ad _<|cI R h9 (λF=>?_) λF=>?_
  ·refine aG [3,5,10,11,12] [5,1000,1001,1002] ?_
   refine VL [] [0,1,2,3,4,5,6,7,8,9,10,11,12] [13] 14 BR (by kernel_rfl) R R R R R ?_
   refine Fy.nil<|AF.step R R R (AK R iL)<|AF.step R R R (Mw (ob:=.box _ _ _) R iL fR R)<|AF.step R R R (fB R TU iL fR R)<|AF.step R R R (Aa (a:=.mref 1001 j) R T1 iL R R)<|AF.step R R R (fB R Fa iL fR R)<|AF.step R R R (Aa (a:=rI m.Item) R AJ iL R R)<|AF.step R R R (fB R Fa iL fR R)<|AF.step R R R (Aa (a:=rI m.Item) R AJ iL R R)<|AF.step R R R (fB R G8 iL fR R)<|AF.step R R R (Aa (a:=rI m.Parent) R AJ iL R R)<|AF.step R R R (fB R Lw iL fR R)<|AF.step R R R (Aa (a:=rS m.Place) R A6 iL R R) ?_
   refine AF.step R R R (Bj R RD (q:=[(0,_),(1,_),(2,_)]) (by exact⟨R,R,R,iL,R,R,R,iL,R,R,R,iL,Za⟩) (cs:=[rI m.Item,rI m.Parent,rS m.Place,cZ])<|by rfl) ?_
   refine AF.nil<|AA.step R R R (kJ (cs:=[rI m.Item,rI m.Parent,rS m.Place,cZ]) 61 R iL R R)<|AA.nil ?_
   refine ZJ (by exact AZ.cv (e':=[(3,.ptr 1000 (j+2) 0 0),(5,.ptr 5 (q 1) 0 0),(10,qf w),(11,rL w),(12,rI O),(48,.ptr 1000 (j+2) 0 0),(49,.ptr 1000 (j+2) 0 0),(50,.ptr 1000 (j+2) 0 0),(51,.mref 1001 j),(52,.ptr 5 (q 1) 0 3),(53,rI m.Item),(54,.ptr 5 (q 1) 0 3),(55,rI m.Item),(56,.ptr 5 (q 1) 0 4),(57,rI m.Parent),(58,.ptr 5 (q 1) 0 5),(59,rS m.Place),(60,.agg [rI m.Item,rI m.Parent,rS m.Place,cZ]),(61,.ptr 61 V 0 0)]) (h':=[(5,some<|.box (q 1) 146<|Bm m),(61,some<|.box V 167 [rI m.Item,rI m.Parent,rS m.Place,.r<|.sl []]),(1000,some<|.box (j+2) 197 [.mref 1001 j,.mref 1002<|j+1]),(1001,some<|.mb j (q 0) 167<|AN AE.row T),(1002,some<|.md (j+1)<|AN (λ(l:List AC)=>RV.sl<|l.map AC.row) A)]) ⟨jL,jL,jL,jL,jL,jL,jL,jL,jL,jL,jL,jL,jL,jL,jL,jL,jL,jL,jL,Za⟩ ⟨.inl R,.inr<|.inr ⟨_,_,_,_,R,R,⟨.inl R,.inl R,.inl R,.inr<|.inr ⟨R,R⟩,Za⟩⟩,.inl R,.inl R,.inl R,Za⟩ nL) ?_
   exact Zl R R (oy (a:=(AE.mk m.Item m.Parent m.Place [])) iL underlying194 underlying3 iL iL iL R R)<|Zh<|C _ _ wk<|J2 _ _ (AH [(V+1),(V+2)]) (Zf F).symm
  exact Zc<|C _ _ wk<|J2 _ _ (AH [(q 0),V]) (Zf F).symm
 exact Zm<|a0 _ _ wk<|J1 _ _ (AH [(q 0),(q 1)])<|xH a6 h3
theorem X2{j r}(h:Px j=some r):AR prog 179 [rS j] (rB r):=by
 unfold Px at h
 exact mF func179 ntmps179 R λl=>aU<|mA R<|aZ<|aU<|mM R<|mM R<|sQ R (Dt R iL iL)<|mA R<|aZ<|Zi<|yB h R
theorem pD{O T r}(h:NK O T=some r):AR prog 168 [rS O,rS T] (rI r):=by
 unfold NK at h
 refine mF func168 ntmps168 R λn0=>aU<|mA R<|aZ<|aU<|mM R<|AG h λm j U=>cL (X2<|j) R<|mA R<|aZ<|aU<|mM R<|AG U λq l V=>cL (X2<|l) R<|mA R<|aZ<|aT λX=>aU<|mM R<|aZ<|cI R V (λw=>?_) λw=>?_
 ·refine aT λZ=>aT λc7=>aF [6] ?_
  refine aR<|mM R<|aZ<|c7 _<|cI R w (λA=>?_) λA=>?_
  ·exact zI A R id
  exact Zc<|Z _<|zI A R id
 refine Zc<|X _<|aT λB=>aU<|mM R<|aZ<|cI R w (λC=>?_) λC=>?_
 ·exact zI C R id
 refine Zc<|B _<|aT λE=>aT λF=>aF [0,1] ?_
 refine aR<|mM R<|mM R<|sQ R (N5 R iL iL)<|aZ<|F _<|cI R C (λI=>?_) λI=>?_
 ·exact zI I R id
 refine Zc<|E _<|aT λJ=>aU<|mM R<|mM R<|sQ R (Zs R iL iL)<|aZ<|cI R I (λM=>?_) λM=>?_
 ·exact zI M R id
 exact Zc<|J _<|zI M R id
theorem bA{l m r}(h:KD l m=some r):AR prog 167 [.agg<|CV l,.agg<|CV m] (rI r):=by
 unfold KD at h
 refine mF func167 ntmps167 R λj=>aU<|sS R (At (cs:=(CV l)) 2 R iL R R)<|sS R (At (cs:=(CV m)) 3 R iL R R)<|mA R<|aZ<|aT λC=>AG h λq w E=>?_
 refine rP 9 [pO 5<|.ptr 2 j 0 2,pO 6<|rS l.Place,pO 7<|.ptr 3 (j+1) 0 2,pO 8<|rS m.Place,pO 9<|rI q,pO 10<|.ptr 2 j 0 0,pO 11<|rI l.Item,pO 12<|.ptr 3 (j+1) 0 0,pO 13<|rI m.Item] BR R (by exact⟨oB [(2,.ptr 2 j 0 0)] [(2,some<|.box j 167<|CV l)]<|fB R If (.inl R) (λ_=>R) R,oB [(5,.ptr 2 j 0 2)] [(2,some<|.box j 167<|CV l)]<|Aa (a:=rS l.Place) R A6 (.inl R) R R,oB [(3,.ptr 3 (j+1) 0 0)] [(3,some<|.box (j+1) 167<|CV m)]<|fB R If (.inl R) (λ_=>R) R,oB [(7,.ptr 3 (j+1) 0 2)] [(3,some<|.box (j+1) 167<|CV m)]<|Aa (a:=rS m.Place) R A6 (.inl R) R R,oD (λ_=>[(6,rS l.Place),(8,rS m.Place)]) (λ_=>[]) λF e O n=>Cw (r:=rI q) (caps:=[]) (bs:=[rS l.Place,rS m.Place]) R (.inl R) R ⟨⟨_,(.inl R),.d R⟩,⟨_,(.inl R),.d R⟩,Za⟩ (λ_=>pD<|w) R,oB [(2,.ptr 2 j 0 0)] [(2,some<|.box j 167<|CV l)]<|fB R Ec (.inl R) (λ_=>R) R,oB [(10,.ptr 2 j 0 0)] [(2,some<|.box j 167<|CV l)]<|Aa (a:=rI l.Item) R AJ (.inl R) R R,oB [(3,.ptr 3 (j+1) 0 0)] [(3,some<|.box (j+1) 167<|CV m)]<|fB R Ec (.inl R) (λ_=>R) R,oB [(12,.ptr 3 (j+1) 0 0)] [(3,some<|.box (j+1) 167<|CV m)]<|Aa (a:=rI m.Item) R AJ (.inl R) R R,Za⟩) λF T=>?_
 refine BV [0,1,2,3,4,5,6,7,8,9,10,11,12,13] [2,3] ?_
 exact AG E λI A J=>cL (L8<|A) R<|sS R (BZ 15 R CU (f:=(A3 .i64)) (l:=([q,I]:List Int)) ⟨R,⟨_,iL,R⟩,R,⟨_,iL,R⟩,Za⟩ R (λ_=>R) R)<|AG J λU B M=>cL (TI<|B) R<|mA R<|aZ<|C _<|Zi<|yI M R
theorem gI{self:(List<|Int × (List AE))→(List AE)→(List<|Int × Bool)→Int→Option ((List<|Int × (List AE)) × (List AE) × (List<|Int × Bool))}(O:∀ {T:List (Int × (List AE))} {X:List AE} {m2:List (Int × Bool)} {E:Int} {r:(List<|Int × (List AE)) × (List AE) × (List<|Int × Bool)} {A:Nat} {q:Nat} {C:Nat} {j:Nat} {F:Nat} {m:Nat} {B:Nat} {w:Nat},self T X m2 E=some r→BC prog 165 7 [rI E,.ptr 1000 A 0 0,.ptr 1002 j 0 0,.ptr 1004 m 0 0,.ptr 1006 w 0 0] [(1000,some<|.box A 193 [.mref 1001 q]),(1001,some<|.mr q C 167 4 none<|AN (λ(l:List AE)=>l.map AE.row) T),(1002,some<|.box j 162 [.own 1003 F]),(1003,some<|.arr F 167 4<|X.map AE.row),(1004,some<|.box m 94 [.mref 1005 B]),(1005,some<|.md B<|AN RV.bool m2),(1006,some<|.box w 199 [.fn 165 [.ptr 1000 A 0 0,.ptr 1002 j 0 0,.ptr 1004 m 0 0,.ptr 1006 w 0 0]])] (λZ h'=>∃(i:Nat→Nat),Z=.tup []∧h'=[(1000,some<|.box A 193 [.mref 1001 q]),(1001,some<|.mr q C 167 4 none<|AN (λ(l:List AE)=>l.map AE.row) r.1),(1002,some<|.box j 162 [.own 1003<|i 0]),(1003,some<|.arr (i 0) 167 4<|r.2.1.map AE.row),(1004,some<|.box m 94 [.mref 1005 B]),(1005,some<|.md B<|AN RV.bool r.2.2),(1006,some<|.box w 199 [.fn 165 [.ptr 1000 A 0 0,.ptr 1002 j 0 0,.ptr 1004 m 0 0,.ptr 1006 w 0 0]])])){T:List (Int × (List AE))}{X:List AE}{m2:List (Int × Bool)}{E:Int}{r:(List<|Int × (List AE)) × (List AE) × (List<|Int × Bool)}{A:Nat}{q:Nat}{C:Nat}{j:Nat}{F:Nat}{m:Nat}{B:Nat}{w:Nat}(h:I8 self T X m2 E=some r):BC prog 165 7 [rI E,.ptr 1000 A 0 0,.ptr 1002 j 0 0,.ptr 1004 m 0 0,.ptr 1006 w 0 0] [(1000,some<|.box A 193 [.mref 1001 q]),(1001,some<|.mr q C 167 4 none<|AN (λ(l:List AE)=>l.map AE.row) T),(1002,some<|.box j 162 [.own 1003 F]),(1003,some<|.arr F 167 4<|X.map AE.row),(1004,some<|.box m 94 [.mref 1005 B]),(1005,some<|.md B<|AN RV.bool m2),(1006,some<|.box w 199 [.fn 165 [.ptr 1000 A 0 0,.ptr 1002 j 0 0,.ptr 1004 m 0 0,.ptr 1006 w 0 0]])] (λZ h'=>∃(i:Nat→Nat),Z=.tup []∧h'=[(1000,some<|.box A 193 [.mref 1001 q]),(1001,some<|.mr q C 167 4 none<|AN (λ(l:List AE)=>l.map AE.row) r.1),(1002,some<|.box j 162 [.own 1003<|i 0]),(1003,some<|.arr (i 0) 167 4<|r.2.1.map AE.row),(1004,some<|.box m 94 [.mref 1005 B]),(1005,some<|.md B<|AN RV.bool r.2.2),(1006,some<|.box w 199 [.fn 165 [.ptr 1000 A 0 0,.ptr 1002 j 0 0,.ptr 1004 m 0 0,.ptr 1006 w 0 0]])]):=by
 unfold I8 at h
 refine Dx func165 R R ntmps165 (Zr R) λn0=>aT λC1=>aR<|sQ R (Aa (a:=.mref 1001 q) R QI iL R R)<|mM R<|sQ R (UK R underlying193 underlying3 (IE RP) (.inl R) (.inl R) R)<|AG h λw1 a2 h1=>?_
 refine ZA [1001] (hc:=[(1000,some<|.mr q C 167 4 none<|AN (λ(l:List AE)=>l.map AE.row) T)]) (bs:=[.fo 1000 q C E,.fn 167 []]) (caps:=[]) R R R R iL R ⟨.inl ⟨iL,R⟩,.inl ⟨iL,R⟩,Za⟩ ⟨R,R,R,Za⟩ (by decide) ((qq (row:=AE.row) Xn (by decide) (λ_=>R) ⟨_,func167,R,R⟩ λ_ _ _ h=>bA h) a2) ?_
 intro i1 n1
 refine BV [0,1,2,3,4,8,9,10,11] [1000,1001,1002,1003,1004,1005,1006] ?_
 refine aZ<|C1 _<|aU<|sQ R (Aa (a:=.mref 1001 q) R QI iL R R)<|mM R<|sQ R (UK R underlying193 underlying3 (IE RP) (.inl R) (.inl R) R)<|sQ R (pU R BU.slice iL R)<|mM R<|aZ<|Ze<|BM h1 λo4 a0 ad a6=>qp (λ(x2:Int) (o2:List AE) (U:List (Int × (List AE))) (V:List (Int × Bool)) J=>⟨[(2,.ptr 1002 j 0 0),(3,.ptr 1004 m 0 0),(4,.ptr 1006 w 0 0),(14,.fo 1001 q C E),(15,rI<|(((AU w1 E).getD []).length:Int)),(16,rI x2)],[(1000,some<|.box A 193 [.mref 1001 q]),(1001,some<|.mr q C 167 4 none<|AN (λ(l:List AE)=>l.map AE.row) U),(1002,some<|.box j 162 [.own 1003<|J 0]),(1003,some<|.arr (J 0) 167 4<|o2.map AE.row),(1004,some<|.box m 94 [.mref 1005 B]),(1005,some<|.md B<|AN RV.bool V),(1006,some<|.box w 199 [.fn 165 [.ptr 1000 A 0 0,.ptr 1002 j 0 0,.ptr 1004 m 0 0,.ptr 1006 w 0 0]])],(J 1),32⟩) (AH [F,n1]) a0 wk ?_
 intro x2 o2 U V J v1 a7 a8
 have h2:GT E self w1 x2 o2 U V=some v1:=a7;unfold GT at h2
 refine aU<|xS R<|aZ<|aT λC4=>cI R h2 (λh3=>?_) λh3=>?_
 ·refine Zc<|C4 _<|aT λC5=>Ze<|aU<|AG h3 λM a1 h4=>sQ R (gi (f:=AE.row) R BU.slice iL R iL λ_=>a1)<|sQ R (cJ (f:=AE.row) (cs:=(CV M)) R G4 iL R (λ_=>a1) R)<|sS R (BH (cs:=Mb) 7 R Ov R R)<|Zl R R (A4 (ds:=(CV M)) R Ll iL R iL R R R R)<|aZ<|aT λC7=>AG h4 λl1 aa h5=>?_
  refine Iw 8 [pO 20<|.mref 1005 B,pO 21<|.ptr 7 (J 1) 0 0,pO 22<|rI M.Item,pO 23<|.own 1003<|J 0,pO 24<|.agg<|CV M,⟨some 25,(λI=>.own 25<|I 5),some (25,(λI=>some<|.arr (I 5) 167 4<|[M].map AE.row)),[5]⟩,⟨some 26,(λI=>.own 1003<|I 6),some (1003,(λI=>some<|.arr (I 6) 167 4<|l1.map AE.row)),[6]⟩,⟨none,(λ_=>.any),some (1002,(λI=>some<|.box j 162 [.own 1003<|I 6])),[6]⟩] BR (by kernel_rfl) (by exact⟨λ_ _ h=>⟨R,λ_ _ e=>by cases e⟩,λ_ _ h=>⟨R,λ_ _ e=>by cases e⟩,λ_ _ h=>⟨R,λ_ _ e=>by cases e⟩,λ_ _ h=>⟨R,λ_ _ e=>by cases e⟩,λ_ _ h=>⟨R,λ_ _ e=>by cases e⟩,λ_ _ h=>⟨by simp only[h 5 R],λ_ _ e=>by cases e;simp only[h 5 R]⟩,λ_ _ h=>⟨by simp only[h 6 R],λ_ _ e=>by cases e;simp only[h 6 R]⟩,λ_ _ h=>⟨R,λ_ _ e=>by cases e;simp only[h 6 R]⟩,Za⟩) R (by exact⟨oB [(3,.ptr 1004 m 0 0)] [(1004,some<|.box m 94 [.mref 1005 B])]<|Aa (a:=.mref 1005 B) R RO (.inl R) R R,oB [(7,.ptr 7 (J 1) 0 0)] [(7,some<|.box (J 1) 167<|CV M)]<|fB R Ec (.inl R) (λ_=>R) R,oB [(21,.ptr 7 (J 1) 0 0)] [(7,some<|.box (J 1) 167<|CV M)]<|Aa (a:=rI M.Item) R AJ (.inl R) R R,oB [(2,.ptr 1002 j 0 0)] [(1002,some<|.box j 162 [.own 1003<|J 0])]<|Aa (a:=.own 1003<|J 0) R TA (.inl R) R R,oB [(7,.ptr 7 (J 1) 0 0)] [(7,some<|.box (J 1) 167<|CV M)]<|DG R G4 (.inl R) R R,oM (λ_=>[(24,.agg<|CV M)]) (λ_=>[]) R λI e h' n=>BZ 25 R BU (f:=AE.row) (l:=([M]:List AE)) ⟨R,⟨_,(.inl R),R⟩,Za⟩ R (λ_=>R) R,oM (λI=>[(23,.own 1003<|J 0),(25,.own 25<|I 5)]) (λI=>[(25,some<|.arr (I 5) 167 4<|[M].map AE.row),(1003,some<|.arr (J 0) 167 4<|o2.map AE.row)]) R λI e h' n=>Cs R BU (.inl R) R (.inr<|.inl ⟨_,_,(.inl R),R⟩) aa,oM (λI=>[(2,.ptr 1002 j 0 0),(26,.own 1003<|I 6)]) (λI=>[(1002,some<|.box j 162 [.own 1003<|J 0]),(1003,some<|.arr (I 6) 167 4<|l1.map AE.row)]) R λI e h' n=>A4 (ds:=[.own 1003<|I 6]) R W9 (.inl R) R (.inl R) R R R R,Za⟩) λI n2=>?_
  refine BV [2,3,4,7,14,15,16,17,18,19,20,21,22,24,25,26] [7,25,1000,1001,1002,1003,1004,1005,1006] ?_
  refine Zl R R (Nk (rd:=RV.bool) (a:=true) iL underlying94 underlying3 iL iL iL R)<|aZ<|C7 _<|aG [2,3,4,7,14,15,16] [7,1000,1001,1002,1003,1004,1005,1006] ?_
  refine aR<|sQ R (Aa (a:=.fn 165 [.ptr 1000 A 0 0,.ptr 1002 j 0 0,.ptr 1004 m 0 0,.ptr 1006 w 0 0]) R Xt iL R R)<|lF Ec AJ R R<|Mx h5 λw2 w3 w4 ab h6=>?_
  refine ZA [1000,1001,1002,1003,1004,1005,1006] (hc:=[(1000,some<|.box A 193 [.mref 1001 q]),(1001,some<|.mr q C 167 4 none<|AN (λ(l:List AE)=>l.map AE.row) U),(1002,some<|.box j 162 [.own 1003<|I 6]),(1003,some<|.arr (I 6) 167 4<|l1.map AE.row),(1004,some<|.box m 94 [.mref 1005 B]),(1005,some<|.md B<|AN RV.bool<|An V M.Item true),(1006,some<|.box w 199 [.fn 165 [.ptr 1000 A 0 0,.ptr 1002 j 0 0,.ptr 1004 m 0 0,.ptr 1006 w 0 0]])]) (bs:=[rI M.Item]) (caps:=[.ptr 1000 A 0 0,.ptr 1002 j 0 0,.ptr 1004 m 0 0,.ptr 1006 w 0 0]) R R R R iL R ⟨.inl ⟨iL,R⟩,Za⟩ ⟨R,R,R,R,R,R,R,R,R,R,R,R,R,R,R,R,R,R,R,R,R,Za⟩ (by decide) (O ab) ?_
  intro i6 n3
  refine BV [2,3,4,7,14,15,16,27,28,29,30] [7,1000,1001,1002,1003,1004,1005,1006] ?_
  exact aZ<|C5 _<|aR<|AG h6 λx5 ac h7=>xA R ac<|mM R<|Zh<|R6.mk h7 (AH [(i6 0),n3]) wk
 refine Zm ?_
 exact CE.mk (s':=⟨[],[(1000,some<|.box A 193 [.mref 1001 q]),(1001,some<|.mr q C 167 4 none<|AN (λ(l:List AE)=>l.map AE.row) U),(1002,some<|.box j 162 [.own 1003<|J 0]),(1003,some<|.arr (J 0) 167 4<|o2.map AE.row),(1004,some<|.box m 94 [.mref 1005 B]),(1005,some<|.md B<|AN RV.bool V),(1006,some<|.box w 199 [.fn 165 [.ptr 1000 A 0 0,.ptr 1002 j 0 0,.ptr 1004 m 0 0,.ptr 1006 w 0 0]])],(J 1),32⟩) wk<|CP (λ(r:(List<|Int × (List AE)) × (List AE) × (List<|Int × Bool)) Z h'=>∃(i:Nat→Nat),Z=.tup []∧h'=[(1000,some<|.box A 193 [.mref 1001 q]),(1001,some<|.mr q C 167 4 none<|AN (λ(l:List AE)=>l.map AE.row) r.1),(1002,some<|.box j 162 [.own 1003<|i 0]),(1003,some<|.arr (i 0) 167 4<|r.2.1.map AE.row),(1004,some<|.box m 94 [.mref 1005 B]),(1005,some<|.md B<|AN RV.bool r.2.2),(1006,some<|.box w 199 [.fn 165 [.ptr 1000 A 0 0,.ptr 1002 j 0 0,.ptr 1004 m 0 0,.ptr 1006 w 0 0]])]) (a6 _<|xH a8 h3)<|by exact⟨.tup [],[(1000,some<|.box A 193 [.mref 1001 q]),(1001,some<|.mr q C 167 4 none<|AN (λ(l:List AE)=>l.map AE.row) U),(1002,some<|.box j 162 [.own 1003<|J 0]),(1003,some<|.arr (J 0) 167 4<|o2.map AE.row),(1004,some<|.box m 94 [.mref 1005 B]),(1005,some<|.md B<|AN RV.bool V),(1006,some<|.box w 199 [.fn 165 [.ptr 1000 A 0 0,.ptr 1002 j 0 0,.ptr 1004 m 0 0,.ptr 1006 w 0 0]])],⟨_,R,Za⟩,⟨.inr R,.inr R,.inr R,.inr R,.inr R,.inr R,.inr R,Za⟩,R,R,AH [(J 0)],R,R⟩
theorem kz(n:Nat):∀ {I:List (Int × (List AE))} {J:List AE} {m2:List (Int × Bool)} {j:Int} {r:(List<|Int × (List AE)) × (List AE) × (List<|Int × Bool)} {m:Nat} {B:Nat} {E:Nat} {q:Nat} {F:Nat} {w:Nat} {C:Nat} {A:Nat},Dv n I J m2 j=some r→BC prog 165 7 [rI j,.ptr 1000 m 0 0,.ptr 1002 q 0 0,.ptr 1004 w 0 0,.ptr 1006 A 0 0] [(1000,some<|.box m 193 [.mref 1001 B]),(1001,some<|.mr B E 167 4 none<|AN (λ(l:List AE)=>l.map AE.row) I),(1002,some<|.box q 162 [.own 1003 F]),(1003,some<|.arr F 167 4<|J.map AE.row),(1004,some<|.box w 94 [.mref 1005 C]),(1005,some<|.md C<|AN RV.bool m2),(1006,some<|.box A 199 [.fn 165 [.ptr 1000 m 0 0,.ptr 1002 q 0 0,.ptr 1004 w 0 0,.ptr 1006 A 0 0]])] (λM h'=>∃(i:Nat→Nat),M=.tup []∧h'=[(1000,some<|.box m 193 [.mref 1001 B]),(1001,some<|.mr B E 167 4 none<|AN (λ(l:List AE)=>l.map AE.row) r.1),(1002,some<|.box q 162 [.own 1003<|i 0]),(1003,some<|.arr (i 0) 167 4<|r.2.1.map AE.row),(1004,some<|.box w 94 [.mref 1005 C]),(1005,some<|.md C<|AN RV.bool r.2.2),(1006,some<|.box A 199 [.fn 165 [.ptr 1000 m 0 0,.ptr 1002 q 0 0,.ptr 1004 w 0 0,.ptr 1006 A 0 0]])]):=by
 induction n with
 | zero=>intro I J m2 j r m B E q F w C A h;exact absurd (show(none:Option ((List<|Int × (List AE)) × (List AE) × (List<|Int × Bool)))=some r from h)<|by simp
 | succ n O=>intro I J m2 j r m B E q F w C A h;exact gI (self:=λI J m2 j=>Dv n I J m2 j) (λT=>O T) h
theorem lz{I:List (Int × (List AE))}{J:List AE}{m2:List (Int × Bool)}{C:Int}{r:(List<|Int × (List AE)) × (List AE) × (List<|Int × Bool)}{j:Nat}{A:Nat}{E:Nat}{m:Nat}{F:Nat}{q:Nat}{B:Nat}{w:Nat}(h:PF I J m2 C=some r):BC prog 165 7 [rI C,.ptr 1000 j 0 0,.ptr 1002 m 0 0,.ptr 1004 q 0 0,.ptr 1006 w 0 0] [(1000,some<|.box j 193 [.mref 1001 A]),(1001,some<|.mr A E 167 4 none<|AN (λ(l:List AE)=>l.map AE.row) I),(1002,some<|.box m 162 [.own 1003 F]),(1003,some<|.arr F 167 4<|J.map AE.row),(1004,some<|.box q 94 [.mref 1005 B]),(1005,some<|.md B<|AN RV.bool m2),(1006,some<|.box w 199 [.fn 165 [.ptr 1000 j 0 0,.ptr 1002 m 0 0,.ptr 1004 q 0 0,.ptr 1006 w 0 0]])] (λO h'=>∃(i:Nat→Nat),O=.tup []∧h'=[(1000,some<|.box j 193 [.mref 1001 A]),(1001,some<|.mr A E 167 4 none<|AN (λ(l:List AE)=>l.map AE.row) r.1),(1002,some<|.box m 162 [.own 1003<|i 0]),(1003,some<|.arr (i 0) 167 4<|r.2.1.map AE.row),(1004,some<|.box q 94 [.mref 1005 B]),(1005,some<|.md B<|AN RV.bool r.2.2),(1006,some<|.box w 199 [.fn 165 [.ptr 1000 j 0 0,.ptr 1002 m 0 0,.ptr 1004 q 0 0,.ptr 1006 w 0 0]])]):=by
 unfold PF at h
 by_cases M:∃n r,Dv n I J m2 C=some r
 ·rw[uB M] at h;exact kz _ h
 ·rw[dif_neg M] at h;cases h
theorem jy{j l r}(h:Pe j l=some r):AR prog 169 [.agg<|CV j,.agg<|CV l] (rI r):=by
 unfold Pe at h
 exact mF func169 ntmps169 R λw=>aU<|sS R (At (cs:=(CV j)) 2 R iL R R)<|sS R (At (cs:=(CV l)) 3 R iL R R)<|mA R<|aZ<|aU<|lF Ec AJ R R<|lF Ec AJ R R<|AG h λA m q=>cL (L8<|m) R<|mA R<|aZ<|Zi<|yI q R
theorem gA{l1 r}(h:OI l1=some r):AR prog 153 [qf l1] (qg r):=by
 unfold OI at h
 refine mF func153 ntmps153 R λn0=>aU<|mA R<|aZ<|aT λc2=>aR<|mM R<|Ed h λw1 B af h1=>?_
 refine ZA [14,8225,8226] (hc:=[]) (bs:=[qf l1]) (caps:=[]) R R R R iL R ⟨.inl ⟨iL,R⟩,Za⟩ Za (by decide) (mG af) ?_
 intro m A
 refine BV [0,2,13,14] [14,8225,8226] ?_
 refine mA R<|aZ<|c2 _<|aT λc3=>aR ?_
 refine sS R (ft AE.row 15 167 4 R<|by decide) ?_
 refine sS R (BH (cs:=[.cst<|.map none]) 4 R jG R R)<|Zl R R (A4 (ds:=[.mref 15 A]) R lg iL R iL R R R R)<|aZ<|c3 _<|aU<|mA R<|aZ<|aT λc5=>aU<|mM R<|sQ R (Mw (ob:=.box _ _ _) R iL fR R)<|lF TU T1 R R<|sS R (Z2 (ob:=.mb (m 1) (m 2) 167<|AN AE.row w1) 20 R underlying194 iL R (TO _ _ _ _ _) R)<|aZ ?_
 refine AW.weak (s':=⟨[(3,.ptr 14 (m 0) 0 0),(4,.ptr 4 (A+1) 0 0),(5,.own 5005<|A+3),(20,.ptr 20 (A+2) 0 0)],[(4,some<|.box (A+1) 193 [.mref 15 A]),(14,some<|.box (m 0) 197 [.mref 8225<|m 1,.mref 8226<|m 3]),(15,some<|.mr A A 167 4 none<|AN (λ(l:List AE)=>l.map AE.row) ([]:List (Int × (List AE)))),(20,some (.mj (A+2) 8225 (m 1) ((w1.map (·.1)).length) [])),(5005,some<|.arr (A+3) 167 4<|([]:List AE).map AE.row),(8225,some<|.mb (m 1) (m 2) 167<|AN AE.row w1),(8226,some<|.md (m 3)<|AN (λ(l:List AC)=>RV.sl<|l.map AC.row) B)],(A+4),80⟩) (Zw (Zw (Fd 5 5005 167 4 (by decide) R) (by exact AZ.cv (e':=[(0,qf l1),(2,cZ),(3,.ptr 14 (m 0) 0 0),(4,.ptr 4 (A+1) 0 0),(5,.own 5005<|A+3),(13,qf l1),(14,.ptr 14 (m 0) 0 0),(15,.mref 15 A),(16,.ptr 14 (m 0) 0 0),(17,.ptr 14 (m 0) 0 0),(18,.ptr 14 (m 0) 0 0),(19,.mref 8225<|m 1),(20,.ptr 20 (A+2) 0 0)]) (h':=[(4,some<|.box (A+1) 193 [.mref 15 A]),(14,some<|.box (m 0) 197 [.mref 8225<|m 1,.mref 8226<|m 3]),(15,some<|.mr A A 167 4 none<|AN (λ(l:List AE)=>l.map AE.row) ([]:List (Int × (List AE)))),(20,some (.mj (A+2) 8225 (m 1) ((w1.map (·.1)).length) [])),(5005,some<|.arr (A+3) 167 4<|([]:List AE).map AE.row),(8225,some<|.mb (m 1) (m 2) 167<|AN AE.row w1),(8226,some<|.md (m 3)<|AN (λ(l:List AC)=>RV.sl<|l.map AC.row) B)]) ⟨jL,jL,jL,jL,jL,jL,jL,jL,jL,jL,jL,jL,jL,Za⟩ ⟨.inl R,.inl R,.inl R,.inl R,.inl R,.inl R,.inl R,Za⟩ nL)) wk) ?_
 refine q8 (mid:=8225) (mg:=(m 1)) (key:=λ(a:(List AE) × (List<|Int × AE) × (List<|Int × (List AE)))=>a.2.1.map (·.1)) (F:=λ(a:(List AE) × (List<|Int × AE) × (List<|Int × (List AE))) (q:Int)=>HW B a.1 a.2.1 a.2.2 q) (st0:=([],w1,[])) 20 (λ(a:(List AE) × (List<|Int × AE) × (List<|Int × (List AE))) w=>[(3,.ptr 14 (m 0) 0 0),(4,.ptr 4 (A+1) 0 0),(5,.own 5005<|w 0),(20,.ptr 20 (A+2) 0 0)]) (λ(a:(List AE) × (List<|Int × AE) × (List<|Int × (List AE))) w=>[(4,some<|.box (A+1) 193 [.mref 15 A]),(14,some<|.box (m 0) 197 [.mref 8225<|m 1,.mref 8226<|m 3]),(15,some<|.mr A (w 1) 167 4 none<|AN (λ(l:List AE)=>l.map AE.row) a.2.2),(5005,some<|.arr (w 0) 167 4<|a.1.map AE.row),(8225,some<|.mb (m 1) (m 2) 167<|AN AE.row a.2.1),(8226,some<|.md (m 3)<|AN (λ(l:List AC)=>RV.sl<|l.map AC.row) B)]) (λw=>w 2) h1 ⟨(AH [(A+3),A,(A+4)]),wk⟩ R R R R R R R R (λ_ _=>.inl R) (λ_ _=>R) (λ_ _=>R) (λ_ _=>⟨_,R,R,TO _ _ _ _ _⟩) R (λ_ _=>R) ?_ ?_
 ·intro a0 q j1 ag ah w ai aj a7 ak
  obtain⟨J,C,X⟩:=a0
  have h2:HW B J C X q=some ah:=ai;unfold HW at h2
  refine aG [3,4,5,20] [4,14,15,20,5005,8225,8226] ?_
  refine Ze<|aU<|sQ R (jR R (.inl R) R R ak aj a7)<|xX R<|xX R<|mA R<|mA R<|aZ<|aU<|mM R<|mM R<|sQ R (Mw (ob:=.box _ _ _) R iL fR R)<|lF Us T7 R R<|mM R<|sQ R (NQ (rd:=(λ(l:List AC)=>RV.sl<|l.map AC.row)) false (.slice none 0 0) [] R underlying195 underlying3 (IE RK) (λ_ _=>.snil) (.inl R) (.inl R) R)<|AG h2 λj E h3=>sQ R (L4 R iL R R λ_=>E)<|sQ R (RR R Kz iL R R λ_=>E)<|Zl R R (o7 (a:=j) (a':=(AE.mk j.Item j.Parent j.Place<|(AU B q).getD [])) R I2 iL R R E iL R R)<|aZ<|aT λc9=>aG [3,4,5,7,20] [4,14,15,20,5005,8225,8226] ?_
  refine AG h3 λl2 al h4=>?_
  refine Iw 16 [pO 35<|.mref 15 A,pO 36<|.pk 8225 (m 1) (m 2) (Av C q) 0,pO 37<|.pk 8225 (m 1) (m 2) (Av C q) 0,pO 38<|.pk 8225 (m 1) (m 2) (Av C q) 1,pO 39<|rI<|((AE.mk j.Item j.Parent j.Place<|(AU B q).getD []).Parent),pO 40<|.mref 15 A,pO 41<|.pk 8225 (m 1) (m 2) (Av C q) 0,pO 42<|.pk 8225 (m 1) (m 2) (Av C q) 0,pO 43<|.pk 8225 (m 1) (m 2) (Av C q) 1,pO 44<|rI<|((AE.mk j.Item j.Parent j.Place<|(AU B q).getD []).Parent),pO 45<|.fo 15 A (w 1)<|(AE.mk j.Item j.Parent j.Place<|(AU B q).getD []).Parent,pO 46<|.pk 8225 (m 1) (m 2) (Av C q) 0,pO 47<|.pk 8225 (m 1) (m 2) (Av C q) 0,pO 48<|.agg [rI<|((AE.mk j.Item j.Parent j.Place<|(AU B q).getD []).Item),rI<|((AE.mk j.Item j.Parent j.Place<|(AU B q).getD []).Parent),.r<|.str<|(AE.mk j.Item j.Parent j.Place<|(AU B q).getD []).Place,.r<|.sl<|((AE.mk j.Item j.Parent j.Place<|(AU B q).getD []).Attrs).map AC.row],⟨some 49,(λI=>.own 49<|I 14),some (49,(λI=>some<|.arr (I 14) 167 4<|[(AE.mk j.Item j.Parent j.Place<|(AU B q).getD [])].map AE.row)),[14]⟩,⟨some 50,(λI=>.fo 15 A (I 15)<|(AE.mk j.Item j.Parent j.Place<|(AU B q).getD []).Parent),some (15,(λI=>some<|.mr A (I 15) 167 4 (some (Av X<|(AE.mk j.Item j.Parent j.Place<|(AU B q).getD []).Parent,(AU X<|(AE.mk j.Item j.Parent j.Place<|(AU B q).getD []).Parent).isNone))<|AN (λ(l:List AE)=>l.map AE.row)<|An X ((AE.mk j.Item j.Parent j.Place<|(AU B q).getD []).Parent) l2)),[15]⟩] BR (by kernel_rfl) (by exact⟨λ_ _ h=>⟨R,λ_ _ e=>by cases e⟩,λ_ _ h=>⟨R,λ_ _ e=>by cases e⟩,λ_ _ h=>⟨R,λ_ _ e=>by cases e⟩,λ_ _ h=>⟨R,λ_ _ e=>by cases e⟩,λ_ _ h=>⟨R,λ_ _ e=>by cases e⟩,λ_ _ h=>⟨R,λ_ _ e=>by cases e⟩,λ_ _ h=>⟨R,λ_ _ e=>by cases e⟩,λ_ _ h=>⟨R,λ_ _ e=>by cases e⟩,λ_ _ h=>⟨R,λ_ _ e=>by cases e⟩,λ_ _ h=>⟨R,λ_ _ e=>by cases e⟩,λ_ _ h=>⟨R,λ_ _ e=>by cases e⟩,λ_ _ h=>⟨R,λ_ _ e=>by cases e⟩,λ_ _ h=>⟨R,λ_ _ e=>by cases e⟩,λ_ _ h=>⟨R,λ_ _ e=>by cases e⟩,λ_ _ h=>⟨by simp only[h 14 R],λ_ _ e=>by cases e;simp only[h 14 R]⟩,λ_ _ h=>⟨by simp only[h 15 R],λ_ _ e=>by cases e;simp only[h 15 R]⟩,Za⟩) R (by exact⟨oB [(4,.ptr 4 (A+1) 0 0)] [(4,some<|.box (A+1) 193 [.mref 15 A])]<|Aa (a:=.mref 15 A) R QI (.inl R) R R,oB [(7,.pk 8225 (m 1) (m 2) (Av C q) 0)] [(8225,some<|.mb (m 1) (m 2) 167<|AN AE.row<|An C q<|AE.mk j.Item j.Parent j.Place<|(AU B q).getD [])]<|AK R<|.inl R,oB [(36,.pk 8225 (m 1) (m 2) (Av C q) 0)] [(8225,some<|.mb (m 1) (m 2) 167<|AN AE.row<|An C q<|AE.mk j.Item j.Parent j.Place<|(AU B q).getD [])]<|L4 R (.inl R) R (by rw[Hc E]) λ_=>Gj _ _ _,oB [(37,.pk 8225 (m 1) (m 2) (Av C q) 0)] [(8225,some<|.mb (m 1) (m 2) 167<|AN AE.row<|An C q<|AE.mk j.Item j.Parent j.Place<|(AU B q).getD [])]<|RR R Mg (.inl R) R (by rw[Hc E]) λ_=>Gj _ _ _,oB [(38,.pk 8225 (m 1) (m 2) (Av C q) 1)] [(8225,some<|.mb (m 1) (m 2) 167<|AN AE.row<|An C q<|AE.mk j.Item j.Parent j.Place<|(AU B q).getD [])]<|Th (a:=(AE.mk j.Item j.Parent j.Place<|(AU B q).getD [])) (d:=.int .i64<|(AE.mk j.Item j.Parent j.Place<|(AU B q).getD []).Parent) R AJ (.inl R) R (by rw[Hc E]) (λ_=>Gj _ _ _) R,oB [(4,.ptr 4 (A+1) 0 0)] [(4,some<|.box (A+1) 193 [.mref 15 A])]<|Aa (a:=.mref 15 A) R QI (.inl R) R R,oB [(7,.pk 8225 (m 1) (m 2) (Av C q) 0)] [(8225,some<|.mb (m 1) (m 2) 167<|AN AE.row<|An C q<|AE.mk j.Item j.Parent j.Place<|(AU B q).getD [])]<|AK R<|.inl R,oB [(41,.pk 8225 (m 1) (m 2) (Av C q) 0)] [(8225,some<|.mb (m 1) (m 2) 167<|AN AE.row<|An C q<|AE.mk j.Item j.Parent j.Place<|(AU B q).getD [])]<|L4 R (.inl R) R (by rw[Hc E]) λ_=>Gj _ _ _,oB [(42,.pk 8225 (m 1) (m 2) (Av C q) 0)] [(8225,some<|.mb (m 1) (m 2) 167<|AN AE.row<|An C q<|AE.mk j.Item j.Parent j.Place<|(AU B q).getD [])]<|RR R Mg (.inl R) R (by rw[Hc E]) λ_=>Gj _ _ _,oB [(43,.pk 8225 (m 1) (m 2) (Av C q) 1)] [(8225,some<|.mb (m 1) (m 2) 167<|AN AE.row<|An C q<|AE.mk j.Item j.Parent j.Place<|(AU B q).getD [])]<|Th (a:=(AE.mk j.Item j.Parent j.Place<|(AU B q).getD [])) (d:=.int .i64<|(AE.mk j.Item j.Parent j.Place<|(AU B q).getD []).Parent) R AJ (.inl R) R (by rw[Hc E]) (λ_=>Gj _ _ _) R,oB [(40,.mref 15 A),(44,rI<|((AE.mk j.Item j.Parent j.Place<|(AU B q).getD []).Parent))] [(15,some<|.mr A (w 1) 167 4 none<|AN (λ(l:List AE)=>l.map AE.row) X)]<|UK R underlying193 underlying3 (IE RP) (.inl R) (.inl R) R,oB [(7,.pk 8225 (m 1) (m 2) (Av C q) 0)] [(8225,some<|.mb (m 1) (m 2) 167<|AN AE.row<|An C q<|AE.mk j.Item j.Parent j.Place<|(AU B q).getD [])]<|AK R<|.inl R,oB [(46,.pk 8225 (m 1) (m 2) (Av C q) 0)] [(8225,some<|.mb (m 1) (m 2) 167<|AN AE.row<|An C q<|AE.mk j.Item j.Parent j.Place<|(AU B q).getD [])]<|L4 R (.inl R) R (by rw[Hc E]) λ_=>Gj _ _ _,oB [(47,.pk 8225 (m 1) (m 2) (Av C q) 0)] [(8225,some<|.mb (m 1) (m 2) 167<|AN AE.row<|An C q<|AE.mk j.Item j.Parent j.Place<|(AU B q).getD [])]<|YN (a:=(AE.mk j.Item j.Parent j.Place<|(AU B q).getD [])) (cs:=[rI<|((AE.mk j.Item j.Parent j.Place<|(AU B q).getD []).Item),rI<|((AE.mk j.Item j.Parent j.Place<|(AU B q).getD []).Parent),.r<|.str<|(AE.mk j.Item j.Parent j.Place<|(AU B q).getD []).Place,.r<|.sl<|((AE.mk j.Item j.Parent j.Place<|(AU B q).getD []).Attrs).map AC.row]) R G4 (.inl R) R (by rw[Hc E]) (λ_=>Gj _ _ _) R R,oM (λ_=>[(48,.agg [rI<|((AE.mk j.Item j.Parent j.Place<|(AU B q).getD []).Item),rI<|((AE.mk j.Item j.Parent j.Place<|(AU B q).getD []).Parent),.r<|.str<|(AE.mk j.Item j.Parent j.Place<|(AU B q).getD []).Place,.r<|.sl<|((AE.mk j.Item j.Parent j.Place<|(AU B q).getD []).Attrs).map AC.row])]) (λ_=>[]) R λI e h' n=>BZ 49 R BU (f:=AE.row) (l:=([(AE.mk j.Item j.Parent j.Place<|(AU B q).getD [])]:List AE)) ⟨R,⟨_,(.inl R),R⟩,Za⟩ R (λ_=>R) R,oM (λI=>[(45,.fo 15 A (w 1)<|(AE.mk j.Item j.Parent j.Place<|(AU B q).getD []).Parent),(49,.own 49<|I 14)]) (λI=>[(15,some<|.mr A (w 1) 167 4 none<|AN (λ(l:List AE)=>l.map AE.row) X),(49,some<|.arr (I 14) 167 4<|[(AE.mk j.Item j.Parent j.Place<|(AU B q).getD [])].map AE.row)]) R λI e h' n=>eC (ys:=[(AE.mk j.Item j.Parent j.Place<|(AU B q).getD [])]) R BU (.inl R) R (.inr<|.inl ⟨_,_,_,(.inl R),R⟩) R al,Za⟩) λI n2=>?_
  refine BV [3,4,5,7,20,35,36,37,38,39,40,41,42,43,44,46,47,48,49,50] [4,14,15,20,49,5005,8225,8226] ?_
  refine Zl R R (nK iL underlying193 underlying3 iL iL iL R)<|aZ<|c9 _<|aG [3,4,5,7,20] [4,14,15,20,5005,8225,8226] ?_
  refine aR<|mM R<|mM R ?_
  refine sQ R (L4 R iL R (by rw[Hc E]) λ_=>Gj _ _ _) ?_
  refine sQ R (YN (a:=(AE.mk j.Item j.Parent j.Place<|(AU B q).getD [])) (cs:=[rI<|((AE.mk j.Item j.Parent j.Place<|(AU B q).getD []).Item),rI<|((AE.mk j.Item j.Parent j.Place<|(AU B q).getD []).Parent),.r<|.str<|(AE.mk j.Item j.Parent j.Place<|(AU B q).getD []).Place,.r<|.sl<|((AE.mk j.Item j.Parent j.Place<|(AU B q).getD []).Attrs).map AC.row]) R G4 iL R (by rw[Hc E]) (λ_=>Gj _ _ _) R R) ?_
  refine sS R (BZ 55 R BU (f:=AE.row) (l:=([(AE.mk j.Item j.Parent j.Place<|(AU B q).getD [])]:List AE)) ⟨R,⟨_,iL,R⟩,Za⟩ R (λ_=>R) R)<|AG h4 λa8 a1 h5=>sS R (Cs R BU iL R (.inr<|.inl ⟨_,_,iL,R⟩) a1)<|mA R<|Zh ?_
  show Exit.normal=Exit.normal∧∃i':Nat→Nat,AZ _ _
  have aa:=Zf h5;subst aa
  exact⟨R,(AH [(n2+1),(I 15),(n2+2)]),(Zw (show AZ _ ⟨[(3,.ptr 14 (m 0) 0 0),(4,.ptr 4 (A+1) 0 0),(5,.own 5005<|n2+1),(20,.ptr 20 (A+2) 0 0)],[(4,some<|.box (A+1) 193 [.mref 15 A]),(14,some<|.box (m 0) 197 [.mref 8225<|m 1,.mref 8226<|m 3]),(15,some<|.mr A (I 15) 167 4 none<|AN (λ(l:List AE)=>l.map AE.row)<|An X ((AE.mk j.Item j.Parent j.Place<|(AU B q).getD []).Parent) l2),(20,some (.mj (A+2) 8225 (m 1) ((w1.map (·.1)).length)<|ag++[j1])),(5005,some<|.arr (n2+1) 167 4<|a8.map AE.row),(8225,some<|.mb (m 1) (m 2) 167<|AN AE.row<|An C q<|AE.mk j.Item j.Parent j.Place<|(AU B q).getD []),(8226,some<|.md (m 3)<|AN (λ(l:List AC)=>RV.sl<|l.map AC.row) B)],(n2+2),80⟩ from wk) wk)⟩
 intro a0 w an
 obtain⟨J,C,X⟩:=a0
 have h6:=pK an
 refine c5 _<|aU<|sS R (BH (cs:=[cZ]) 8 R RP R R)<|aZ<|aU<|sS R (R1 RV.bool 57 R)<|sS R (BH (cs:=[.cst<|.map none]) 9 R WR R R)<|Zl R R (A4 (ds:=[.mref 57<|(w 2)+1]) R VT iL R iL R R R R)<|aZ<|aU<|sS R (BH (cs:=[.cst<|.nilFunc]) 10 R lY R R)<|aZ<|aT λao=>aR ?_
 refine sQ R (Jj (bs:=[.ptr 4 (A+1) 0 0,.ptr 8 (w 2) 0 0,.ptr 9 ((w 2)+2) 0 0,.ptr 10 ((w 2)+3) 0 0]) R<|by exact⟨iL,iL,iL,iL,Za⟩) ?_
 refine Zl R R (A4 (ds:=[.fn 165 [.ptr 4 (A+1) 0 0,.ptr 8 (w 2) 0 0,.ptr 9 ((w 2)+2) 0 0,.ptr 10 ((w 2)+3) 0 0]]) R du iL R iL R R R R)<|aZ<|ao _<|aT λaq=>aR<|sQ R (Aa (a:=.fn 165 [.ptr 4 (A+1) 0 0,.ptr 8 (w 2) 0 0,.ptr 9 ((w 2)+2) 0 0,.ptr 10 ((w 2)+3) 0 0]) R Xt iL R R) ?_
 refine ZJ (Zw (VN 8 0 3080 167 4 (by decide) R R<|by decide)<|by exact AZ.cv (e':=[(3,.ptr 14 (m 0) 0 0),(4,.ptr 4 (A+1) 0 0),(5,.own 5005<|w 0),(8,.ptr 8 (w 2) 0 0),(9,.ptr 9 ((w 2)+2) 0 0),(10,.ptr 10 ((w 2)+3) 0 0),(57,.mref 57<|(w 2)+1),(58,.fn 165 [.ptr 4 (A+1) 0 0,.ptr 8 (w 2) 0 0,.ptr 9 ((w 2)+2) 0 0,.ptr 10 ((w 2)+3) 0 0]),(59,.fn 165 [.ptr 4 (A+1) 0 0,.ptr 8 (w 2) 0 0,.ptr 9 ((w 2)+2) 0 0,.ptr 10 ((w 2)+3) 0 0])]) (h':=[(4,some<|.box (A+1) 193 [.mref 15 A]),(8,some<|.box (w 2) 162 [.own 3080<|(w 2)+4]),(9,some<|.box ((w 2)+2) 94 [.mref 57<|(w 2)+1]),(10,some<|.box ((w 2)+3) 199 [.fn 165 [.ptr 4 (A+1) 0 0,.ptr 8 (w 2) 0 0,.ptr 9 ((w 2)+2) 0 0,.ptr 10 ((w 2)+3) 0 0]]),(14,some<|.box (m 0) 197 [.mref 8225<|m 1,.mref 8226<|m 3]),(15,some<|.mr A (w 1) 167 4 none<|AN (λ(l:List AE)=>l.map AE.row) X),(57,some<|.md ((w 2)+1)<|AN RV.bool ([]:List (Int × Bool))),(3080,some<|.arr ((w 2)+4) 167 4<|([]:List AE).map AE.row),(5005,some<|.arr (w 0) 167 4<|J.map AE.row),(8225,some<|.mb (m 1) (m 2) 167<|AN AE.row C),(8226,some<|.md (m 3)<|AN (λ(l:List AC)=>RV.sl<|l.map AC.row) B)]) ⟨jL,jL,jL,jL,jL,jL,jL,jL,jL,Za⟩ ⟨.inl R,.inl R,.inl R,.inl R,.inl R,.inl R,.inl R,.inl R,.inl R,.inl R,.inl R,Za⟩ nL) ?_
 refine Mx h6 λw3 w4 w5 ar h7=>?_
 refine ZA [4,15,8,3080,9,57,10] (hc:=[(1000,some<|.box (A+1) 193 [.mref 1001 A]),(1001,some<|.mr A (w 1) 167 4 none<|AN (λ(l:List AE)=>l.map AE.row) X),(1002,some<|.box (w 2) 162 [.own 1003<|(w 2)+4]),(1003,some<|.arr ((w 2)+4) 167 4<|([]:List AE).map AE.row),(1004,some<|.box ((w 2)+2) 94 [.mref 1005<|(w 2)+1]),(1005,some<|.md ((w 2)+1)<|AN RV.bool ([]:List (Int × Bool))),(1006,some<|.box ((w 2)+3) 199 [.fn 165 [.ptr 1000 (A+1) 0 0,.ptr 1002 (w 2) 0 0,.ptr 1004 ((w 2)+2) 0 0,.ptr 1006 ((w 2)+3) 0 0]])]) (bs:=[rI 0]) (caps:=[.ptr 1000 (A+1) 0 0,.ptr 1002 (w 2) 0 0,.ptr 1004 ((w 2)+2) 0 0,.ptr 1006 ((w 2)+3) 0 0]) R R R R iL R ⟨.inl ⟨iL,R⟩,Za⟩ ⟨R,R,R,R,R,R,R,R,R,R,R,R,R,R,R,R,R,R,R,R,R,Za⟩ (by decide) (lz ar) ?_
 intro i6 n3
 refine BV [3,4,5,8,9,10,57,58,59,60] [4,8,9,10,14,15,57,3080,5005,8225,8226] ?_
 refine aZ<|aq _<|aT λau=>aR<|mM R<|AG h7 λw6 av h8=>?_
 refine ZA [5005] (hc:=[(1000,some<|.arr (w 0) 167 4<|J.map AE.row)]) (bs:=[.own 1000<|w 0,.fn 169 []]) (caps:=[]) R R R R iL R ⟨.inl ⟨iL,R⟩,.inl ⟨iL,R⟩,Za⟩ ⟨R,R,R,Za⟩ (by decide) ((qn (row:=AE.row) Xn (by decide) (λ_=>R) ⟨_,func169,R,R⟩ λ_ _ _ h=>jy h) av) ?_
 intro i7 n4
 refine BV [3,4,5,8,9,10,57,58,59,60,61,62] [4,8,9,10,14,15,57,3080,5005,8225,8226] ?_
 refine aZ<|au _<|aS λaw ax ab=>aT λay=>aG [5,8,9] [8,9,57,3080,5005] ?_
 refine aR<|mM R<|sQ R (JL R BU.slice iL R)<|mM R<|aZ<|ay _<|Ze<|BS h8 λo1 ac az=>?_
 have J1:∀(O:List AE) (T:NN),o1=O→aw ⟨[(8,.ptr 8 (w 2) 0 0)],[(8,some<|.box (w 2) 162 [.own 3080<|T 0]),(3080,some<|.arr (T 0) 167 4<|O.map AE.row)],(T 1),80⟩:=by
  intro O T e
  have h9:=az _ e
  exact ax _<|aU<|sQ R (Aa (a:=.own 3080<|T 0) R TA iL R R)<|mA R<|aZ<|Zi<|Bz (P:=prog) (λ(r:(List AE))=>qg r) h9 iL<|.t<|.one<|.own R
 refine ZK (λ(x3:Int) (U:List AE) F=>⟨[(8,.ptr 8 (w 2) 0 0),(9,.ptr 9 ((w 2)+2) 0 0),(63,.own 5005<|w 0),(64,rL w6),(65,rI x3)],[(8,some<|.box (w 2) 162 [.own 3080<|F 0]),(9,some<|.box ((w 2)+2) 94 [.mref 57<|(w 2)+1]),(57,some<|.md ((w 2)+1)<|AN RV.bool w5),(3080,some<|.arr (F 0) 167 4<|U.map AE.row),(5005,some<|.arr (w 0) 167 4<|w6.map AE.row)],(F 1),80⟩) (AH [(i6 0),n4]) ac wk ?_
 intro x3 U F v1 b0 b1
 have ad:Hv w5 w6 x3 U=some v1:=b0;unfold Hv at ad
 refine aU<|xS R<|aZ<|aT λb2=>cI R ad (λa2=>?_) λa2=>?_
 ·refine Zc<|b2 _<|aS λb3 b4 Z=>Ze<|BS a2 λp1 b5 b6=>?_
  have J2:∀(V:List AE) (M:NN),p1=V→b3 ⟨[(8,.ptr 8 (w 2) 0 0),(9,.ptr 9 ((w 2)+2) 0 0),(63,.own 5005<|w 0),(64,rL w6),(65,rI x3)],[(8,some<|.box (w 2) 162 [.own 3080<|M 0]),(9,some<|.box ((w 2)+2) 94 [.mref 57<|(w 2)+1]),(57,some<|.md ((w 2)+1)<|AN RV.bool w5),(3080,some<|.arr (M 0) 167 4<|V.map AE.row),(5005,some<|.arr (w 0) 167 4<|w6.map AE.row)],(M 1),80⟩:=by
   intro V M e
   have b7:=b6 _ e
   exact b4 _<|aR<|AG b7 λx5 b8 b9=>xA R b8<|mM R<|Zh<|ZI b9 (AH [(M 0),(M 1)]) wk
  refine aU<|AG b5 λx6 ae ba=>sQ R (Fs R BU.slice iL R iL λ_=>ae)<|sQ R (U4 (cs:=(CV x6)) R G4 iL fR (λ_=>ae) R)<|sS R (BH (cs:=Mb) 12 R Ov R R)<|Zl R R (A4 (ds:=(CV x6)) R Ll iL R iL R R R R)<|aZ<|aU<|sQ R (Aa (a:=.mref 57<|(w 2)+1) R RO iL R R)<|lF Ec AJ R R<|sQ R (NQ (rd:=RV.bool) false (.bool false) false R underlying94 underlying3 (IE Sp) (λ_ _=>.bool _) (.inl R) (.inl R) R)<|sQ R (BD R iL)<|aZ<|cI R ba (λa6=>?_) λa6=>?_
  ·exact aR<|sQ R (Aa (a:=.own 3080<|F 0) R TA iL R R)<|xC G4 R<|sS R (BZ 76 R BU (f:=AE.row) (l:=([x6]:List AE)) ⟨R,⟨_,iL,R⟩,Za⟩ R (λ_=>R) R)<|AG a6 λl3 bb bc=>sS R (Cs R BU iL R (.inr<|.inl ⟨_,_,iL,R⟩) bb)<|Zl R R (A4 (ds:=[.own 3080<|(F 1)+2]) R W9 iL R iL R R R R)<|Zh<|Z _ _ wk<|J2 _ (AH [((F 1)+2),((F 1)+3)]) (Zf bc).symm
  exact Zc<|Z _ _ wk<|J2 _ (AH [(F 0),((F 1)+1)]) (Zf a6).symm
 exact Zm<|ab _ _ wk<|J1 _ (AH [(F 0),(F 1)])<|xH b1 a2
theorem gU{i r}(h:Ni i=some r):AR prog 154 [qg i] (rI r):=by
 unfold Ni at h
 refine mF func154 ntmps154 R λq=>aU<|mA R<|aZ<|aU<|sS R (R1 RV.bool 6 R)<|Zl R R (Nk (rd:=RV.bool) (a:=true) (.inr R) underlying94 underlying3 iL iL iL R)<|mM R<|mA R<|aZ<|aS λK3 c3 w=>aU<|mM R<|xL BU R<|mM R<|aZ<|Ze<|BM h λo1 j A B=>?_
 have J1:∀(U:Unit) (V:NN),o1=.nrm U→K3 ⟨[(0,qg i)],[],(V 0),27⟩:=by
  intro U V e
  have h1:=A _ e
  exact c3 _<|aU<|mM R<|xL BU R<|mA R<|aZ<|Zi<|yI h1 R
 refine ZK (λ(C:Int) (m2:List (Int × Bool)) m=>⟨[(0,qg i),(3,.mref 6 q),(8,qg i),(9,rL i),(10,rI C)],[(6,some<|.md q<|AN RV.bool m2)],(m 0),27⟩) (AH [(q+1)]) j wk ?_
 intro C m2 m v1 E l
 have X:JI i C m2=some v1:=E;unfold JI at X
 refine aU<|xS R<|aZ<|aT λc7=>cI R X (λF=>?_) λF=>?_
 ·refine Zc<|c7 _<|aT λc8=>Ze<|aU<|mM R<|AG F λZ I h4=>xI BU R I<|xB ((CV Z)) G4 R<|sS R (BH (cs:=Mb) 5 R Ov R R)<|mA R<|Zl R R (A4 (ds:=(CV Z)) R Ll iL R iL R R R R)<|aZ<|aT λJ=>aU<|mM R<|lF Mg AJ R R<|sQ R (NQ (rd:=RV.bool) false (.bool false) false R underlying94 underlying3 (IE Sp) (λ_ _=>.bool _) (.inl R) (.inl R) R)<|sQ R (BD R iL)<|aZ<|cI R h4 (λM=>?_) λM=>?_
  ·refine aT λO=>aF [4] ?_
   exact aR<|mM R<|mA R<|aZ<|O _<|Zi<|yI (B _<|xH l M) R
  refine Zc<|J _<|aG [0,3,5,8,9,10] [5,6] ?_
  exact aR<|mM R<|lF Ec AJ R R<|Zl R R (Nk (rd:=RV.bool) (a:=true) iL underlying94 underlying3 iL iL iL R)<|aZ<|c8 _<|aR<|AG M λx5 T h6=>xA R T<|mM R<|Zh<|ZI h6 (AH [((m 0)+1)]) wk
 exact Zm<|w _ _ wk<|J1 _ (AH [(m 0)])<|xH l F
theorem Jp{j n r}(h:FP j n=some r):AR prog 29 [qa j,rS n] (rS r):=by
 unfold FP at h
 refine mF func29 ntmps29 R λZ=>aU<|mA R<|aZ<|aS λK2 c2 w=>aU<|mM R<|xL Ay R<|mM R<|aZ<|Ze<|BM h λo1 l A B=>?_
 have J1:∀(T:Unit) (U:NN),o1=.nrm T→K2 ⟨[],[],(U 0),20⟩:=by
  intro T U e
  have h1:=A _ e
  exact c2 _<|aU<|mA R<|aZ<|Zi<|Bz (P:=prog) (λ(r:(List UInt8))=>rS r) h1 iL<|.t<|.d R
 refine Zt (λ(C:Int) q=>⟨[(1,rS n),(7,qa j),(8,rL j),(9,rI C)],[],(q 0),20⟩) (AH [Z]) l wk ?_
 intro C q v1 E m
 have V:On j n C=some v1:=E;unfold On at V
 refine aU<|xS R<|aZ<|aT λc6=>cI R V (λF=>?_) λF=>?_
 ·refine Zc<|c6 _<|aT λc7=>Ze<|aU<|AG F λX I h4=>xI Ay R I<|xB ((CD X)) D7 R<|sS R (BH (cs:=[.r<|.str [],.r<|.str []]) 6 R SL R R)<|Zl R R (A4 (ds:=(CD X)) R Q4 iL R iL R R R R)<|aZ<|aU<|lF Cz A6 R R<|mM R<|sQ R (Dp R iL iL)<|aZ<|cI R h4 (λJ=>?_) λJ=>?_
  ·refine aT λM=>aG [6] [6] ?_
   exact aR<|lF Hk A6 R R<|mA R<|aZ<|M _<|Zi<|Bz (P:=prog) (λ(r:(List UInt8))=>rS r) (B _<|xH m J) iL<|.t<|.d R
  exact Zc<|c7 _<|aR<|AG J λx5 O h6=>xA R O<|mM R<|Zh<|Zq h6 (AH [((q 0)+1)]) wk
 exact Zm<|w _ _ wk<|J1 _ (AH [(q 0)])<|xH m F
theorem Zn{j r}(h:Rl j=some r):AR prog 155 [rS j] (.tup [rI r.1,.ifc r.2]):=by
 unfold Rl at h
 exact AR.atoiS pH R R R ⟨_,func155,R,R⟩ h
theorem fv{n1 r}(h:strconv_Itoa n1=some r):AR prog 156 [rI n1] (rS r):=by
 unfold strconv_Itoa at h
 exact AR.itoaS (g:=YU) l6 R (by kernel_rfl) R ⟨_,func156,R,R⟩ h
theorem jU{d1 n1 r}(h:GF d1 n1=some r):AR prog 133 [.agg [qb d1.Nodes],.agg<|Af n1] (.r<|.sl<|r.map<|A3 .i64):=by
 unfold GF at h
 refine mF func133 ntmps133 R λj=>aU<|sS R (At (cs:=[qb d1.Nodes]) 2 R iL R R)<|sS R (At (cs:=(Af n1)) 3 R iL R R)<|mA R<|aZ<|aU<|mA R<|aZ<|aU<|lF GW HA R R<|AG h λJ U h1=>sS R (BJ (r:=qg J) (caps:=[]) (bs:=[qf n1.Draw]) R iL R ⟨.inl ⟨iL,R⟩,Za⟩ λ_=>gA<|U)<|mA R<|aZ<|aS λK4 c4 V=>aT λc5=>aR<|mM R<|mM R<|AG h1 λr1 X h2=>cL (gU<|X) R<|AG h2 λA Z h3=>?_
 refine sQ R (YS R BU.slice iL (by exact R) (by exact⟨_,iL⟩) (λ_=>R) λ_=>Z) ?_
 refine xL BU R<|mM R<|aZ<|c5 _<|Ze<|BS h3 λo1 M a0=>?_
 have J1:∀(m:List Int) (O:NN),o1=m→K4 ⟨[(5,.own 5005<|O 0)],[(5005,some<|.arr (O 0) 3 1<|m.map<|A3 .i64)],(O 1),64⟩:=by
  intro m O e
  have h4:=a0 _ e
  exact c4 _<|aU<|mM R<|mA R<|aZ<|Zi<|Bz (P:=prog) (λ(r:(List Int))=>.r<|.sl<|r.map<|A3 .i64) h4 iL<|.t<|.one<|.own R
 refine ZK (λ(T:Int) (q:List Int) l=>⟨[(2,.ptr 2 j 0 0),(5,.own 5005<|l 0),(20,qg A),(21,rL A),(22,rI T)],[(2,some<|.box j 24 [qb d1.Nodes]),(5005,some<|.arr (l 0) 3 1<|q.map<|A3 .i64)],(l 1),64⟩) (AH [(j+2),(j+3)]) M (Zw (Zw (Fd 5 5005 3 1 (by decide) R)<|by exact AZ.cv (e':=[(0,.agg [qb d1.Nodes]),(1,.agg<|Af n1),(2,.ptr 2 j 0 0),(3,.ptr 3 (j+1) 0 0),(4,cZ),(5,.own 5005<|j+2),(6,qg J),(14,.ptr 3 (j+1) 0 8),(15,qf n1.Draw),(16,qg J),(17,qg J),(18,qg J),(19,rI r1),(20,qg A),(21,rL A),(22,rI 0)]) (h':=[(2,some<|.box j 24 [qb d1.Nodes]),(3,some<|.box (j+1) 54<|Af n1),(5005,some<|.arr (j+2) 3 1<|([]:List Int).map<|A3 .i64)]) ⟨jL,jL,jL,jL,jL,jL,jL,jL,jL,jL,jL,jL,jL,jL,jL,jL,Za⟩ ⟨.inl R,.inl R,.inl R,Za⟩ nL) wk) ?_
 intro T q l v1 a1 a2
 have h5:IL d1 A T q=some v1:=a1;unfold IL at h5
 refine aU<|xS R<|aZ<|aT λc8=>cI R h5 (λh6=>?_) λh6=>?_
 ·refine Zc<|c8 _<|aS λK9 c9 B=>Ze<|BS h6 λp1 a6 a7=>?_
  have J2:∀(w:List Int) (I:NN),p1=w→K9 ⟨[(2,.ptr 2 j 0 0),(5,.own 5005<|I 0),(20,qg A),(21,rL A),(22,rI T)],[(2,some<|.box j 24 [qb d1.Nodes]),(5005,some<|.arr (I 0) 3 1<|w.map<|A3 .i64)],(I 1),64⟩:=by
   intro w I e
   have h7:=a7 _ e
   exact c9 _<|aR<|AG h7 λx4 a8 h8=>xA R a8<|mM R<|Zh<|ZI h8 (AH [(I 0),(I 1)]) wk
  refine aU<|AG a6 λx5 aa h9=>xI BU R aa<|xB ((CV x5)) G4 R<|sS R (BH (cs:=Mb) 8 R Ov R R)<|Zl R R (A4 (ds:=(CV x5)) R Ll iL R iL R R R R)<|aZ<|aU<|lF Kz Bw R R<|AG h9 λs1 ab ac=>cL (Jp<|ab) R<|mA R<|aZ<|aU<|mM R<|Ed ac λr2 r3 ad ae=>cL (Zn<|ad) R<|mM R<|xX R<|xX R<|mA R<|mA R<|aZ<|aT λaf=>aT λag=>aG [2,5,9,10,11,20,21,22] [2,5005] ?_
  refine aR<|mM R<|sQ R (mJ R am iL)<|mM R<|vM R<|AG ae λr4 ah ai=>vL (λhg=>fv<|Ad ah hg) R<|vM R<|vQ R (Dt R (iR R)<|iR R)<|xO R<|aZ<|ag _<|cI R ai (λC=>?_) λC=>?_
  ·exact Zm<|B _ _ wk<|J2 _ (AH [(l 0),((l 1)+1)]) (Zf C).symm
  refine Zc<|af _<|aU<|xC Bs R<|mM R<|Ed C λr5 r6 aj ak=>cL (Q2<|aj) R<|mM R<|xX R<|xX R<|mA R<|mA R<|aZ<|aT λal=>aG [2,5,10,12,13,20,21,22] [2,5005] ?_
  refine aR<|mM R<|mM R<|vF CH B7 R R<|vM R<|AG ak λx6 an ao=>vQ R (BB R A8.slice (iR R) (iR R) (λ_=>R)<|Ad an)<|vQ R (BK R Cd<|iR R)<|vQ R (Bt (d:=.int .i64 x6.Kind) R AJ (iR R) R)<|vQ R (A9 R (iR R) iL)<|xN R<|aZ<|al _<|cI R ao (λE=>?_) λE=>?_
  ·exact aR<|mM R<|mM R<|sS R (BZ 60 R CU (f:=(A3 .i64)) (l:=([r2]:List Int)) ⟨R,⟨_,iL,R⟩,Za⟩ R (λ_=>R) R)<|AG E λar F aq=>sS R (Cs R CU iL R (.inr<|.inl ⟨_,_,iL,R⟩) F)<|mA R<|Zh<|B _ _ wk<|J2 _ (AH [((l 1)+2),((l 1)+3)]) (Zf aq).symm
  exact Zc<|B _ _ wk<|J2 _ (AH [(l 0),((l 1)+1)]) (Zf E).symm
 exact Zm<|V _ _ wk<|J1 _ (AH [(l 0),(l 1)])<|xH a2 h6
theorem eU{self:(List (List RV)→Option Bool)→(List<|Int × Bool)→(List<|List RV)→AP→Aw→Option (Bool × (List<|Int × Bool) × (List<|List RV))}(X:∀ {A1:List (List RV)→Option Bool} {m1:List (Int × Bool)} {M:List (List RV)} {E:AP} {v1:Aw} {r:Bool × (List<|Int × Bool) × (List<|List RV)} {m:Nat} {A:Nat} {q:Nat} {w:Nat} {B:Nat} {l:Nat} {j:Nat} {F:Et},self A1 m1 M E v1=some r→(F.P=prog∧F.A=A1)→BC prog 131 7 [.agg<|FW v1,.ptr 1000 m 0 0,.ptr 1002 q 0 0,.ptr 1005 l 0 0,.ptr 1006 j 0 0] [(1000,some<|.box m 94 [.mref 1001 A]),(1001,some<|.md A<|AN RV.bool m1),(1002,some<|.box q 134 [.fn 99 [.ptr 1003 w 0 0]]),(1003,some<|.box w 121 [.yld 1004 B]),(1004,some<|.cal B F M),(1005,some<|.box l 24 [qb E.Nodes]),(1006,some<|.box j 134 [.fn 131 [.ptr 1000 m 0 0,.ptr 1002 q 0 0,.ptr 1005 l 0 0,.ptr 1006 j 0 0]])] (λZ h'=>∃(i:Nat→Nat),Z=rB r.1∧h'=[(1000,some<|.box m 94 [.mref 1001 A]),(1001,some<|.md A<|AN RV.bool r.2.1),(1002,some<|.box q 134 [.fn 99 [.ptr 1003 w 0 0]]),(1003,some<|.box w 121 [.yld 1004 B]),(1004,some<|.cal B F r.2.2),(1005,some<|.box l 24 [qb E.Nodes]),(1006,some<|.box j 134 [.fn 131 [.ptr 1000 m 0 0,.ptr 1002 q 0 0,.ptr 1005 l 0 0,.ptr 1006 j 0 0]])])){A1:List (List RV)→Option Bool}{m1:List (Int × Bool)}{M:List (List RV)}{E:AP}{v1:Aw}{r:Bool × (List<|Int × Bool) × (List<|List RV)}{m:Nat}{A:Nat}{q:Nat}{w:Nat}{B:Nat}{l:Nat}{j:Nat}{F:Et}(h:SU self A1 m1 M E v1=some r)(hW:(F.P=prog∧F.A=A1)):BC prog 131 7 [.agg<|FW v1,.ptr 1000 m 0 0,.ptr 1002 q 0 0,.ptr 1005 l 0 0,.ptr 1006 j 0 0] [(1000,some<|.box m 94 [.mref 1001 A]),(1001,some<|.md A<|AN RV.bool m1),(1002,some<|.box q 134 [.fn 99 [.ptr 1003 w 0 0]]),(1003,some<|.box w 121 [.yld 1004 B]),(1004,some<|.cal B F M),(1005,some<|.box l 24 [qb E.Nodes]),(1006,some<|.box j 134 [.fn 131 [.ptr 1000 m 0 0,.ptr 1002 q 0 0,.ptr 1005 l 0 0,.ptr 1006 j 0 0]])] (λZ h'=>∃(i:Nat→Nat),Z=rB r.1∧h'=[(1000,some<|.box m 94 [.mref 1001 A]),(1001,some<|.md A<|AN RV.bool r.2.1),(1002,some<|.box q 134 [.fn 99 [.ptr 1003 w 0 0]]),(1003,some<|.box w 121 [.yld 1004 B]),(1004,some<|.cal B F r.2.2),(1005,some<|.box l 24 [qb E.Nodes]),(1006,some<|.box j 134 [.fn 131 [.ptr 1000 m 0 0,.ptr 1002 q 0 0,.ptr 1005 l 0 0,.ptr 1006 j 0 0]])]):=by
 unfold SU at h
 refine Dx func131 R R ntmps131 (Zr R) λV=>aU<|sS R (At (cs:=(FW v1)) 5 R iL R R)<|mA R<|aZ<|aT λc2=>aU<|sQ R (Aa (a:=.mref 1001 A) R RO iL R R)<|lF KX AJ R R<|sQ R (NQ (rd:=RV.bool) false (.bool false) false R underlying94 underlying3 (IE Sp) (λ_ _=>.bool _) (.inl R) (.inl R) R)<|aZ<|cI R h (λh1=>?_) λh1=>?_
 ·refine aT λc4=>aG [] [1000,1001,1002,1003,1004,1005,1006] ?_
  refine aR<|mA R<|oZ c4 ?_
  exact Zi<|CE.mk (s':=⟨[(6,rB true)],[(1000,some<|.box m 94 [.mref 1001 A]),(1001,some<|.md A<|AN RV.bool m1),(1002,some<|.box q 134 [.fn 99 [.ptr 1003 w 0 0]]),(1003,some<|.box w 121 [.yld 1004 B]),(1004,some<|.cal B F M),(1005,some<|.box l 24 [qb E.Nodes]),(1006,some<|.box j 134 [.fn 131 [.ptr 1000 m 0 0,.ptr 1002 q 0 0,.ptr 1005 l 0 0,.ptr 1006 j 0 0]])],(V+1),121⟩) wk<|CP (λ(r:Bool × (List<|Int × Bool) × (List<|List RV)) Z h'=>∃(i:Nat→Nat),Z=rB r.1∧h'=[(1000,some<|.box m 94 [.mref 1001 A]),(1001,some<|.md A<|AN RV.bool r.2.1),(1002,some<|.box q 134 [.fn 99 [.ptr 1003 w 0 0]]),(1003,some<|.box w 121 [.yld 1004 B]),(1004,some<|.cal B F r.2.2),(1005,some<|.box l 24 [qb E.Nodes]),(1006,some<|.box j 134 [.fn 131 [.ptr 1000 m 0 0,.ptr 1002 q 0 0,.ptr 1005 l 0 0,.ptr 1006 j 0 0]])]) h1<|by exact⟨rB true,[(1000,some<|.box m 94 [.mref 1001 A]),(1001,some<|.md A<|AN RV.bool m1),(1002,some<|.box q 134 [.fn 99 [.ptr 1003 w 0 0]]),(1003,some<|.box w 121 [.yld 1004 B]),(1004,some<|.cal B F M),(1005,some<|.box l 24 [qb E.Nodes]),(1006,some<|.box j 134 [.fn 131 [.ptr 1000 m 0 0,.ptr 1002 q 0 0,.ptr 1005 l 0 0,.ptr 1006 j 0 0]])],R,⟨.inr R,.inr R,.inr R,.inr R,.inr R,.inr R,.inr R,Za⟩,R,R,AH [],R,R⟩
 refine Zc<|c2 _<|aU<|sQ R (Aa (a:=.mref 1001 A) R RO iL R R)<|lF KX AJ R R<|Zl R R (Nk (rd:=RV.bool) (a:=true) iL underlying94 underlying3 iL iL iL R)<|aZ<|aT λc6=>aT λc7=>aG [2,3,4,5] [5,1000,1001,1002,1003,1004,1005,1006] ?_
 refine aR<|sQ R (Aa (a:=.fn 99 [.ptr 1003 w 0 0]) R PT iL R R)<|xC bG R<|Ed h1 λr1 w2 bd h2=>?_
 refine ZA [1003,1004] (hc:=[(1000,some<|.box w 121 [.yld 1001 B]),(1001,some<|.cal B F M)]) (bs:=[.agg<|FW v1]) (caps:=[.ptr 1000 w 0 0]) R R R R iL R ⟨.inl ⟨iL,R⟩,Za⟩ ⟨R,R,R,R,R,R,Za⟩ (by decide) (lf bd hW) ?_
 intro i1 n1
 refine BV [2,3,4,5,24,25,26] [5,1000,1001,1002,1003,1004,1005,1006] ?_
 refine sQ R (BD R iL)<|aZ<|c7 _<|cI R h2 (λh3=>?_) λh3=>?_
 ·refine aU<|mA R<|aZ ?_
  exact Zi<|CE.mk (s':=⟨[(6,rB false)],[(1000,some<|.box m 94 [.mref 1001 A]),(1001,some<|.md A<|AN RV.bool<|An m1 v1.id true),(1002,some<|.box q 134 [.fn 99 [.ptr 1003 w 0 0]]),(1003,some<|.box w 121 [.yld 1004 B]),(1004,some<|.cal B F w2),(1005,some<|.box l 24 [qb E.Nodes]),(1006,some<|.box j 134 [.fn 131 [.ptr 1000 m 0 0,.ptr 1002 q 0 0,.ptr 1005 l 0 0,.ptr 1006 j 0 0]])],n1,121⟩) wk<|CP (λ(r:Bool × (List<|Int × Bool) × (List<|List RV)) Z h'=>∃(i:Nat→Nat),Z=rB r.1∧h'=[(1000,some<|.box m 94 [.mref 1001 A]),(1001,some<|.md A<|AN RV.bool r.2.1),(1002,some<|.box q 134 [.fn 99 [.ptr 1003 w 0 0]]),(1003,some<|.box w 121 [.yld 1004 B]),(1004,some<|.cal B F r.2.2),(1005,some<|.box l 24 [qb E.Nodes]),(1006,some<|.box j 134 [.fn 131 [.ptr 1000 m 0 0,.ptr 1002 q 0 0,.ptr 1005 l 0 0,.ptr 1006 j 0 0]])]) h3<|by exact⟨rB false,[(1000,some<|.box m 94 [.mref 1001 A]),(1001,some<|.md A<|AN RV.bool<|An m1 v1.id true),(1002,some<|.box q 134 [.fn 99 [.ptr 1003 w 0 0]]),(1003,some<|.box w 121 [.yld 1004 B]),(1004,some<|.cal B F w2),(1005,some<|.box l 24 [qb E.Nodes]),(1006,some<|.box j 134 [.fn 131 [.ptr 1000 m 0 0,.ptr 1002 q 0 0,.ptr 1005 l 0 0,.ptr 1006 j 0 0]])],R,⟨.inr R,.inr R,.inr R,.inr R,.inr R,.inr R,.inr R,Za⟩,R,R,AH [],R,R⟩
 refine Zc<|c6 _<|aU<|xC Bs R<|lF KX AJ R R<|Ed h3 λr2 r3 be h4=>cL (Q2<|be) R<|mM R<|xX R<|xX R<|mA R<|mA R<|aZ<|aT λbf=>aG [3,4,5,7] [5,1000,1001,1002,1003,1004,1005,1006] ?_
 refine aR<|lF CH B7 R R<|mM R<|AG h4 λJ bg h5=>xI A8 R bg<|xB ((Af J)) Cf R<|sS R (BH (cs:=De) 9 R GA R R)<|Zl R R (A4 (ds:=(Af J)) R E8 iL R iL R R R R)<|aZ<|bf _<|aS λbh bi au=>aU<|lF ET E0 R R<|AG h5 λr4 bj h6=>sS R (BJ (r:=.r<|.sl<|r4.map<|A3 .i64) (caps:=[]) (bs:=[qe J.Flow]) R iL R ⟨.inl ⟨iL,R⟩,Za⟩ λ_=>dC<|bj)<|xL CU R<|mM R<|aZ<|Ze<|Sl h6 λo1 av bk bl=>?_
 have J1:∀(m5:List (Int × Bool)) (ac:List (List RV)) (i6:NN),o1=.nrm (m5,ac)→bh ⟨[(3,.ptr 1005 l 0 0),(4,.ptr 1006 j 0 0),(5,.ptr 5 V 0 0),(9,.ptr 9 n1 0 0)],[(5,some<|.box V 133<|FW v1),(9,some<|.box n1 54<|Af J),(1000,some<|.box m 94 [.mref 1001 A]),(1001,some<|.md A<|AN RV.bool m5),(1002,some<|.box q 134 [.fn 99 [.ptr 1003 w 0 0]]),(1003,some<|.box w 121 [.yld 1004 B]),(1004,some<|.cal B F ac),(1005,some<|.box l 24 [qb E.Nodes]),(1006,some<|.box j 134 [.fn 131 [.ptr 1000 m 0 0,.ptr 1002 q 0 0,.ptr 1005 l 0 0,.ptr 1006 j 0 0]])],(i6 0),121⟩:=by
  intro m5 ac i6 e
  have h7:=bk _ _ e
  refine bi _<|aS λbm bn aw=>aU<|sQ R (fB R EH iL fR R)<|lF D4 EK R R<|xL B8 R<|mM R<|aZ<|Ze<|Sl h7 λo2 ax bo bp=>?_
  have J2:∀(m9:List (Int × Bool)) (ad:List (List RV)) (ae:NN),o2=.nrm (m9,ad)→bm ⟨[(3,.ptr 1005 l 0 0),(4,.ptr 1006 j 0 0),(5,.ptr 5 V 0 0),(9,.ptr 9 n1 0 0)],[(5,some<|.box V 133<|FW v1),(9,some<|.box n1 54<|Af J),(1000,some<|.box m 94 [.mref 1001 A]),(1001,some<|.md A<|AN RV.bool m9),(1002,some<|.box q 134 [.fn 99 [.ptr 1003 w 0 0]]),(1003,some<|.box w 121 [.yld 1004 B]),(1004,some<|.cal B F ad),(1005,some<|.box l 24 [qb E.Nodes]),(1006,some<|.box j 134 [.fn 131 [.ptr 1000 m 0 0,.ptr 1002 q 0 0,.ptr 1005 l 0 0,.ptr 1006 j 0 0]])],(ae 0),121⟩:=by
   intro m9 ad ae e
   have h8:=bo _ _ e
   refine bn _<|aS λbq br ay=>aU<|xC Bs R<|xC Cf R<|AG h8 λr5 bs h9=>sS R (BJ (r:=.r<|.sl<|r5.map<|A3 .i64) (caps:=[]) (bs:=[.agg [qb E.Nodes],.agg<|Af J]) R iL R ⟨.inl ⟨iL,R⟩,.inl ⟨iL,R⟩,Za⟩ λ_=>jU<|bs)<|xL CU R<|mM R<|aZ<|Ze<|Sl h9 λo3 az bt bu=>?_
   have J3:∀(a1:List (Int × Bool)) (O:List (List RV)) (i16:NN),o3=.nrm (a1,O)→bq ⟨[],[(1000,some<|.box m 94 [.mref 1001 A]),(1001,some<|.md A<|AN RV.bool a1),(1002,some<|.box q 134 [.fn 99 [.ptr 1003 w 0 0]]),(1003,some<|.box w 121 [.yld 1004 B]),(1004,some<|.cal B F O),(1005,some<|.box l 24 [qb E.Nodes]),(1006,some<|.box j 134 [.fn 131 [.ptr 1000 m 0 0,.ptr 1002 q 0 0,.ptr 1005 l 0 0,.ptr 1006 j 0 0]])],(i16 0),121⟩:=by
    intro a1 O i16 e
    have bv:=bt _ _ e
    refine br _<|aU<|mA R<|aZ ?_
    exact Zi<|CE.mk (s':=⟨[(6,rB true)],[(1000,some<|.box m 94 [.mref 1001 A]),(1001,some<|.md A<|AN RV.bool a1),(1002,some<|.box q 134 [.fn 99 [.ptr 1003 w 0 0]]),(1003,some<|.box w 121 [.yld 1004 B]),(1004,some<|.cal B F O),(1005,some<|.box l 24 [qb E.Nodes]),(1006,some<|.box j 134 [.fn 131 [.ptr 1000 m 0 0,.ptr 1002 q 0 0,.ptr 1005 l 0 0,.ptr 1006 j 0 0]])],(i16 0),121⟩) wk<|CP (λ(r:Bool × (List<|Int × Bool) × (List<|List RV)) Z h'=>∃(i:Nat→Nat),Z=rB r.1∧h'=[(1000,some<|.box m 94 [.mref 1001 A]),(1001,some<|.md A<|AN RV.bool r.2.1),(1002,some<|.box q 134 [.fn 99 [.ptr 1003 w 0 0]]),(1003,some<|.box w 121 [.yld 1004 B]),(1004,some<|.cal B F r.2.2),(1005,some<|.box l 24 [qb E.Nodes]),(1006,some<|.box j 134 [.fn 131 [.ptr 1000 m 0 0,.ptr 1002 q 0 0,.ptr 1005 l 0 0,.ptr 1006 j 0 0]])]) bv<|by exact⟨rB true,[(1000,some<|.box m 94 [.mref 1001 A]),(1001,some<|.md A<|AN RV.bool a1),(1002,some<|.box q 134 [.fn 99 [.ptr 1003 w 0 0]]),(1003,some<|.box w 121 [.yld 1004 B]),(1004,some<|.cal B F O),(1005,some<|.box l 24 [qb E.Nodes]),(1006,some<|.box j 134 [.fn 131 [.ptr 1000 m 0 0,.ptr 1002 q 0 0,.ptr 1005 l 0 0,.ptr 1006 j 0 0]])],R,⟨.inr R,.inr R,.inr R,.inr R,.inr R,.inr R,.inr R,Za⟩,R,R,AH [],R,R⟩
   refine J0 (λ(x9:Int) (a6:List (Int × Bool)) (a0:List (List RV)) af=>⟨[(4,.ptr 1006 j 0 0),(5,.ptr 5 V 0 0),(105,.r<|.sl<|r5.map<|A3 .i64),(106,rL r5),(107,rI x9)],[(5,some<|.box V 133<|FW v1),(1000,some<|.box m 94 [.mref 1001 A]),(1001,some<|.md A<|AN RV.bool a6),(1002,some<|.box q 134 [.fn 99 [.ptr 1003 w 0 0]]),(1003,some<|.box w 121 [.yld 1004 B]),(1004,some<|.cal B F a0),(1005,some<|.box l 24 [qb E.Nodes]),(1006,some<|.box j 134 [.fn 131 [.ptr 1000 m 0 0,.ptr 1002 q 0 0,.ptr 1005 l 0 0,.ptr 1006 j 0 0]])],(af 0),121⟩) (AH [(ae 0)]) az wk ?_
   intro x9 a6 a0 af v2 bw b0
   have b1:Td A1 E v1 self r5 x9 a6 a0=some v2:=bw;unfold Td at b1
   refine aU<|xS R<|aZ<|aT λbx=>cI R b1 (λag=>?_) λag=>?_
   ·refine Zc<|bx _<|aT λbz=>Ze<|aU<|AG ag λah b2 c0=>xI CU R b2<|xV (.int .i64 ah) AJ R<|mA R<|aZ<|aT λc1=>aR<|sQ R (Aa (a:=.fn 131 [.ptr 1000 m 0 0,.ptr 1002 q 0 0,.ptr 1005 l 0 0,.ptr 1006 j 0 0]) R PT iL R R)<|mM R<|lF KX AJ R R<|lF Uy Ms R R ?_
    refine sQ R (Bj R RS (q:=[(0,_),(1,_),(2,_)]) (by exact⟨R,R,R,iL,R,R,R,iL,R,R,R,iL,Za⟩) (cs:=[rI ah,rI v1.id,rB v1.visible])<|by rfl) ?_
    refine Mx c0 λr6 w3 w4 c3 c5=>?_
    refine ZA [1000,1001,1002,1003,1004,1005,1006] (hc:=[(1000,some<|.box m 94 [.mref 1001 A]),(1001,some<|.md A<|AN RV.bool a6),(1002,some<|.box q 134 [.fn 99 [.ptr 1003 w 0 0]]),(1003,some<|.box w 121 [.yld 1004 B]),(1004,some<|.cal B F a0),(1005,some<|.box l 24 [qb E.Nodes]),(1006,some<|.box j 134 [.fn 131 [.ptr 1000 m 0 0,.ptr 1002 q 0 0,.ptr 1005 l 0 0,.ptr 1006 j 0 0]])]) (bs:=[.agg [rI ah,rI v1.id,rB v1.visible]]) (caps:=[.ptr 1000 m 0 0,.ptr 1002 q 0 0,.ptr 1005 l 0 0,.ptr 1006 j 0 0]) R R R R iL R ⟨.inl ⟨iL,R⟩,Za⟩ ⟨R,R,R,R,R,R,R,R,R,R,R,R,R,R,R,R,R,R,R,R,R,Za⟩ (by decide) (X c3 hW) ?_
    intro cz n2
    refine BV [4,5,16,105,106,107,108,109,110,111,112,113,114,115,116,117,118] [5,1000,1001,1002,1003,1004,1005,1006] ?_
    refine sQ R (BD R iL)<|aZ<|c1 _<|cI R c5 (λai=>?_) λai=>?_
    ·refine aT λc8=>aG [] [1000,1001,1002,1003,1004,1005,1006] ?_
     refine aR<|mA R<|oZ c8 ?_
     exact Zi<|CE.mk (s':=⟨[(6,rB false)],[(1000,some<|.box m 94 [.mref 1001 A]),(1001,some<|.md A<|AN RV.bool w3),(1002,some<|.box q 134 [.fn 99 [.ptr 1003 w 0 0]]),(1003,some<|.box w 121 [.yld 1004 B]),(1004,some<|.cal B F w4),(1005,some<|.box l 24 [qb E.Nodes]),(1006,some<|.box j 134 [.fn 131 [.ptr 1000 m 0 0,.ptr 1002 q 0 0,.ptr 1005 l 0 0,.ptr 1006 j 0 0]])],n2,121⟩) wk<|CP (λ(r:Bool × (List<|Int × Bool) × (List<|List RV)) Z h'=>∃(i:Nat→Nat),Z=rB r.1∧h'=[(1000,some<|.box m 94 [.mref 1001 A]),(1001,some<|.md A<|AN RV.bool r.2.1),(1002,some<|.box q 134 [.fn 99 [.ptr 1003 w 0 0]]),(1003,some<|.box w 121 [.yld 1004 B]),(1004,some<|.cal B F r.2.2),(1005,some<|.box l 24 [qb E.Nodes]),(1006,some<|.box j 134 [.fn 131 [.ptr 1000 m 0 0,.ptr 1002 q 0 0,.ptr 1005 l 0 0,.ptr 1006 j 0 0]])]) (bu _<|xH b0 ai)<|by exact⟨rB false,[(1000,some<|.box m 94 [.mref 1001 A]),(1001,some<|.md A<|AN RV.bool w3),(1002,some<|.box q 134 [.fn 99 [.ptr 1003 w 0 0]]),(1003,some<|.box w 121 [.yld 1004 B]),(1004,some<|.cal B F w4),(1005,some<|.box l 24 [qb E.Nodes]),(1006,some<|.box j 134 [.fn 131 [.ptr 1000 m 0 0,.ptr 1002 q 0 0,.ptr 1005 l 0 0,.ptr 1006 j 0 0]])],R,⟨.inr R,.inr R,.inr R,.inr R,.inr R,.inr R,.inr R,Za⟩,R,R,AH [],R,R⟩
    refine Zc<|bz _<|aG [4,5,105,106,107] [5,1000,1001,1002,1003,1004,1005,1006] ?_
    exact aR<|AG ai λd0 b3 c9=>xA R b3<|mM R<|Zh<|F9.mk c9 (AH [n2]) wk
   exact Zm<|ay _ _ wk<|J3 _ _ (AH [(af 0)])<|xH b0 ag
  refine J0 (λ(x6:Int) (m7:List (Int × Bool)) (a7:List (List RV)) i9=>⟨[(3,.ptr 1005 l 0 0),(4,.ptr 1006 j 0 0),(5,.ptr 5 V 0 0),(9,.ptr 9 n1 0 0),(60,qc J.Grid.Cells),(61,rL J.Grid.Cells),(62,rI x6)],[(5,some<|.box V 133<|FW v1),(9,some<|.box n1 54<|Af J),(1000,some<|.box m 94 [.mref 1001 A]),(1001,some<|.md A<|AN RV.bool m7),(1002,some<|.box q 134 [.fn 99 [.ptr 1003 w 0 0]]),(1003,some<|.box w 121 [.yld 1004 B]),(1004,some<|.cal B F a7),(1005,some<|.box l 24 [qb E.Nodes]),(1006,some<|.box j 134 [.fn 131 [.ptr 1000 m 0 0,.ptr 1002 q 0 0,.ptr 1005 l 0 0,.ptr 1006 j 0 0]])],(i9 0),121⟩) (AH [(i6 0)]) ax wk ?_
  intro x6 m7 a7 i9 v3 ca b4
  have b5:Uj A1 E v1 self J x6 m7 a7=some v3:=ca;unfold Uj at b5
  refine aU<|xS R<|aZ<|aT λcb=>cI R b5 (λaj=>?_) λaj=>?_
  ·refine Zc<|cb _<|aT λcc=>Ze<|aU<|AG aj λC b6 cd=>xI B8 R b6<|xB ((Be C)) Er R<|sS R (BH (cs:=Hw) 13 R Iq R R)<|Zl R R (A4 (ds:=(Be C)) R IN iL R iL R R R R)<|aZ<|aU<|sQ R (fB R EH iL fR R)<|sQ R (IO (ds:=(CG J.Grid)) R HV iL R R R)<|lF Ei AJ R R<|lF FA AJ R R<|AG cd λI cf cg=>sS R (BJ (r:=.agg<|BA I) (caps:=[]) (bs:=[.agg<|CG J.Grid,rI C.Row,rI C.Col]) R iL R ⟨.inl ⟨iL,R⟩,.inl ⟨iL,R⟩,.inl ⟨iL,R⟩,Za⟩ λ_=>kH<|cf)<|sS R (BH (cs:=Fr) 14 R H0 R R)<|Zl R R (A4 (ds:=(BA I)) R HL iL R iL R R R R)<|aZ<|aS λch cj ab=>aG [3,4,5,9,13,14,60,61,62] [5,9,13,14,1000,1001,1002,1003,1004,1005,1006] ?_
   refine aR<|lF EA AJ R R<|xU R<|mM R<|vQ R (Aa (a:=.fn 131 [.ptr 1000 m 0 0,.ptr 1002 q 0 0,.ptr 1005 l 0 0,.ptr 1006 j 0 0]) R PT iL R R)<|vF EA AJ R R<|vF KX AJ R R<|vF Uy Ms R R<|vQ R (AK R<|iR R)<|wQ R (fB R Ct iL fR R)<|wQ R (Aa (a:=rI I.Row) R AJ (iR R) R R)<|wQ R (fB R Ei iL fR R)<|wQ R (Aa (a:=rI C.Row) R AJ (iR R) R R)<|wQ R (A9 R (iR R)<|iR R)<|vQ R (Bb R (iR R)<|iR R)<|vQ R (AK R<|iR R)<|wQ R (fB R DW iL fR R)<|wQ R (Aa (a:=rI I.Col) R AJ (iR R) R R)<|wQ R (fB R FA iL fR R)<|wQ R (Aa (a:=rI C.Col) R AJ (iR R) R R)<|wQ R (A9 R (iR R)<|iR R)<|vQ R (Bb R (iR R)<|iR R) ?_
   refine vQ R (Bj R RS (q:=[(0,_),(1,_),(2,_)]) (by exact⟨R,R,R,(iR R),R,R,R,(iR R),R,R,R,(iR R),Za⟩) (cs:=[rI C.Ref,rI v1.id,rB<|((v1.visible&&(I.Row=C.Row))&&(I.Col=C.Col))])<|by rfl) ?_
   refine pL cg λp1 b7 ck=>?_
   have J4:∀(ak:Bool) (a2:List (Int × Bool)) (T:List (List RV)) (a8:NN),p1=(ak,a2,T)→ch ⟨[(3,.ptr 1005 l 0 0),(4,.ptr 1006 j 0 0),(5,.ptr 5 V 0 0),(9,.ptr 9 n1 0 0),(60,qc J.Grid.Cells),(61,rL J.Grid.Cells),(62,rI x6),(101,rB ak)],[(5,some<|.box V 133<|FW v1),(9,some<|.box n1 54<|Af J),(1000,some<|.box m 94 [.mref 1001 A]),(1001,some<|.md A<|AN RV.bool a2),(1002,some<|.box q 134 [.fn 99 [.ptr 1003 w 0 0]]),(1003,some<|.box w 121 [.yld 1004 B]),(1004,some<|.cal B F T),(1005,some<|.box l 24 [qb E.Nodes]),(1006,some<|.box j 134 [.fn 131 [.ptr 1000 m 0 0,.ptr 1002 q 0 0,.ptr 1005 l 0 0,.ptr 1006 j 0 0]])],(a8 0),121⟩:=by
    intro ak a2 T a8 e
    have cl:=ck _ _ _ e
    refine cj _<|cI R cl (λal=>?_) λal=>?_
    ·refine aU<|mA R<|aZ ?_
     exact Zi<|CE.mk (s':=⟨[(6,rB false)],[(1000,some<|.box m 94 [.mref 1001 A]),(1001,some<|.md A<|AN RV.bool a2),(1002,some<|.box q 134 [.fn 99 [.ptr 1003 w 0 0]]),(1003,some<|.box w 121 [.yld 1004 B]),(1004,some<|.cal B F T),(1005,some<|.box l 24 [qb E.Nodes]),(1006,some<|.box j 134 [.fn 131 [.ptr 1000 m 0 0,.ptr 1002 q 0 0,.ptr 1005 l 0 0,.ptr 1006 j 0 0]])],(a8 0),121⟩) wk<|CP (λ(r:Bool × (List<|Int × Bool) × (List<|List RV)) Z h'=>∃(i:Nat→Nat),Z=rB r.1∧h'=[(1000,some<|.box m 94 [.mref 1001 A]),(1001,some<|.md A<|AN RV.bool r.2.1),(1002,some<|.box q 134 [.fn 99 [.ptr 1003 w 0 0]]),(1003,some<|.box w 121 [.yld 1004 B]),(1004,some<|.cal B F r.2.2),(1005,some<|.box l 24 [qb E.Nodes]),(1006,some<|.box j 134 [.fn 131 [.ptr 1000 m 0 0,.ptr 1002 q 0 0,.ptr 1005 l 0 0,.ptr 1006 j 0 0]])]) (bp _<|xH b4 al)<|by exact⟨rB false,[(1000,some<|.box m 94 [.mref 1001 A]),(1001,some<|.md A<|AN RV.bool a2),(1002,some<|.box q 134 [.fn 99 [.ptr 1003 w 0 0]]),(1003,some<|.box w 121 [.yld 1004 B]),(1004,some<|.cal B F T),(1005,some<|.box l 24 [qb E.Nodes]),(1006,some<|.box j 134 [.fn 131 [.ptr 1000 m 0 0,.ptr 1002 q 0 0,.ptr 1005 l 0 0,.ptr 1006 j 0 0]])],R,⟨.inr R,.inr R,.inr R,.inr R,.inr R,.inr R,.inr R,Za⟩,R,R,AH [],R,R⟩
    exact Zc<|cc _<|aR<|AG al λd1 b8 cm=>xA R b8<|mM R<|Zh<|F9.mk cm (AH [(a8 0)]) wk
   refine AX.split ((!(C.Ref=0))==true) (λU=>?_) λU=>?_
   ·have an:=DN U b7
    refine ZJ (by exact Ht (e':=[(3,.ptr 1005 l 0 0),(4,.ptr 1006 j 0 0),(5,.ptr 5 V 0 0),(9,.ptr 9 n1 0 0),(13,.ptr 13 (i9 0) 0 0),(14,.ptr 14 ((i9 0)+1) 0 0),(60,qc J.Grid.Cells),(61,rL J.Grid.Cells),(62,rI x6),(73,.ptr 13 (i9 0) 0 3),(74,rI C.Ref),(75,rB<|(!(C.Ref=0))),(76,rB<|(!(C.Ref=0))),(77,.fn 131 [.ptr 1000 m 0 0,.ptr 1002 q 0 0,.ptr 1005 l 0 0,.ptr 1006 j 0 0]),(78,.ptr 13 (i9 0) 0 3),(79,rI C.Ref),(80,.ptr 5 V 0 0),(81,rI v1.id),(82,.ptr 5 V 0 2),(83,rB v1.visible),(84,rB v1.visible),(85,.whn (v1.visible==true)<|.ptr 14 ((i9 0)+1) 0 0),(86,.whn (v1.visible==true)<|rI I.Row),(87,.whn (v1.visible==true)<|.ptr 13 (i9 0) 0 0),(88,.whn (v1.visible==true)<|rI C.Row),(89,.whn (v1.visible==true)<|rB<|(decide<|I.Row=C.Row)),(90,rB<|(v1.visible&&(I.Row=C.Row))),(91,rB<|(v1.visible&&(I.Row=C.Row))),(92,.whn ((v1.visible&&(I.Row=C.Row))==true)<|.ptr 14 ((i9 0)+1) 0 1),(93,.whn ((v1.visible&&(I.Row=C.Row))==true)<|rI I.Col),(94,.whn ((v1.visible&&(I.Row=C.Row))==true)<|.ptr 13 (i9 0) 0 1),(95,.whn ((v1.visible&&(I.Row=C.Row))==true)<|rI C.Col),(96,.whn ((v1.visible&&(I.Row=C.Row))==true)<|rB<|(decide<|I.Col=C.Col)),(97,rB<|((v1.visible&&(I.Row=C.Row))&&(I.Col=C.Col))),(98,.agg [rI C.Ref,rI v1.id,rB<|((v1.visible&&(I.Row=C.Row))&&(I.Col=C.Col))])]) U ⟨.inl R,.inl R,.inl R,.inl R,.inl R,.inl R,.inl R,.inl R,.inl R,.inl R,.inl R,.inl R,.inl R,.inr iL,.inr iL,.inr iL,.inr iL,.inr iL,.inr iL,.inr iL,.inr iL,.inr<|.inr<|.inl ⟨_,_,R,R⟩,.inr<|.inr<|.inl ⟨_,_,R,R⟩,.inr<|.inr<|.inl ⟨_,_,R,R⟩,.inr<|.inr<|.inl ⟨_,_,R,R⟩,.inr<|.inr<|.inl ⟨_,_,R,R⟩,.inr iL,.inr iL,.inr<|.inr<|.inl ⟨_,_,R,R⟩,.inr<|.inr<|.inl ⟨_,_,R,R⟩,.inr<|.inr<|.inl ⟨_,_,R,R⟩,.inr<|.inr<|.inl ⟨_,_,R,R⟩,.inr<|.inr<|.inl ⟨_,_,R,R⟩,.inr iL,.inr iL,Za⟩) ?_
    refine Mx an λr8 w5 w6 cn cp=>?_
    refine ZX (.one R R R) U [1000,1001,1002,1003,1004,1005,1006] (hc:=[(1000,some<|.box m 94 [.mref 1001 A]),(1001,some<|.md A<|AN RV.bool m7),(1002,some<|.box q 134 [.fn 99 [.ptr 1003 w 0 0]]),(1003,some<|.box w 121 [.yld 1004 B]),(1004,some<|.cal B F a7),(1005,some<|.box l 24 [qb E.Nodes]),(1006,some<|.box j 134 [.fn 131 [.ptr 1000 m 0 0,.ptr 1002 q 0 0,.ptr 1005 l 0 0,.ptr 1006 j 0 0]])]) (bs:=[.agg [rI C.Ref,rI v1.id,rB<|((v1.visible&&(I.Row=C.Row))&&(I.Col=C.Col))]]) (caps:=[.ptr 1000 m 0 0,.ptr 1002 q 0 0,.ptr 1005 l 0 0,.ptr 1006 j 0 0]) R R R iL R ⟨.inl ⟨iL,R⟩,Za⟩ ⟨R,R,R,R,R,R,R,R,R,R,R,R,R,R,R,R,R,R,R,R,R,Za⟩ (by decide) (X cn hW) ?_
    intro d2 n3
    refine BV [3,4,5,9,13,14,60,61,62,73,74,75,76,77,78,79,80,81,82,83,84,90,91,97,98,99] [5,9,13,14,1000,1001,1002,1003,1004,1005,1006] ?_
    exact ZN (.one R R R) U R R (B2 (BD R<|.inl R) _)<|sQ R (Bb R iL iL)<|Zh<|ab _ _ wk<|J4 _ _ _ (AH [n3]) (Zf cp).symm
   ·have an:=DH U b7
    exact Zy (.one R R R) U R R<|Zy (.one R R R) U R R<|xN R<|Zh<|ab _ _ wk<|J4 _ _ _ (AH [((i9 0)+2)]) (Zf an).symm
  exact Zm<|aw _ _ wk<|J2 _ _ (AH [(i9 0)])<|xH b4 aj
 refine J0 (λ(x3:Int) (m3:List (Int × Bool)) (aa:List (List RV)) i4=>⟨[(3,.ptr 1005 l 0 0),(4,.ptr 1006 j 0 0),(5,.ptr 5 V 0 0),(9,.ptr 9 n1 0 0),(42,.r<|.sl<|r4.map<|A3 .i64),(43,rL r4),(44,rI x3)],[(5,some<|.box V 133<|FW v1),(9,some<|.box n1 54<|Af J),(1000,some<|.box m 94 [.mref 1001 A]),(1001,some<|.md A<|AN RV.bool m3),(1002,some<|.box q 134 [.fn 99 [.ptr 1003 w 0 0]]),(1003,some<|.box w 121 [.yld 1004 B]),(1004,some<|.cal B F aa),(1005,some<|.box l 24 [qb E.Nodes]),(1006,some<|.box j 134 [.fn 131 [.ptr 1000 m 0 0,.ptr 1002 q 0 0,.ptr 1005 l 0 0,.ptr 1006 j 0 0]])],(i4 0),121⟩) (AH [(n1+1)]) av wk ?_
 intro x3 m3 aa i4 v4 cq b9
 have ba:U3 A1 E v1 self r4 x3 m3 aa=some v4:=cq;unfold U3 at ba
 refine aU<|xS R<|aZ<|aT λcr=>cI R ba (λao=>?_) λao=>?_
 ·refine Zc<|cr _<|aT λcs=>Ze<|aU<|AG ao λaq bb ct=>xI CU R bb<|xV (.int .i64 aq) AJ R<|mA R<|aZ<|aT λcu=>aR<|sQ R (Aa (a:=.fn 131 [.ptr 1000 m 0 0,.ptr 1002 q 0 0,.ptr 1005 l 0 0,.ptr 1006 j 0 0]) R PT iL R R)<|mM R<|lF KX AJ R R<|lF Uy Ms R R ?_
  refine sQ R (Bj R RS (q:=[(0,_),(1,_),(2,_)]) (by exact⟨R,R,R,iL,R,R,R,iL,R,R,R,iL,Za⟩) (cs:=[rI aq,rI v1.id,rB v1.visible])<|by rfl) ?_
  refine Mx ct λr9 w7 w8 cv cw=>?_
  refine ZA [1000,1001,1002,1003,1004,1005,1006] (hc:=[(1000,some<|.box m 94 [.mref 1001 A]),(1001,some<|.md A<|AN RV.bool m3),(1002,some<|.box q 134 [.fn 99 [.ptr 1003 w 0 0]]),(1003,some<|.box w 121 [.yld 1004 B]),(1004,some<|.cal B F aa),(1005,some<|.box l 24 [qb E.Nodes]),(1006,some<|.box j 134 [.fn 131 [.ptr 1000 m 0 0,.ptr 1002 q 0 0,.ptr 1005 l 0 0,.ptr 1006 j 0 0]])]) (bs:=[.agg [rI aq,rI v1.id,rB v1.visible]]) (caps:=[.ptr 1000 m 0 0,.ptr 1002 q 0 0,.ptr 1005 l 0 0,.ptr 1006 j 0 0]) R R R R iL R ⟨.inl ⟨iL,R⟩,Za⟩ ⟨R,R,R,R,R,R,R,R,R,R,R,R,R,R,R,R,R,R,R,R,R,Za⟩ (by decide) (X cv hW) ?_
  intro d3 n4
  refine BV [3,4,5,9,11,42,43,44,45,46,47,48,49,50,51,52,53,54,55] [5,9,1000,1001,1002,1003,1004,1005,1006] ?_
  refine sQ R (BD R iL)<|aZ<|cu _<|cI R cw (λar=>?_) λar=>?_
  ·refine aT λcx=>aG [] [1000,1001,1002,1003,1004,1005,1006] ?_
   refine aR<|mA R<|oZ cx ?_
   exact Zi<|CE.mk (s':=⟨[(6,rB false)],[(1000,some<|.box m 94 [.mref 1001 A]),(1001,some<|.md A<|AN RV.bool w7),(1002,some<|.box q 134 [.fn 99 [.ptr 1003 w 0 0]]),(1003,some<|.box w 121 [.yld 1004 B]),(1004,some<|.cal B F w8),(1005,some<|.box l 24 [qb E.Nodes]),(1006,some<|.box j 134 [.fn 131 [.ptr 1000 m 0 0,.ptr 1002 q 0 0,.ptr 1005 l 0 0,.ptr 1006 j 0 0]])],n4,121⟩) wk<|CP (λ(r:Bool × (List<|Int × Bool) × (List<|List RV)) Z h'=>∃(i:Nat→Nat),Z=rB r.1∧h'=[(1000,some<|.box m 94 [.mref 1001 A]),(1001,some<|.md A<|AN RV.bool r.2.1),(1002,some<|.box q 134 [.fn 99 [.ptr 1003 w 0 0]]),(1003,some<|.box w 121 [.yld 1004 B]),(1004,some<|.cal B F r.2.2),(1005,some<|.box l 24 [qb E.Nodes]),(1006,some<|.box j 134 [.fn 131 [.ptr 1000 m 0 0,.ptr 1002 q 0 0,.ptr 1005 l 0 0,.ptr 1006 j 0 0]])]) (bl _<|xH b9 ar)<|by exact⟨rB false,[(1000,some<|.box m 94 [.mref 1001 A]),(1001,some<|.md A<|AN RV.bool w7),(1002,some<|.box q 134 [.fn 99 [.ptr 1003 w 0 0]]),(1003,some<|.box w 121 [.yld 1004 B]),(1004,some<|.cal B F w8),(1005,some<|.box l 24 [qb E.Nodes]),(1006,some<|.box j 134 [.fn 131 [.ptr 1000 m 0 0,.ptr 1002 q 0 0,.ptr 1005 l 0 0,.ptr 1006 j 0 0]])],R,⟨.inr R,.inr R,.inr R,.inr R,.inr R,.inr R,.inr R,Za⟩,R,R,AH [],R,R⟩
  refine Zc<|cs _<|aG [3,4,5,9,42,43,44] [5,9,1000,1001,1002,1003,1004,1005,1006] ?_
  exact aR<|AG ar λd4 bc cy=>xA R bc<|mM R<|Zh<|F9.mk cy (AH [n4]) wk
 exact Zm<|au _ _ wk<|J1 _ _ (AH [(i4 0)])<|xH b9 ao
theorem gR(n:Nat):∀ {F:List (List RV)→Option Bool} {I:List (Int × Bool)} {C:List (List RV)} {E:AP} {v1:Aw} {r:Bool × (List<|Int × Bool) × (List<|List RV)} {j:Nat} {w:Nat} {l:Nat} {A:Nat} {B:Nat} {m:Nat} {q:Nat} {J:Et},HX n F I C E v1=some r→(J.P=prog∧J.A=F)→BC prog 131 7 [.agg<|FW v1,.ptr 1000 j 0 0,.ptr 1002 l 0 0,.ptr 1005 m 0 0,.ptr 1006 q 0 0] [(1000,some<|.box j 94 [.mref 1001 w]),(1001,some<|.md w<|AN RV.bool I),(1002,some<|.box l 134 [.fn 99 [.ptr 1003 A 0 0]]),(1003,some<|.box A 121 [.yld 1004 B]),(1004,some<|.cal B J C),(1005,some<|.box m 24 [qb E.Nodes]),(1006,some<|.box q 134 [.fn 131 [.ptr 1000 j 0 0,.ptr 1002 l 0 0,.ptr 1005 m 0 0,.ptr 1006 q 0 0]])] (λM h'=>∃(i:Nat→Nat),M=rB r.1∧h'=[(1000,some<|.box j 94 [.mref 1001 w]),(1001,some<|.md w<|AN RV.bool r.2.1),(1002,some<|.box l 134 [.fn 99 [.ptr 1003 A 0 0]]),(1003,some<|.box A 121 [.yld 1004 B]),(1004,some<|.cal B J r.2.2),(1005,some<|.box m 24 [qb E.Nodes]),(1006,some<|.box q 134 [.fn 131 [.ptr 1000 j 0 0,.ptr 1002 l 0 0,.ptr 1005 m 0 0,.ptr 1006 q 0 0]])]):=by
 induction n with
 | zero=>intro F I C E v1 r j w l A B m q J h;exact absurd (show(none:Option (Bool × (List<|Int × Bool) × (List<|List RV)))=some r from h)<|by simp
 | succ n O=>intro F I C E v1 r j w l A B m q J h T;exact eU (self:=λF I C E v1=>HX n F I C E v1) (λU V=>O U V) h T
theorem ix{I:List (List RV)→Option Bool}{J:List (Int × Bool)}{C:List (List RV)}{E:AP}{v1:Aw}{r:Bool × (List<|Int × Bool) × (List<|List RV)}{j:Nat}{w:Nat}{l:Nat}{A:Nat}{B:Nat}{m:Nat}{q:Nat}{F:Et}(h:P6 I J C E v1=some r)(O:F.P=prog∧F.A=I):BC prog 131 7 [.agg<|FW v1,.ptr 1000 j 0 0,.ptr 1002 l 0 0,.ptr 1005 m 0 0,.ptr 1006 q 0 0] [(1000,some<|.box j 94 [.mref 1001 w]),(1001,some<|.md w<|AN RV.bool J),(1002,some<|.box l 134 [.fn 99 [.ptr 1003 A 0 0]]),(1003,some<|.box A 121 [.yld 1004 B]),(1004,some<|.cal B F C),(1005,some<|.box m 24 [qb E.Nodes]),(1006,some<|.box q 134 [.fn 131 [.ptr 1000 j 0 0,.ptr 1002 l 0 0,.ptr 1005 m 0 0,.ptr 1006 q 0 0]])] (λT h'=>∃(i:Nat→Nat),T=rB r.1∧h'=[(1000,some<|.box j 94 [.mref 1001 w]),(1001,some<|.md w<|AN RV.bool r.2.1),(1002,some<|.box l 134 [.fn 99 [.ptr 1003 A 0 0]]),(1003,some<|.box A 121 [.yld 1004 B]),(1004,some<|.cal B F r.2.2),(1005,some<|.box m 24 [qb E.Nodes]),(1006,some<|.box q 134 [.fn 131 [.ptr 1000 j 0 0,.ptr 1002 l 0 0,.ptr 1005 m 0 0,.ptr 1006 q 0 0]])]):=by
 unfold P6 at h
 by_cases M:∃n r,HX n I J C E v1=some r
 ·rw[uB M] at h;exact gR _ h O
 ·rw[dif_neg M] at h;cases h
theorem iU{C:List (List RV)→Option Bool}{w:List (List RV)}{d1:AP}{r:(List<|List RV)}{l:Nat}{j:Nat}{q:Et}(h:NH C w d1=some r)(F:q.P=prog∧q.A=C):BC prog 98 2 [.agg [qb d1.Nodes],.fn 99 [.ptr 1000 l 0 0]] [(1000,some<|.box l 121 [.yld 1001 j]),(1001,some<|.cal j q w)] (λA h'=>∃(i:Nat→Nat),A=.tup []∧h'=[(1000,some<|.box l 121 [.yld 1001 j]),(1001,some<|.cal j q r)]):=by
 unfold NH at h
 refine Dx func98 R R ntmps98 (Zr R) λm=>aU<|sS R (At (cs:=[qb d1.Nodes]) 2 R iL R R)<|sS R (At (cs:=[.fn 99 [.ptr 1000 l 0 0]]) 3 R iL R R)<|aZ<|aU<|sS R (R1 RV.bool 6 R)<|sS R (BH (cs:=[.cst<|.map none]) 4 R WR R R)<|Zl R R (A4 (ds:=[.mref 6<|m+2]) R VT iL R iL R R R R)<|aZ<|aU<|sS R (BH (cs:=[.cst<|.nilFunc]) 5 R o9 R R)<|aZ<|aT λI=>aR ?_
 refine sQ R (Jj (bs:=[.ptr 4 (m+3) 0 0,.ptr 3 (m+1) 0 0,.ptr 2 m 0 0,.ptr 5 (m+4) 0 0]) R<|by exact⟨iL,iL,iL,iL,Za⟩) ?_
 refine Zl R R (A4 (ds:=[.fn 131 [.ptr 4 (m+3) 0 0,.ptr 3 (m+1) 0 0,.ptr 2 m 0 0,.ptr 5 (m+4) 0 0]]) R ph iL R iL R R R R)<|aZ<|I _<|aR<|sQ R (Aa (a:=.fn 131 [.ptr 4 (m+3) 0 0,.ptr 3 (m+1) 0 0,.ptr 2 m 0 0,.ptr 5 (m+4) 0 0]) R PT iL R R) ?_
 refine sQ R (Bj R RS (q:=[(0,_),(1,_),(2,_)]) (by exact⟨R,R,R,iL,R,R,R,iL,R,R,R,iL,Za⟩) (cs:=[rI 1,rI 0,rB true])<|by rfl) ?_
 refine Mx h λO T E B J=>?_
 refine ZA [4,6,3,1000,1001,2,5] (hc:=[(1000,some<|.box (m+3) 94 [.mref 1001<|m+2]),(1001,some<|.md (m+2)<|AN RV.bool ([]:List (Int × Bool))),(1002,some<|.box (m+1) 134 [.fn 99 [.ptr 1003 l 0 0]]),(1003,some<|.box l 121 [.yld 1004 j]),(1004,some<|.cal j q w),(1005,some<|.box m 24 [qb d1.Nodes]),(1006,some<|.box (m+4) 134 [.fn 131 [.ptr 1000 (m+3) 0 0,.ptr 1002 (m+1) 0 0,.ptr 1005 m 0 0,.ptr 1006 (m+4) 0 0]])]) (bs:=[.agg [rI 1,rI 0,rB true]]) (caps:=[.ptr 1000 (m+3) 0 0,.ptr 1002 (m+1) 0 0,.ptr 1005 m 0 0,.ptr 1006 (m+4) 0 0]) R R R R iL R ⟨.inl ⟨iL,R⟩,Za⟩ ⟨R,R,R,R,R,R,R,R,R,R,R,R,R,R,R,R,R,R,R,R,R,Za⟩ (by decide) (ix B F) ?_
 intro U M
 refine BV [0,1,2,3,4,5,6,7,8,9,10] [2,3,4,5,6,1000,1001] ?_
 refine Zh ?_
 exact CE.mk (s':=⟨[],[(1000,some<|.box l 121 [.yld 1001 j]),(1001,some<|.cal j q E)],M,11⟩) wk<|CP (λ(r:(List<|List RV)) A h'=>∃(i:Nat→Nat),A=.tup []∧h'=[(1000,some<|.box l 121 [.yld 1001 j]),(1001,some<|.cal j q r)]) J<|by exact⟨.tup [],[(1000,some<|.box l 121 [.yld 1001 j]),(1001,some<|.cal j q E)],⟨_,R,Za⟩,⟨.inr R,.inr R,Za⟩,R,R,AH [],R,R⟩
theorem o8{I:List (List RV)→Option Bool}{m:List (List RV)}{w:AP}{r:(List<|List RV)}{j:Nat}{l:Nat}{q:Et}(h:IM I m w=some r)(M:q.P=prog∧q.A=I):BC prog 97 2 [.yld 1000 j,.ptr 1001 l 0 0] [(1000,some<|.cal j q m),(1001,some<|.box l 24 [qb w.Nodes])] (λA h'=>∃(i:Nat→Nat),A=.tup []∧h'=[(1000,some<|.cal j q r),(1001,some<|.box l 24 [qb w.Nodes])]):=by
 unfold IM at h
 refine Dx func97 R R ntmps97 (Zr R) λB=>aU<|sS R (At (cs:=[.yld 1000 j]) 2 R iL R R)<|aZ<|aT λO=>aU<|xC Bs R<|AG h λX C T=>cL (Pz<|C) R<|xU R<|aZ<|cI R T (λE=>?_) λE=>?_
 ·exact Zi<|CE.mk (s':=⟨[],[(1000,some<|.cal j q m),(1001,some<|.box l 24 [qb w.Nodes])],(B+1),9⟩) wk<|CP (λ(r:(List<|List RV)) A h'=>∃(i:Nat→Nat),A=.tup []∧h'=[(1000,some<|.cal j q r),(1001,some<|.box l 24 [qb w.Nodes])]) E<|by exact⟨.tup [],[(1000,some<|.cal j q m),(1001,some<|.box l 24 [qb w.Nodes])],⟨_,R,Za⟩,⟨.inr R,.inr R,Za⟩,R,R,AH [],R,R⟩
 refine Zc<|O _<|aR<|xC Bs R ?_
 refine sQ R (Jj (bs:=[.ptr 2 B 0 0]) R<|by exact⟨iL,Za⟩) ?_
 refine AG E λJ F U=>?_
 refine ZA [2,1000] (hc:=[(1000,some<|.box B 121 [.yld 1001 j]),(1001,some<|.cal j q m)]) (bs:=[.agg [qb w.Nodes],.fn 99 [.ptr 1000 B 0 0]]) (caps:=[]) R R R R iL R ⟨.inl ⟨iL,R⟩,.inl ⟨iL,R⟩,Za⟩ ⟨R,R,R,R,R,R,Za⟩ (by decide) (iU F M) ?_
 intro Z V
 refine BV [0,1,2,3,4,5,6,7,8] [2,1000,1001] ?_
 refine Zh ?_
 exact CE.mk (s':=⟨[],[(1000,some<|.cal j q J),(1001,some<|.box l 24 [qb w.Nodes])],V,9⟩) wk<|CP (λ(r:(List<|List RV)) A h'=>∃(i:Nat→Nat),A=.tup []∧h'=[(1000,some<|.cal j q r),(1001,some<|.box l 24 [qb w.Nodes])]) U<|by exact⟨.tup [],[(1000,some<|.cal j q J),(1001,some<|.box l 24 [qb w.Nodes])],⟨_,R,Za⟩,⟨.inr R,.inr R,Za⟩,R,R,AH [],R,R⟩
theorem dT{d1 i r}(h:PS d1 i=some r):AR prog 25 [.agg [qb d1.Nodes],rI i] (rI r):=by
 unfold PS at h
 refine mF func25 ntmps25 R λA=>aU<|sS R (At (cs:=[qb d1.Nodes]) 2 R iL R R)<|mA R<|aZ<|aT λm=>aU<|xC Bs R<|mM R<|Ed h λB C j q=>cL (Q2<|j) R<|mM R<|xX R<|xX R<|mA R<|mA R<|aZ<|aT λw=>aF [5,6] ?_
 refine aR<|mM R<|aZ<|w _<|cI R q (λl=>?_) λl=>?_
 ·exact aU<|mM R<|mA R<|aZ<|Zi<|yI l R
 exact Zc<|m _<|zI l R id
theorem VD{d1 r}(h:J9 d1=some r):AR prog 34 [.agg [qb d1.Nodes]] (.agg [qb r.nodes]):=by
 unfold J9 at h
 refine mF func34 ntmps34 R λj=>aU<|sS R (At (cs:=[qb d1.Nodes]) 1 R iL R R)<|sS R (BH (cs:=[cZ]) 2 R X6 R R)<|aZ<|aU<|sS R (BH (cs:=[cZ]) 3 R X6 R R)<|aZ<|aT λc3=>aT λc4=>aR<|xC Bs R<|AG h λF J h1=>?_
 refine ZA [7] (hc:=[]) (bs:=[.agg [qb d1.Nodes]]) (caps:=[]) R R R R iL R ⟨.inl ⟨iL,R⟩,Za⟩ Za (by decide) (cX J) ?_
 intro B q
 refine BV [0,1,2,3,6,7] [1,2,3,7] ?_
 refine aZ<|c4 _<|Ze ?_
 refine AW.weak (s':=⟨[(0,.agg [qb d1.Nodes]),(1,.ptr 1 j 0 0),(2,.ptr 2 (j+1) 0 0),(3,.ptr 3 (j+2) 0 0),(6,.agg [qb d1.Nodes]),(7,.fn 97 [.ptr 7 (B 0) 0 0])],[(1,some<|.box j 24 [qb d1.Nodes]),(2,some<|.box (j+1) 74 [cZ]),(3,some<|.box (j+2) 74 [.own 24 q]),(7,some<|.box (B 0) 24 [qb F.Nodes]),(24,some<|.arr q 54 9<|([]:List AI).map AI.row)],(q+1),27⟩) (Zw (Zw (VN 3 0 24 54 9 (by decide) R R<|by decide)<|by exact AZ.cv (e':=[(0,.agg [qb d1.Nodes]),(1,.ptr 1 j 0 0),(2,.ptr 2 (j+1) 0 0),(3,.ptr 3 (j+2) 0 0),(6,.agg [qb d1.Nodes]),(7,.fn 97 [.ptr 7 (B 0) 0 0])]) (h':=[(1,some<|.box j 24 [qb d1.Nodes]),(2,some<|.box (j+1) 74 [cZ]),(3,some<|.box (j+2) 74 [.own 24 q]),(7,some<|.box (B 0) 24 [qb F.Nodes]),(24,some<|.arr q 54 9<|([]:List AI).map AI.row)]) ⟨jL,jL,jL,jL,jL,jL,Za⟩ ⟨.inl R,.inl R,.inl R,.inl R,.inl R,Za⟩ nL) wk) ?_
 refine AG h1 λb3 M h8=>?_
 refine AW.rng2 (it:=λA=>IM A [] F) (L:=[7]) (hB:=[(1001,some<|.box (B 0) 24 [qb F.Nodes])]) (caps:=[.ptr 1001 (B 0) 0 0]) 0 (λ(I:Dh) m=>[(1,some<|.box j 24 [qb d1.Nodes]),(2,some<|.box (j+1) 74 [cZ]),(3,some<|.box (j+2) 74 [.own 24<|m 0]),(24,some<|.arr (m 0) 54 9<|I.nodes.map AI.row)]) (λm=>(q+2)+(m 1)) (AH [q,0]) M R R (by exact⟨R,R,R,Za⟩) R (by decide) R (by exact⟨.inr R,.inr R,.inr R,.inr R,Za⟩) R (λ_ _=>R) nL (λi=>rX (s8 _)<|Nat.le_add_right _ _) R R ⟨_,func97,R,R⟩ (λW ys hP hi=>⟨_,o8 hi ⟨hP,R⟩,λrr h' ⟨i,e1,e2⟩=>by rw[e2];rfl⟩) ?_ ?_
 ·intro E1 A0 B0 a0 a1 (I) l b2 O m h2
  have h3:Ik d1 I l b2=some O:=h2;unfold Ik at h3
  refine aG [0,1,2,3,6,8,9] [0,1,2,3,24] ?_
  refine aR<|mA R<|Zh<|Zj R<|Sb<|Ze<|aT λc5=>AG h3 λT U h4=>AG h4 λC V h5=>?_
  refine Iw 8 [pO 10<|.ptr 1 j 0 0,pO 11<|qb d1.Nodes,pO 12<|.agg [qb d1.Nodes],pO 13<|rI l,pO 14<|rI T,pO 15<|.rop (AI.row C) 0,pO 16<|.agg<|Af C,⟨some 5,(λE=>.ptr 5 (E 7) 0 0),some (5,(λE=>some<|.box (E 7) 54 De)),[7]⟩] BR (by kernel_rfl) (by exact⟨λ_ _ h=>⟨R,λ_ _ e=>by cases e⟩,λ_ _ h=>⟨R,λ_ _ e=>by cases e⟩,λ_ _ h=>⟨R,λ_ _ e=>by cases e⟩,λ_ _ h=>⟨R,λ_ _ e=>by cases e⟩,λ_ _ h=>⟨R,λ_ _ e=>by cases e⟩,λ_ _ h=>⟨R,λ_ _ e=>by cases e⟩,λ_ _ h=>⟨R,λ_ _ e=>by cases e⟩,λ_ _ h=>⟨by simp only[h 7 R],λ_ _ e=>by cases e;simp only[h 7 R]⟩,Za⟩) R (by exact⟨oB [(1,.ptr 1 j 0 0)] [(1,some<|.box j 24 [qb d1.Nodes])]<|fB R CH (.inl R) (λ_=>R) R,oB [(10,.ptr 1 j 0 0)] [(1,some<|.box j 24 [qb d1.Nodes])]<|Aa (a:=qb d1.Nodes) R B7 (.inl R) R R,oB [(1,.ptr 1 j 0 0)] [(1,some<|.box j 24 [qb d1.Nodes])]<|DG R Bs (.inl R) R R,oB [(4,rI l)] []<|AK R<|.inl R,oD (λ_=>[(12,.agg [qb d1.Nodes]),(13,rI l)]) (λ_=>[]) λE e h' n=>Cw (r:=rI T) (caps:=[]) (bs:=[.agg [qb d1.Nodes],rI l]) R (.inl R) R ⟨⟨_,(.inl R),.g (cs:=[.sl<|d1.Nodes.map AI.row]) R R⟩,⟨_,(.inl R),.d R⟩,Za⟩ (λ_=>dT<|U) R,oB [(11,qb d1.Nodes),(14,rI T)] []<|BB R A8.slice (.inl R) (.inl R) (λ_=>R) λ_=>V,oB [(15,.rop (AI.row C) 0)] []<|Ce (cs:=(Af C)) R Cf (.inl R) R R,oM (λ_=>[]) (λ_=>[]) R λE e h' n=>BH (cs:=De) 5 R GA R R,Za⟩) λE w=>?_
  refine BV [0,1,2,3,4,5,6,8,9,10,11,12,13,14,15,16] [0,1,2,3,5,24] ?_
  refine Zl R R (A4 (ds:=(Af C)) R E8 iL R iL R R R R)<|aZ<|c5 _<|aT λc6=>aG [2,3,5] [0,1,2,3,5,24] ?_
  refine aR<|lF Cd AJ R R<|xQ R<|aZ<|c6 _<|cI R h5 (λX=>?_) λX=>?_
  ·exact aR<|lF S2 B7 R R<|xC Cf R<|sS R (BZ 23 R A8 (f:=AI.row) (l:=([C]:List AI)) ⟨R,⟨_,iL,R⟩,Za⟩ R (λ_=>R) R)<|AG X λl1 Z h7=>sS R (Cs R A8 iL R (.inr<|.inl ⟨_,_,iL,R⟩) Z)<|sQ R (fB R S2 iL fR R)<|Zl R R (A4 (ds:=[.own 24<|w+1]) R YA iL R iL R R R R)<|Zh<|⟨_,(show AZ _ ⟨[],[(0,some<|.lp (q+1) E1 27 [8,9] A0 B0 .busy none),(1,some<|.box j 24 [qb d1.Nodes]),(2,some<|.box (j+1) 74 [cZ]),(3,some<|.box (j+2) 74 [.own 24<|w+1]),(24,some<|.arr (w+1) 54 9<|l1.map AI.row)],(w+2),27⟩ from wk),VH h7 (AH [(w+1),(w+2)]) R<|Nat.le_add_left _ _⟩
  exact Zc<|⟨_,(show AZ _ ⟨[],[(0,some<|.lp (q+1) E1 27 [8,9] A0 B0 .busy none),(1,some<|.box j 24 [qb d1.Nodes]),(2,some<|.box (j+1) 74 [cZ]),(3,some<|.box (j+2) 74 [.own 24<|m 0]),(24,some<|.arr (m 0) 54 9<|I.nodes.map AI.row)],w,27⟩ from wk),VH X (AH [(m 0),w]) R<|Nat.le_add_left _ _⟩
 intro m
 refine c3 _<|aU<|xC KZ R<|Zl R R (A4 (ds:=[.own 24<|m 0]) R bQ iL R iL R R R R)<|aZ ?_
 exact Zi<|Bz (P:=prog) (λ(r:Dh)=>.agg [qb r.nodes]) h8 iL<|.a KZ R R R<|.agg<|by exact⟨.own R,Za⟩
theorem qH{l n o r}(h:Np l n o=some r):AR prog 63 [.agg [qb l.nodes],rS n,rS o] (.tup [.agg<|Af r.1,rB r.2]):=by
 unfold Np at h
 refine mF func63 ntmps63 R λm=>aU<|sS R (At (cs:=[qb l.nodes]) 3 R iL R R)<|sS R (BH (cs:=De) 6 R GA R R)<|mA R<|aZ<|aS λK2 c2 B=>aU<|lF S2 B7 R R<|xL A8 R<|mM R<|aZ<|Ze<|BM h λo1 q C E=>?_
 have J1:∀(Z:Unit) (i5:NN),o1=.nrm Z→K2 ⟨[(6,.ptr 6 (m+1) 0 0)],[(6,some<|.box (m+1) 54 De)],(i5 0),36⟩:=by
  intro Z i5 e
  have h1:=C _ e
  refine c2 _<|aT λc4=>aR ?_
  refine sQ R (Bj R Jv (q:=[]) (by exact Za) (cs:=De)<|by rfl) ?_
  refine Zl R R (A4 (ds:=De) R E8 iL R iL R R R R)<|mA R<|oZ c4 ?_
  exact Zi<|DC (P:=prog) (λ(r:AI × Bool)=>.agg<|Af r.1) (λ(r:AI × Bool)=>rB r.2) h1 iL (.a Cf R R R<|.agg<|by exact⟨.closed _ R,.closed _ R,.nil,.nil,.closed _ R,.closed _ R,.nil,.nil,.nil,Za⟩)<|.t<|.d R
 refine Zt (λ(F:Int) A=>⟨[(1,rS n),(2,rS o),(6,.ptr 6 (m+1) 0 0),(11,qb l.nodes),(12,rL l.nodes),(13,rI F)],[(6,some<|.box (m+1) 54 De)],(A 0),36⟩) (AH [(m+2)]) q wk ?_
 intro F A v1 I w
 have h2:Gk l n o F=some v1:=I;unfold Gk at h2
 refine aU<|xS R<|aZ<|aT λc6=>cI R h2 (λJ=>?_) λJ=>?_
 ·refine Zc<|c6 _<|aT λc7=>Ze<|aU<|AG J λj M h4=>xI A8 R M<|xB ((Af j)) Cf R<|sS R (BH (cs:=De) 9 R GA R R)<|Zl R R (A4 (ds:=(Af j)) R E8 iL R iL R R R R)<|aZ<|aU<|mM R<|sQ R (Dt R iL iL)<|mM R<|vF Eg Bw R R<|AG h4 λr1 O h5=>vL (λhg=>Jp<|Ad O hg) R<|vM R<|vQ R (Dp R (iR R)<|iR R)<|xN R<|mM R<|vF Eg Bw R R<|AG h5 λr2 T h6=>vL (λhg=>Jp<|Ad T hg) R<|vM R<|vQ R (Dp R (iR R)<|iR R)<|xN R<|aZ<|cI R h6 (λU=>?_) λU=>?_
  ·refine aT λV=>aG [6,9] [6,9] ?_
   exact aR<|xC Cf R<|Zl R R (A4 (ds:=(Af j)) R E8 iL R iL R R R R)<|mA R<|aZ<|V _<|Zi<|DC (P:=prog) (λ(r:AI × Bool)=>.agg<|Af r.1) (λ(r:AI × Bool)=>rB r.2) (E _<|xH w U) iL (.a Cf R R R<|.g (cs:=[.int .i64 j.ID,.int .i64 j.Kind,.sl<|j.Attrs.map AC.row,.sl<|j.Flow.map AL.row,.int .i64 j.Grid.Rows,.int .i64 j.Grid.Cols,.sl<|j.Grid.Cells.map Aj.row,.sl<|j.Grid.Merges.map Ai.row,.sl<|j.Draw.map Ax.row]) R R)<|.t<|.d R
  refine Zc<|c7 _<|aG [1,2,6,11,12,13] [6] ?_
  exact aR<|AG U λx5 X h8=>xA R X<|mM R<|Zh<|Zq h8 (AH [((A 0)+1)]) wk
 exact Zm<|B _ _ wk<|J1 _ (AH [(A 0)])<|xH w J
theorem Zx{l:AI}{m:AI}{r:Bool}{j:Nat}(h:Og l m=some r):BC prog 65 1 [.agg<|Af m,.ptr 1000 j 0 0] [(1000,some<|.box j 54<|Af l)] (λq h'=>∃(i:Nat→Nat),q=rB r∧h'=[(1000,some<|.box j 54<|Af l)]):=by
 unfold Og at h
 refine Dx func65 R R ntmps65 (Zr R) λw=>aU<|sS R (At (cs:=(Af m)) 2 R iL R R)<|mA R<|aZ<|aU<|lF Dk AJ R R<|lF Dk AJ R R<|xQ R<|mA R<|aZ ?_
 exact Zi<|CE.mk (s':=⟨[(3,rB<|(decide<|m.ID=l.ID))],[(1000,some<|.box j 54<|Af l)],(w+1),9⟩) wk<|CP (λ(r:Bool) q h'=>∃(i:Nat→Nat),q=rB r∧h'=[(1000,some<|.box j 54<|Af l)]) h<|by exact⟨rB<|(decide<|m.ID=l.ID),[(1000,some<|.box j 54<|Af l)],R,⟨.inr R,Za⟩,R,R,AH [],R,R⟩
theorem jN{m:List AI}{q:AI}{r:Int}{l:Nat}{j:Nat}(h:Ra m q=some r):BC prog 103 2 [.own 1000 l,.fn 65 [.ptr 1001 j 0 0]] [(1000,some<|.arr l 54 9<|m.map AI.row),(1001,some<|.box j 54<|Af q)] (λw h'=>∃(i:Nat→Nat),w=rI r∧h'=[(1000,some<|.arr l 54 9<|m.map AI.row),(1001,some<|.box j 54<|Af q)]):=by
 unfold Ra at h
 refine Dx func103 R R ntmps103 (Zr R) λn0=>aU<|mA R<|aZ<|aS λK2 c2 F=>aU<|mM R<|sQ R (JL R A8.slice iL R)<|mM R<|aZ<|Ze<|BM h λo1 A I J=>?_
 have J1:∀(u2:Unit) (M:NN),o1=.nrm u2→K2 ⟨[],[(1000,some<|.arr l 54 9<|m.map AI.row),(1001,some<|.box j 54<|Af q)],(M 0),19⟩:=by
  intro u2 M e
  have h1:=I _ e
  refine c2 _<|aU<|mA R<|aZ ?_
  exact Zi<|CE.mk (s':=⟨[(4,rI<|(-1))],[(1000,some<|.arr l 54 9<|m.map AI.row),(1001,some<|.box j 54<|Af q)],(M 0),19⟩) wk<|CP (λ(r:Int) w h'=>∃(i:Nat→Nat),w=rI r∧h'=[(1000,some<|.arr l 54 9<|m.map AI.row),(1001,some<|.box j 54<|Af q)]) h1<|by exact⟨rI<|(-1),[(1000,some<|.arr l 54 9<|m.map AI.row),(1001,some<|.box j 54<|Af q)],R,⟨.inr R,.inr R,Za⟩,R,R,AH [],R,R⟩
 refine Zt (λ(B:Int) O=>⟨[(0,.own 1000 l),(1,.fn 65 [.ptr 1001 j 0 0]),(7,rL m),(8,rI B)],[(1000,some<|.arr l 54 9<|m.map AI.row),(1001,some<|.box j 54<|Af q)],(O 0),19⟩) (AH [n0]) A wk ?_
 intro B O v1 T C
 have h2:MT m q B=some v1:=T;unfold MT at h2
 refine aU<|xS R<|aZ<|aT λc6=>cI R h2 (λU=>?_) λU=>?_
 ·refine Zc<|c6 _<|aT λc7=>Ze<|aU<|mM R<|mA R<|aZ<|aT λc9=>aR<|mM R<|mM R<|mM R<|AG U λx4 E h4=>sQ R (Fs R A8.slice iL R iL λ_=>E)<|sQ R (U4 (cs:=(Af x4)) R Cf iL fR (λ_=>E) R)<|AG h4 λr1 V h5=>?_
  refine ZA [1001] (hc:=[(1000,some<|.box j 54<|Af q)]) (bs:=(IA x4)) (caps:=[.ptr 1000 j 0 0]) R R R R iL R ⟨.inl ⟨iL,R⟩,Za⟩ ⟨R,R,R,Za⟩ (by decide) (Zx V) ?_
  intro i6 n1
  refine BV [0,1,5,7,8,9,10,11,12,13,15,16] [1000,1001] ?_
  refine aZ<|c9 _<|cI R h5 (λX=>?_) λX=>?_
  ·refine aT λZ=>aG [5] [1000,1001] ?_
   refine aR<|mM R<|mA R<|oZ Z ?_
   exact Zi<|CE.mk (s':=⟨[(4,rI B)],[(1000,some<|.arr l 54 9<|m.map AI.row),(1001,some<|.box j 54<|Af q)],n1,19⟩) wk<|CP (λ(r:Int) w h'=>∃(i:Nat→Nat),w=rI r∧h'=[(1000,some<|.arr l 54 9<|m.map AI.row),(1001,some<|.box j 54<|Af q)]) (J _<|xH C X)<|by exact⟨rI B,[(1000,some<|.arr l 54 9<|m.map AI.row),(1001,some<|.box j 54<|Af q)],R,⟨.inr R,.inr R,Za⟩,R,R,AH [],R,R⟩
  exact Zc<|c7 _<|aR<|AG X λx5 a0 h7=>xA R a0<|mM R<|Zh<|Zq h7 (AH [n1]) wk
 exact Zm<|F _ _ wk<|J1 _ (AH [(O 0)])<|xH C U
theorem nc{m:List AI}{q:AI}{r:Bool}{j:Nat}{l:Nat}(h:Pc m q=some r):BC prog 64 2 [.own 1000 j,.fn 65 [.ptr 1001 l 0 0]] [(1000,some<|.arr j 54 9<|m.map AI.row),(1001,some<|.box l 54<|Af q)] (λw h'=>∃(i:Nat→Nat),w=rB r∧h'=[(1000,some<|.arr j 54 9<|m.map AI.row),(1001,some<|.box l 54<|Af q)]):=by
 unfold Pc at h
 refine Dx func64 R R ntmps64 (Zr R) λI=>aU<|mA R<|aZ<|aT λC=>aR<|mM R<|mM R<|AG h λB A E=>?_
 refine ZA [1000,1001] (hc:=[(1000,some<|.arr j 54 9<|m.map AI.row),(1001,some<|.box l 54<|Af q)]) (bs:=[.own 1000 j,.fn 65 [.ptr 1001 l 0 0]]) (caps:=[]) R R R R iL R ⟨.inl ⟨iL,R⟩,.inl ⟨iL,R⟩,Za⟩ ⟨R,R,R,R,R,R,Za⟩ (by decide) (jN A) ?_
 intro J F
 refine BV [0,1,4,5,6,7] [1000,1001] ?_
 refine sQ R (Cq R iL iL)<|mA R<|oZ C ?_
 exact Zi<|CE.mk (s':=⟨[(4,rB<|(decide<|0≤B))],[(1000,some<|.arr j 54 9<|m.map AI.row),(1001,some<|.box l 54<|Af q)],F,9⟩) wk<|CP (λ(r:Bool) w h'=>∃(i:Nat→Nat),w=rB r∧h'=[(1000,some<|.arr j 54 9<|m.map AI.row),(1001,some<|.box l 54<|Af q)]) E<|by exact⟨rB<|(decide<|0≤B),[(1000,some<|.arr j 54 9<|m.map AI.row),(1001,some<|.box l 54<|Af q)],R,⟨.inr R,.inr R,Za⟩,R,R,AH [],R,R⟩
theorem Xk{A n o r}(h:Lk A n o=some r):AR prog 35 [.agg [qb A.nodes],rS n,rS o] (qb r):=by
 unfold Lk at h
 refine mF func35 ntmps35 R λw=>aU<|sS R (At (cs:=[qb A.nodes]) 3 R iL R R)<|mA R<|aZ<|aU<|mA R<|aZ<|Ze<|BM h λo1 I a6 T=>?_
 refine ZK (λ(j:List UInt8) (m:List AI) l=>⟨[(1,rS j),(2,rS o),(3,.ptr 3 w 0 0),(7,.own 5007<|l 0)],[(3,some<|.box w 74 [qb A.nodes]),(5007,some<|.arr (l 0) 54 9<|m.map AI.row)],(l 1),32⟩) (AH [(w+1),(w+2)]) I (Zw (Zw (Fd 7 5007 54 9 (by decide) R)<|by exact AZ.cv (e':=[(0,.agg [qb A.nodes]),(1,rS n),(2,rS o),(3,.ptr 3 w 0 0),(6,cZ),(7,.own 5007<|w+1)]) (h':=[(3,some<|.box w 74 [qb A.nodes]),(5007,some<|.arr (w+1) 54 9<|([]:List AI).map AI.row)]) ⟨jL,jL,jL,jL,jL,jL,Za⟩ ⟨.inl R,.inl R,Za⟩ nL) wk) ?_
 intro j m l v1 U V
 have h1:MH A o j m=some v1:=U;unfold MH at h1
 refine Ze<|aU<|xC KZ R<|mM R<|mM R<|Ed h1 λE B X h2=>sS R (BJ (r:=.tup [.agg<|Af E,rB B]) (caps:=[]) (bs:=[.agg [qb A.nodes],rS j,rS o]) R iL R ⟨.inl ⟨iL,R⟩,.inl ⟨iL,R⟩,.inl ⟨iL,R⟩,Za⟩ λ_=>qH<|X)<|mM R<|xX R<|xX R<|sS R (BH (cs:=De) 8 R GA R R)<|Zl R R (A4 (ds:=(Af E)) R E8 iL R iL R R R R)<|mA R<|aZ<|aT λc4=>aS λK5 c5 J=>aR<|mM R<|sQ R (BD R iL)<|mM R<|vM R ?_
 refine vQ R (Jj (bs:=[.ptr 8 (l 1) 0 0]) R<|by exact⟨iL,Za⟩) ?_
 refine BS h2 λp1 M Z=>?_
 have J2:∀(x1:Bool) (O:NN),p1=x1→K5 ⟨[(2,rS o),(3,.ptr 3 w 0 0),(7,.own 5007<|l 0),(8,.ptr 8 (l 1) 0 0),(23,rB x1)],[(3,some<|.box w 74 [qb A.nodes]),(8,some<|.box (l 1) 54<|Af E),(5007,some<|.arr (l 0) 54 9<|m.map AI.row)],(O 0),32⟩:=by
  intro x1 O e
  have h3:=Z _ e
  refine c5 _<|cI R h3 (λh4=>?_) λh4=>?_
  ·exact aU<|mM R<|mA R<|aZ<|Zi<|Bz (P:=prog) (λ(r:(List AI))=>qb r) (T _<|xH V h4) iL<|.t<|.one<|.own R
  exact Zc<|c4 _<|aU<|mM R<|xC Cf R<|sS R (BZ 27 R A8 (f:=AI.row) (l:=([E]:List AI)) ⟨R,⟨_,iL,R⟩,Za⟩ R (λ_=>R) R)<|AG h4 λa2 F h5=>sS R (Cs R A8 iL R (.inr<|.inl ⟨_,_,iL,R⟩) F)<|mA R<|aZ<|aR<|lF Eg Bw R R<|AG h5 λa0 C h6=>cL (Jp<|C) R<|mA R<|Zh<|ZI h6 (AH [((O 0)+1),((O 0)+2)]) wk
 refine AX.split ((!B)==false) (λq=>?_) λq=>?_
 ·have h7:=DN q M
  refine ZJ (by exact Ht (e':=[(1,rS j),(2,rS o),(3,.ptr 3 w 0 0),(7,.own 5007<|l 0),(8,.ptr 8 (l 1) 0 0),(9,rB B),(10,.tup [.agg<|Af E,rB B]),(11,.agg [qb A.nodes]),(12,rS j),(13,rS o),(14,.tup [.agg<|Af E,rB B]),(15,.agg<|Af E),(16,rB B),(17,rB B),(18,rB<|(!B)),(19,rB<|(!B)),(20,.own 5007<|l 0),(21,.fn 65 [.ptr 8 (l 1) 0 0])]) q ⟨.inl R,.inl R,.inl R,.inl R,.inl R,.inl R,.inl R,.inl R,.inl R,.inl R,.inl R,.inl R,.inl R,.inl R,.inl R,.inl R,.inr iL,.inr iL,Za⟩) ?_
  refine AG h7 λr3 a1 h8=>?_
  refine ZX (.one R R R) q [5007,8] (hc:=[(1000,some<|.arr (l 0) 54 9<|m.map AI.row),(1001,some<|.box (l 1) 54<|Af E)]) (bs:=[.own 1000<|l 0,.fn 65 [.ptr 1001 (l 1) 0 0]]) (caps:=[]) R R R iL R ⟨.inl ⟨iL,R⟩,.inl ⟨iL,R⟩,Za⟩ ⟨R,R,R,R,R,R,Za⟩ (by decide) (nc a1) ?_
  intro i6 n1
  refine BV [1,2,3,7,8,9,10,11,12,13,14,15,16,17,18,19,20,21,22] [3,8,5007] ?_
  exact sQ R (CZ R iL iL)<|Zh<|J _ _ wk<|J2 _ (AH [n1]) (Zf h8).symm
 ·have h7:=DH q M
  exact Zy (.one R R R) q R R<|xO R<|Zh<|J _ _ wk<|J2 _ (AH [((l 1)+1)]) (Zf h7).symm
theorem fi{l r}(h:UH l=some r):BC prog 107 1 [qb l] [] (λm h'=>∃(i:Nat→Nat),m=.fn 137 [.ptr 1000 (i 0) 0 0]∧h'=[(1000,some<|.box (i 0) 22 [qb r])]):=by
 unfold UH at h
 refine Dx func107 R R ntmps107 (Zr R) λj=>aU<|sS R (At (cs:=[qb l]) 1000 R iL R R)<|mA R<|aZ<|aT λq=>aR ?_
 refine sQ R (Jj (bs:=[.ptr 1000 j 0 0]) R<|by exact⟨iL,Za⟩) ?_
 refine mA R<|oZ q ?_
 exact Zi<|CE.mk (s':=⟨[(2,.fn 137 [.ptr 1000 j 0 0])],[(1000,some<|.box j 22 [qb l])],(j+1),4⟩) wk<|CP (λ(r:(List AI)) m h'=>∃(i:Nat→Nat),m=.fn 137 [.ptr 1000 (i 0) 0 0]∧h'=[(1000,some<|.box (i 0) 22 [qb r])]) h<|by exact⟨.fn 137 [.ptr 1000 j 0 0],[(1000,some<|.box j 22 [qb l])],R,⟨.inr R,Za⟩,R,R,AH [j],R,R⟩
theorem iz{σ:Type}{g:Operand}{ps:Array Tmp}{asg bd:Code}{Q:Exit→St→Prop}{s:St}{l:List AI}{F:σ→Int→AI→Option σ}{st0 C:σ}{bid gb:Nat}(lid:Nat)(Hf:σ→(Nat→Nat)→Ag)(nf:(Nat→Nat)→Nat)(V:NN)
  (hit:L5 l F st0=some C) (ab:BP s.e g=.fn 137 [.ptr bid gb 0 0]) (ac:JS s.h=true) (Z:∀j i,hget (Hf j i) bid=some (.box gb 22 [qb l])) (q:∀j i,hget (Hf j i) lid=none)
  (a0:Jt (Hf st0 V) s.h) (ad:s.n+1≤nf V) (M:(ps.toList.length==2&&ps.toList.all λp=>Nat.blt p s.N)=true) (a1:(B5 asg&&B5 bd)=true)
  (I:∀(E:Am) (A B:Code),A=asg→B=bd→∀j a x st' i,F j a x=some st'→AW prog asg (FN prog lid s.n bd<|SI lid (.lp s.n E s.N ps.toList A B .ready none) Hf nf st')
   ⟨JT ps.toList [rI a,.agg<|Af x] s.e,(lid,some<|.lp s.n E s.N ps.toList A B .ready none)::Hf j i,nf i,s.N⟩)
  (O:∀i,Q .normal ⟨s.e,Hf C i,nf i,s.N⟩):AW prog (.rangeFunc g ps asg bd) Q s:=by
 obtain⟨ag,hit⟩:=jD hit
 simp only[rZ,beq_iff_eq] at M
 have ae:lid≠bid:=λe=>by have X:=Z st0 V;rw[← e,q] at X;cases X
 have J:∀o j i,hget ((lid,o)::Hf j i) bid=some (.box gb 22 [qb l]):=λo j i=>by rw[BI,rN ae];exact Z j i
 have a2:∀o j i,hget ((lid,o)::Hf j i) lid=o:=λo j i=>by rw[BI,rO R]
 refine Sb<|qY (fn:=Tryz.f137) lid ab func137 R R ntmps137 R ac ?_
 refine AW.weak (s':=⟨[(0,.yld lid s.n),(1,.ptr bid gb 0 0)],(lid,some<|.lp s.n s.e s.N ps.toList asg bd .ready none)::Hf st0 V,nf V,19⟩) (AZ.sub (L0.get<|by exact⟨.inr R,.inr R,Za⟩) (λid o w=>?_) ad) ?_
 ·rw[BI] at w ⊢
  split
  ·rename_i T;rw[rO T] at w;exact w
  ·rename_i T
   rw[rN T] at w
   rcases a0.get id with X | X
   ·rw[X] at w;cases w
   ·rw[← X];exact w
 refine aT λc1=>aR<|sQ R (Aa (a:=qb l) R B7 iL (J _ _ _) R)<|xL A8 R ?_
 have hc:IntKind.i64.wrap ((l.length:Int)-1)=(l.length:Int)-1:=(Qg<|CR (z:=(l.length:Int)-1) (by omega)<|by omega).1
 refine sQ R (CS R iL iL λ_=>CR (z:=(l.length:Int)-1) (by omega)<|by omega) ?_
 refine mA R<|aZ<|c1 _<|Ze ?_
 refine AW.loop (λm t=>∃(j:σ) (i:Nat→Nat),m≤l.length∧Gt l F m j=some C∧t=⟨[(0,.yld lid s.n),(1,.ptr bid gb 0 0),(3,rI<|((m:Int)-1))],(lid,some<|.lp s.n s.e s.N ps.toList asg bd .ready none)::Hf j i,nf i,19⟩) l.length ⟨_,AZ.sub (e':=[(0,.yld lid s.n),(1,.ptr bid gb 0 0),(3,rI<|((l.length:Int)-1))]) (L0.get<|by exact⟨.inr R,.inr R,.inr R,Za⟩) (λ_ _ h=>h) nL,st0,V,rV _,hit,R⟩ ?_
 rintro m t ⟨j,i,hm,a6,rfl⟩
 refine aT λc2=>aU<|mM R<|sQ R (Cq R iL iL)<|aZ<|aC R (λU=>?_) λU=>?_
 ·have a7:0<m:=by have:=tR U;omega
  obtain⟨k,rfl⟩:∃k,m=k+1:=⟨m-1,by omega⟩
  obtain⟨x1,st',hx,hF,a8⟩:=pp a6
  have hk:((k+1:Nat):Int)-1=(k:Int):=by omega
  have ah:k<l.length:=by omega
  have af:AM l (((k+1:Nat):Int)-1)=some x1:=by rw[hk];unfold AM;rw[rO<|by omega,sr];exact hx
  refine Zc<|c2 _<|aT λc4=>Ze<|aT λc5=>ZY<|B1.step R R R (B2 (AK R<|.inl R) _)<|B1.step R R R (B2 (AK R<|.inl R) _)<|B1.step R R R (B2 (Aa (a:=qb l) R B7 (.inl R) (J _ _ _) R) _)<|B1.step R R R (B2 (AK R<|.inl R) _)<|B1.step R R R (B2 (BB R A8.slice (.inl R) (.inl R) (λ_=>R) λ_=>af) _)<|B1.step R R R (B2 (Ce (cs:=(Af x1)) R Cf (.inl R) R R) _) ?_
  have hr:=I s.e asg bd R R j (((k+1:Nat):Int)-1) x1 st' i<|by rw[hk];exact hF
  refine qS (id:=lid) (g:=s.n) (e0:=s.e) (ps:=ps.toList) (asg:=asg) (bd:=bd) (N:=s.N) (st':=st') (Hf:=Hf) (nf:=nf) [rI<|(((k+1:Nat):Int)-1),.agg<|Af x1] R R R R (.inl R) ⟨(.inl R),(.inl R),Za⟩ (a2 (some<|.lp s.n s.e s.N ps.toList asg bd .ready none) j i) (by rw[Nat.beq_eq];exact M.1.symm) M.2 a1 hr λi'=>?_
  refine B1.step R R R (B2 (BD R<|.inl R) _)<|B1.nil<|c5 _<|aC R (λaa=>by cases aa) λaa=>Zc<|c4 _<|aR<|mM R ?_
  refine sQ R (CS R iL iL λ_=>CR (z:=(((k+1:Nat):Int)-1)-1) (by omega)<|by omega) ?_
  refine mA R<|Zh ?_
  have e1:(((k+1:Nat):Int)-1)-1=(k:Int)-1:=by rw[hk]
  refine⟨k,s8 _,⟨[(0,.yld lid s.n),(1,.ptr bid gb 0 0),(3,rI<|((k:Int)-1))],(lid,some<|.lp s.n s.e s.N ps.toList asg bd .ready none)::Hf st' i',nf i',19⟩,AZ.sub (L0.get<|by exact⟨.inr R,.inr R,.inr<|ro (λz=>(rI z:AV)) e1,Za⟩) (λ_ _ h=>h) nL,st',i',by omega,a8,R⟩
 ·have a7:m=0:=by have:=of_decide_eq_false U;omega
  subst a7
  obtain rfl:j=C:=by simpa[Gt] using a6
  refine Zm ?_
  refine qv (.tup []) ⟨[],R,Za⟩ ⟨s.e,s.N,ps.toList,asg,bd,.ready,none,a2 _ _ _,(by decide),_,AZ.sub (λt=>.inr R) (λid o w=>?_) nL,O i⟩
  show hget ((lid,none)::(lid,_)::Hf j i) id=some o
  rw[BI,BI]
  by_cases T:lid=id
  ·subst T;rw[q] at w;cases w
  ·rw[rN T,rN T];exact w
theorem Ul{b1 n o r}(h:Gm b1 n o=some r):AR prog 69 [.agg [qb b1.nodes],rS n,rS o] (qa r):=by
 unfold Gm at h
 refine mF func69 ntmps69 R λA=>aU<|sS R (At (cs:=[qb b1.nodes]) 3 R iL R R)<|mA R<|aZ<|aU<|sS R (BH (cs:=[cZ]) 7 R RK R R)<|aZ<|aU<|xC KZ R<|mM R<|mM R<|AG h λU a7 h1=>sS R (BJ (r:=qb U) (caps:=[]) (bs:=[.agg [qb b1.nodes],rS n,rS o]) R iL R ⟨.inl ⟨iL,R⟩,.inl ⟨iL,R⟩,.inl ⟨iL,R⟩,Za⟩ λ_=>Xk<|a7)<|mA R<|aZ<|aT λc4=>aT λc5=>aG [7,8] [7] ?_
 refine aR<|mM R<|AG h1 λM a8 h2=>?_
 refine ZA [19] (hc:=[]) (bs:=[qb U]) (caps:=[]) R R R R iL R ⟨.inl ⟨iL,R⟩,Za⟩ Za (by decide) (fi a8) ?_
 intro F w
 refine BV [7,8,18,19] [7,19] ?_
 refine aZ<|c5 _<|Ze ?_
 refine AW.weak (s':=⟨[(7,.ptr 7 (A+1) 0 0),(8,qb U),(18,qb U),(19,.fn 137 [.ptr 19 (F 0) 0 0])],[(7,some<|.box (A+1) 35 [.r<|.sl []]),(19,some<|.box (F 0) 22 [qb M])],w,59⟩) ((by exact AZ.cv ⟨jL,jL,jL,jL,Za⟩ ⟨.inr<|.inr ⟨_,_,_,_,R,R,⟨.inr<|.inr ⟨R,R⟩,Za⟩⟩,.inl R,Za⟩ nL)) ?_
 refine AG h2 λa0 aa ab=>?_
 refine iz (bid:=19) (gb:=(F 0)) 0 (λ(l:(List AC)) I=>[(7,some<|.box (A+1) 35 [qa l]),(19,some<|.box (F 0) 22 [qb M])]) (λI=>(w+1)+(I 0)) (AH [0]) aa R R (λ_ _=>R) (λ_ _=>R) (by exact⟨.inr R,.inr R,Za⟩) nL R R ?_ ?_
 ·intro V X Z b7 b8 (l) a1 J ac I h3
  have h4:Hy l a1 J=some ac:=h3;unfold Hy at h4
  refine aG [7,8,18,19,20,21] [0,7,19] ?_
  refine aR<|sS R (BH (cs:=De) 10 R GA R R)<|Zl R R (A4 (ds:=(Af J)) R E8 iL R iL R R R R)<|Zh<|Zj R<|Sb<|Ze<|aU<|mA R<|aZ<|aS λK7 c7 ad=>aU<|lF Eg Bw R R<|xL Ay R<|mM R<|aZ<|Ze<|BS h4 λo3 a2 ae=>?_
  have J1:∀(j:List AC) (B:NN),o3=j→K7 ⟨[(7,.ptr 7 (A+1) 0 0),(11,.own 5011<|B 0)],[(0,some<|.lp w V 59 [20,21] X Z .busy none),(7,some<|.box (A+1) 35 [qa l]),(19,some<|.box (F 0) 22 [qb M]),(5011,some<|.arr (B 0) 71 2<|j.map AC.row)],(B 1),59⟩:=by
   intro j B e
   have h5:=ae _ e
   refine c7 _<|aR<|sQ R (Aa (a:=qa l) R Bw iL R R)<|mM R ?_
   refine ZJ (by exact AZ.frz (e':=[(7,.ptr 7 (A+1) 0 0),(11,qa j),(55,qa l),(56,qa j)]) (h':=[(0,some<|.lp w V 59 [20,21] X Z .busy none),(7,some<|.box (A+1) 35 [qa l]),(19,some<|.box (F 0) 22 [qb M])]) 5011 R ⟨jL,.inl<|.inr<|.inr ⟨R,R⟩,jL,.inl<|.inr<|.inr ⟨R,R⟩,Za⟩ ⟨R,.inl R,R,.inl R,R,.inl R,Za⟩) ?_
   exact AG h5 λr1 af h6=>sS R (BJ (r:=qa r1) (caps:=[]) (bs:=[qa l,qa j]) R iL R ⟨.inl ⟨iL,R⟩,.inl ⟨iL,R⟩,Za⟩ λ_=>Lx<|af)<|Zl R R (A4 (ds:=[qa r1]) R I2 iL R iL R R R R)<|Zh<|⟨_,(show AZ _ ⟨[],[(0,some<|.lp w V 59 [20,21] X Z .busy none),(7,some<|.box (A+1) 35 [qa r1]),(19,some<|.box (F 0) 22 [qb M])],(B 1),59⟩ from wk),VH h6 (AH [(B 1)]) R<|Nat.le_add_left _ _⟩
  refine ZK (λ(x2:Int) (m:List AC) i8=>⟨[(7,.ptr 7 (A+1) 0 0),(11,.own 5011<|i8 0),(23,qa J.Attrs),(24,rL J.Attrs),(25,rI x2)],[(0,some<|.lp w V 59 [20,21] X Z .busy none),(7,some<|.box (A+1) 35 [qa l]),(19,some<|.box (F 0) 22 [qb M]),(5011,some<|.arr (i8 0) 71 2<|m.map AC.row)],(i8 1),59⟩) (AH [(((w+1)+(I 0))+1),(((w+1)+(I 0))+2)]) a2 (Zw (Zw (Fd 11 5011 71 2 (by decide) R)<|by exact AZ.cv (e':=[(7,.ptr 7 (A+1) 0 0),(8,qb U),(10,.ptr 10 ((w+1)+(I 0)) 0 0),(11,.own 5011<|((w+1)+(I 0))+1),(18,qb U),(19,.fn 137 [.ptr 19 (F 0) 0 0]),(20,rI a1),(21,.agg<|Af J),(22,.ptr 10 ((w+1)+(I 0)) 0 2),(23,qa J.Attrs),(24,rL J.Attrs),(25,rI 0)]) (h':=[(0,some<|.lp w V 59 [20,21] X Z .busy none),(7,some<|.box (A+1) 35 [qa l]),(10,some<|.box ((w+1)+(I 0)) 54<|Af J),(19,some<|.box (F 0) 22 [qb M]),(5011,some<|.arr (((w+1)+(I 0))+1) 71 2<|([]:List AC).map AC.row)]) ⟨jL,jL,jL,jL,jL,jL,jL,jL,jL,jL,jL,jL,Za⟩ ⟨.inl R,.inl R,.inl R,.inl R,.inl R,Za⟩ nL) wk) ?_
  intro x2 m i8 v1 ag ah
  have h7:H5 J x2 m=some v1:=ag;unfold H5 at h7
  refine aU<|xS R<|aZ<|aT λai=>cI R h7 (λh8=>?_) λh8=>?_
  ·refine Zc<|ai _<|aS λaj ak O=>Ze<|BS h8 λp1 al an=>?_
   have J2:∀(q:List AC) (C:NN),p1=q→aj ⟨[(7,.ptr 7 (A+1) 0 0),(11,.own 5011<|C 0),(23,qa J.Attrs),(24,rL J.Attrs),(25,rI x2)],[(0,some<|.lp w V 59 [20,21] X Z .busy none),(7,some<|.box (A+1) 35 [qa l]),(19,some<|.box (F 0) 22 [qb M]),(5011,some<|.arr (C 0) 71 2<|q.map AC.row)],(C 1),59⟩:=by
    intro q C e
    have h9:=an _ e
    exact ak _<|aR<|AG h9 λx4 ao aq=>xA R ao<|mM R<|Zh<|ZI aq (AH [(C 0),(C 1)]) wk
   refine aU<|AG al λx5 ar au=>xI Ay R ar<|xB ((CD x5)) D7 R<|sS R (BH (cs:=[.r<|.str [],.r<|.str []]) 13 R SL R R)<|Zl R R (A4 (ds:=(CD x5)) R Q4 iL R iL R R R R)<|aZ<|aT λav=>aR<|lF Cz A6 R R<|sQ R (DJ R underlying9 iL)<|sQ R (Bh R iL iL)<|mM R<|vF Cz A6 R R<|AG au λs1 aw ax=>?_
   refine vQ R (JZ R underlying9 (iR R) (by exact R) (by exact⟨_,iL⟩)<|Ad aw) ?_
   refine vQ R (Dp R (iR R) iL)<|xN R<|mM R<|vF Cz A6 R R<|AG ax λs2 ay az=>?_
   refine vQ R (JZ R underlying9 (iR R) (by exact⟨_,iL⟩) (by exact R)<|Ad ay) ?_
   refine AG az λr2 b0 b3=>vL (λhg=>TH<|Ad b0 hg) R<|xN R<|aZ<|av _<|cI R b3 (λT=>?_) λT=>?_
   ·refine aG [7,11,13,23,24,25] [0,7,13,19,5011] ?_
    refine VL [0] [1,2,3,4,5] [] 6 BR (by kernel_rfl) R R R R R ?_
    refine Fy.move R R R R<|Fy.nil<|AF.step R R R (fB R Cz iL fR R)<|AF.step R R R (Aa (a:=rS x5.Name) R A6 iL R R)<|AG T λs3 b4 b5=>?_
    refine AF.step R R R (JZ R underlying9 iL (by exact⟨_,iL⟩) (by exact R) λ_=>b4) ?_
    refine AF.step R R R (fB R Hk iL fR R)<|AF.step R R R (Aa (a:=rS x5.Value) R A6 iL R R)<|AF.nil<|AA.nil ?_
    refine sQ R (Bj R Fg (q:=[(0,_),(1,_)]) (by exact⟨R,R,R,iL,R,R,R,iL,Za⟩) (cs:=[rS s3,rS x5.Value])<|by rfl) ?_
    exact sS R (BZ 52 R Ay (f:=AC.row) (l:=([(AC.mk s3 x5.Value)]:List AC)) ⟨R,⟨_,iL,R⟩,Za⟩ R (λ_=>R) R)<|AG b5 λa6 E b6=>sS R (Cs R Ay iL R (.inr<|.inl ⟨_,_,iL,R⟩) E)<|mA R<|Zh<|O _ _ wk<|J2 _ (AH [((i8 1)+2),((i8 1)+3)]) (Zf b6).symm
   exact Zc<|O _ _ wk<|J2 _ (AH [(i8 0),((i8 1)+1)]) (Zf T).symm
  exact Zm<|ad _ _ wk<|J1 _ (AH [(i8 0),(i8 1)])<|xH ah h8
 intro I
 exact c4 _<|aU<|sQ R (Aa (a:=qa a0) R Bw iL R R)<|mA R<|aZ<|Zi<|Bz (P:=prog) (λ(r:(List AC))=>qa r) ab iL<|.t<|.d R
theorem NB{j r}(h:IQ j=some r):AR prog 68 [qa j] (qa r):=by
 unfold IQ at h
 refine mF func68 ntmps68 R λA=>aU<|mA R<|aZ<|aT λm=>aR<|mM R ?_
 refine sQ R (Bj R Fg (q:=[(0,_)]) (by exact⟨R,R,R,iL,Za⟩) (cs:=Rz)<|by rfl) ?_
 refine sS R (BZ 5 R Ay (f:=AC.row) (l:=([(AC.mk [115,116,121,108,101] [])]:List AC)) ⟨R,⟨_,iL,R⟩,Za⟩ R (λ_=>R) R) ?_
 refine ZJ (by exact AZ.frz (e':=[(0,qa j),(2,cZ),(3,qa j),(4,.agg Rz),(5,.r<|.sl<|[(AC.mk [115,116,121,108,101] [])].map AC.row)]) (h':=[]) 5 R ⟨jL,jL,jL,jL,.inl<|.inr<|.inr ⟨R,R⟩,Za⟩ Za) ?_
 exact AG h λq l w=>sS R (BJ (r:=qa q) (caps:=[]) (bs:=[qa j,.r<|.sl<|[(AC.mk [115,116,121,108,101] [])].map AC.row]) R iL R ⟨.inl ⟨iL,R⟩,.inl ⟨iL,R⟩,Za⟩ λ_=>Lx<|l)<|mA R<|aZ<|m _<|Zi<|Bz (P:=prog) (λ(r:(List AC))=>qa r) w iL<|.t<|.d R
theorem dt{l q a r}(h:NF l q a=some r):AR prog 38 [.agg [qb l.nodes],qa q,qa a] (qa r):=by
 unfold NF at h
 refine mF func38 ntmps38 R λB=>aU<|sS R (At (cs:=[qb l.nodes]) 3 R iL R R)<|mA R<|aZ<|aT λc2=>AG h λF I h1=>?_
 refine rP 3 [pO 8<|.agg [qb l.nodes],pO 9<|qa a,pO 10<|rS F] BR R (by exact⟨oB [(3,.ptr 3 B 0 0)] [(3,some<|.box B 74 [qb l.nodes])]<|DG R KZ (.inl R) R R,oB [(2,qa a)] []<|AK R<|.inl R,oD (λ_=>[(9,qa a)]) (λ_=>[]) λG1 e J n=>Cw (r:=rS F) (caps:=[]) (bs:=[qa a,.r<|.str [115,116,121,108,101]]) R (.inl R) R ⟨⟨_,(.inl R),.d R⟩,⟨_,(.inl R),.d R⟩,Za⟩ (λ_=>Jp<|I) R,Za⟩) λG1 n1=>?_
 refine BV [0,1,2,3,6,8,9,10] [3] ?_
 refine AG h1 λr2 M h2=>sS R (BJ (r:=qa r2) (caps:=[]) (bs:=[.agg [qb l.nodes],rS F,.r<|.str [112,97,114,97,103,114,97,112,104]]) R iL R ⟨.inl ⟨iL,R⟩,.inl ⟨iL,R⟩,.inl ⟨iL,R⟩,Za⟩ λ_=>Ul<|M)<|AG h2 λj w h3=>sS R (BJ (r:=qa j) (caps:=[]) (bs:=[qa r2]) R iL R ⟨.inl ⟨iL,R⟩,Za⟩ λ_=>NB<|w)<|mA R<|aZ<|c2 _<|aT λc3=>AG h3 λC O h4=>AG h4 λE T h5=>AG h5 λU V h6=>?_
 refine rP 6 [pO 13<|qa j,pO 14<|.agg [qb l.nodes],pO 15<|qa q,pO 16<|rS C,pO 17<|qa E,pO 18<|qa U] BR R (by exact⟨oB [(7,qa j)] []<|AK R<|.inl R,oB [(3,.ptr 3 B 0 0)] [(3,some<|.box B 74 [qb l.nodes])]<|DG R KZ (.inl R) R R,oB [(1,qa q)] []<|AK R<|.inl R,oD (λ_=>[(15,qa q)]) (λ_=>[]) λX e J n=>Cw (r:=rS C) (caps:=[]) (bs:=[qa q,.r<|.str [115,116,121,108,101]]) R (.inl R) R ⟨⟨_,(.inl R),.d R⟩,⟨_,(.inl R),.d R⟩,Za⟩ (λ_=>Jp<|O) R,oD (λ_=>[(14,.agg [qb l.nodes]),(16,rS C)]) (λ_=>[]) λX e J n=>BJ (r:=qa E) (caps:=[]) (bs:=[.agg [qb l.nodes],rS C,.r<|.str [116,101,120,116]]) R (.inl R) R ⟨.inl ⟨(.inl R),R⟩,.inl ⟨(.inl R),R⟩,.inl ⟨(.inl R),R⟩,Za⟩ λ_=>Ul<|T,oD (λ_=>[(17,qa E)]) (λ_=>[]) λX e J n=>BJ (r:=qa U) (caps:=[]) (bs:=[qa E]) R (.inl R) R ⟨.inl ⟨(.inl R),R⟩,Za⟩ λ_=>NB<|V,Za⟩) λX n2=>?_
 refine BV [0,1,2,3,6,7,8,9,10,11,12,13,14,15,16,17,18] [3] ?_
 refine AG h6 λm A h7=>sS R (BJ (r:=qa m) (caps:=[]) (bs:=[qa j,qa U]) R iL R ⟨.inl ⟨iL,R⟩,.inl ⟨iL,R⟩,Za⟩ λ_=>Lx<|A)<|mA R<|aZ<|c3 _<|aT λc4=>aF [1,7] ?_
 exact aR<|mM R<|mM R<|AG h7 λr6 Z h8=>sS R (BJ (r:=qa r6) (caps:=[]) (bs:=[qa q]) R iL R ⟨.inl ⟨iL,R⟩,Za⟩ λ_=>NB<|Z)<|AG h8 λr7 a0 h9=>sS R (BJ (r:=qa r7) (caps:=[]) (bs:=[qa m,qa r6]) R iL R ⟨.inl ⟨iL,R⟩,.inl ⟨iL,R⟩,Za⟩ λ_=>Lx<|a0)<|mA R<|aZ<|c4 _<|Zi<|Bz (P:=prog) (λ(r:(List AC))=>qa r) h9 iL<|.t<|.d R
theorem Xx{d1 j b r}(h:Hb d1 j b=some r):AR prog 11 [.agg [qb d1.Nodes],.agg<|Bf j,qa b] (.tup [qa r.1,rI r.2]):=by
 unfold Hb at h
 refine mF func11 ntmps11 R λl=>aU<|sS R (At (cs:=[qb d1.Nodes]) 3 R iL R R)<|sS R (At (cs:=(Bf j)) 4 R iL R R)<|mA R<|mA R<|aZ<|aT λT=>aU<|xC Bs R<|AG h λe1 m U=>cL (Pz<|m) R<|mA R<|aZ<|aU<|mM R<|xU R<|aZ<|cI R U (λq=>?_) λq=>?_
 ·refine aT λV=>aF [8] ?_
  exact aR<|mM R<|mA R<|mA R<|aZ<|V _<|Zi<|DC (P:=prog) (λ(r:(List AC) × Int)=>qa r.1) (λ(r:(List AC) × Int)=>rI r.2) q iL (.t<|.one<|.nil)<|.t<|.d R
 refine Zc<|T _<|aT λX=>aT λZ=>aG [2,3,4] [3,4] ?_
 refine aR<|xC FR R<|sS R (BZ 17 R Bu (f:=AL.row) (l:=([j]:List AL)) ⟨R,⟨_,iL,R⟩,Za⟩ R (λ_=>R) R)<|AG q λe2 w h3=>cL (iO<|w) R<|mA R<|aZ<|Z _<|aU<|mM R<|xU R<|aZ<|cI R h3 (λA=>?_) λA=>?_
 ·exact aU<|mM R<|mA R<|mA R<|aZ<|Zi<|DC (P:=prog) (λ(r:(List AC) × Int)=>qa r.1) (λ(r:(List AC) × Int)=>rI r.2) A iL (.t<|.one<|.nil)<|.t<|.d R
 refine Zc<|X _<|aT λB=>aU<|mM R<|AG A λe3 C h5=>cL (Pn<|C) R<|mA R<|aZ<|aU<|mM R<|xU R<|aZ<|cI R h5 (λE=>?_) λE=>?_
 ·refine aT λF=>aF [10] ?_
  exact aR<|mM R<|mA R<|mA R<|aZ<|F _<|Zi<|DC (P:=prog) (λ(r:(List AC) × Int)=>qa r.1) (λ(r:(List AC) × Int)=>rI r.2) E iL (.t<|.one<|.nil)<|.t<|.d R
 refine Zc<|B _<|aT λI=>aG [2,3,4] [3,4] ?_
 refine AG E λJ M h7=>?_
 refine rP 5 [pO 27<|.agg [qb d1.Nodes],pO 28<|.agg [qb J.nodes],pO 29<|.ptr 4 (l+1) 0 2,pO 30<|qa j.Attrs,pO 31<|qa b] BR R (by exact⟨oB [(3,.ptr 3 l 0 0)] [(3,some<|.box l 24 [qb d1.Nodes])]<|DG R Bs (.inl R) R R,oD (λ_=>[(27,.agg [qb d1.Nodes])]) (λ_=>[]) λG1 e h' n=>BJ (r:=.agg [qb J.nodes]) (caps:=[]) (bs:=[.agg [qb d1.Nodes]]) R (.inl R) R ⟨.inl ⟨(.inl R),R⟩,Za⟩ λ_=>VD<|M,oB [(4,.ptr 4 (l+1) 0 0)] [(4,some<|.box (l+1) 37<|Bf j)]<|fB R LK (.inl R) (λ_=>R) R,oB [(29,.ptr 4 (l+1) 0 2)] [(4,some<|.box (l+1) 37<|Bf j)]<|Aa (a:=qa j.Attrs) R Bw (.inl R) R R,oB [(2,qa b)] []<|AK R<|.inl R,Za⟩) λG1 n1=>?_
 refine BV [2,3,4,27,28,29,30,31] [3,4] ?_
 exact AG h7 λr2 O h8=>sS R (BJ (r:=qa r2) (caps:=[]) (bs:=[.agg [qb J.nodes],qa j.Attrs,qa b]) R iL R ⟨.inl ⟨iL,R⟩,.inl ⟨iL,R⟩,.inl ⟨iL,R⟩,Za⟩ λ_=>dt<|O)<|mA R<|mA R<|aZ<|I _<|Zi<|DC (P:=prog) (λ(r:(List AC) × Int)=>qa r.1) (λ(r:(List AC) × Int)=>rI r.2) h8 iL (.t<|.d R)<|.t<|.d R
theorem Ya{r}(h:QF=some r):AR prog 51 [] (.agg [qb r.Nodes]):=by
 unfold QF at h
 refine mF func51 ntmps51 R λj=>aU<|sS R (BH (cs:=[cZ]) 0 R Mn R R)<|aZ<|aT λl=>aR ?_
 refine sQ R (Bj R Jf (q:=[(1,_)]) (by exact⟨R,R,R,iL,Za⟩) (cs:=Mf)<|by rfl) ?_
 refine sS R (BZ 2 R Bu (f:=AL.row) (l:=([(AL.mk 0 2 [])]:List AL)) ⟨R,⟨_,iL,R⟩,Za⟩ R (λ_=>R) R) ?_
 refine sQ R (Bj R Jv (q:=[(0,_),(1,_),(3,_)]) (by exact⟨R,R,R,iL,R,R,R,iL,R,R,R,iL,Za⟩) (cs:=[rI 1,rI 0,cZ,.own 2<|j+1,rI 0,rI 0,cZ,cZ,cZ])<|by rfl) ?_
 refine sQ R (Bj R Jf (q:=[(0,_)]) (by exact⟨R,R,R,iL,Za⟩) (cs:=PK)<|by rfl) ?_
 refine sS R (BZ 5 R Bu (f:=AL.row) (l:=([(AL.mk 10 0 [])]:List AL)) ⟨R,⟨_,iL,R⟩,Za⟩ R (λ_=>R) R) ?_
 refine sQ R (Bj R Jv (q:=[(0,_),(1,_),(3,_)]) (by exact⟨R,R,R,iL,R,R,R,iL,R,R,R,iL,Za⟩) (cs:=[rI 2,rI 1,cZ,.own 5<|j+2,rI 0,rI 0,cZ,cZ,cZ])<|by rfl) ?_
 refine ZJ (by exact AZ.frz (e':=[(0,.ptr 0 j 0 0),(1,.agg Mf),(2,.r<|.sl<|[(AL.mk 0 2 [])].map AL.row),(3,.agg VC),(4,.agg PK),(5,.own 5<|j+2),(6,.agg [rI 2,rI 1,cZ,.own 5<|j+2,rI 0,rI 0,cZ,cZ,cZ])]) (h':=[(0,some<|.box j 24 [cZ]),(5,some<|.arr (j+2) 37 3<|[(AL.mk 10 0 [])].map AL.row)]) 2 R ⟨jL,jL,.inl<|.inr<|.inr ⟨R,R⟩,.inr ⟨_,_,R,R,⟨.inl R,.inl R,.inl R,.inr<|.inr ⟨R,R⟩,.inl R,.inl R,.inl R,.inl R,.inl R,Za⟩⟩,jL,jL,jL,Za⟩ ⟨R,.inl R,R,.inl R,Za⟩) ?_
 refine ZJ (by exact AZ.frz (e':=[(0,.ptr 0 j 0 0),(1,.agg Mf),(2,.r<|.sl<|[(AL.mk 0 2 [])].map AL.row),(3,.agg VC),(4,.agg PK),(5,.r<|.sl<|[(AL.mk 10 0 [])].map AL.row),(6,.agg [rI 2,rI 1,cZ,.r<|.sl<|[(AL.mk 10 0 [])].map AL.row,rI 0,rI 0,cZ,cZ,cZ])]) (h':=[(0,some<|.box j 24 [cZ])]) 5 R ⟨jL,jL,jL,jL,jL,.inl<|.inr<|.inr ⟨R,R⟩,.inr ⟨_,_,R,R,⟨.inl R,.inl R,.inl R,.inr<|.inr ⟨R,R⟩,.inl R,.inl R,.inl R,.inl R,.inl R,Za⟩⟩,Za⟩ ⟨R,.inl R,Za⟩) ?_
 refine sS R (BZ 7 R A8 (f:=AI.row) (l:=([(AI.mk 1 0 [] [(AL.mk 0 2 [])] (Ar.mk 0 0 [] []) []),(AI.mk 2 1 [] [(AL.mk 10 0 [])] (Ar.mk 0 0 [] []) [])]:List AI)) ⟨R,⟨_,iL,R⟩,R,⟨_,iL,R⟩,Za⟩ R (λ_=>R) R) ?_
 refine sQ R (Bj R Ri (q:=[(0,_)]) (by exact⟨R,R,R,iL,Za⟩) (cs:=[.own 7<|j+3])<|by rfl) ?_
 refine Zl R R (A4 (ds:=[.own 7<|j+3]) R KW iL R iL R R R R)<|oZ l ?_
 exact Zi<|Bz (P:=prog) (λ(r:AP)=>.agg [qb r.Nodes]) h iL<|.a Bs R R R<|.agg<|by exact⟨.own R,Za⟩
theorem cO{j r}(h:Qj j=some r):AR prog 21 [qe j] (.agg [qb r.Nodes]):=by
 unfold Qj at h
 refine mF func21 ntmps21 R λl=>aU<|sS R (BH (cs:=[cZ]) 2 R Mn R R)<|aZ<|aT λm=>aR ?_
 refine sQ R (Bj R Jf (q:=[(1,_)]) (by exact⟨R,R,R,iL,Za⟩) (cs:=Mf)<|by rfl) ?_
 refine sS R (BZ 4 R Bu (f:=AL.row) (l:=([(AL.mk 0 2 [])]:List AL)) ⟨R,⟨_,iL,R⟩,Za⟩ R (λ_=>R) R) ?_
 refine sQ R (Bj R Jv (q:=[(0,_),(3,_)]) (by exact⟨R,R,R,iL,R,R,R,iL,Za⟩) (cs:=[rI 1,rI 0,cZ,.own 4<|l+1,rI 0,rI 0,cZ,cZ,cZ])<|by rfl) ?_
 refine mM R ?_
 refine sQ R (Bj R Jv (q:=[(0,_),(1,_),(3,_)]) (by exact⟨R,R,R,iL,R,R,R,iL,R,R,R,iL,Za⟩) (cs:=[rI 2,rI 1,cZ,qe j,rI 0,rI 0,cZ,cZ,cZ])<|by rfl) ?_
 refine ZJ (by exact AZ.frz (e':=[(0,qe j),(2,.ptr 2 l 0 0),(3,.agg Mf),(4,.r<|.sl<|[(AL.mk 0 2 [])].map AL.row),(5,.agg VC),(6,qe j),(7,.agg [rI 2,rI 1,cZ,qe j,rI 0,rI 0,cZ,cZ,cZ])]) (h':=[(2,some<|.box l 24 [cZ])]) 4 R ⟨jL,jL,jL,.inl<|.inr<|.inr ⟨R,R⟩,.inr ⟨_,_,R,R,⟨.inl R,.inl R,.inl R,.inr<|.inr ⟨R,R⟩,.inl R,.inl R,.inl R,.inl R,.inl R,Za⟩⟩,jL,jL,Za⟩ ⟨R,.inl R,Za⟩) ?_
 refine sS R (BZ 8 R A8 (f:=AI.row) (l:=([(AI.mk 1 0 [] [(AL.mk 0 2 [])] (Ar.mk 0 0 [] []) []),(AI.mk 2 1 [] j (Ar.mk 0 0 [] []) [])]:List AI)) ⟨R,⟨_,iL,R⟩,R,⟨_,iL,R⟩,Za⟩ R (λ_=>R) R) ?_
 refine sQ R (Bj R Ri (q:=[(0,_)]) (by exact⟨R,R,R,iL,Za⟩) (cs:=[.own 8<|l+2])<|by rfl) ?_
 refine Zl R R (A4 (ds:=[.own 8<|l+2]) R KW iL R iL R R R R)<|oZ m ?_
 exact Zi<|Bz (P:=prog) (λ(r:AP)=>.agg [qb r.Nodes]) h iL<|.a Bs R R R<|.agg<|by exact⟨.own R,Za⟩
theorem MP{j q r}(h:GH j q=some r):AR prog 18 [qa j,qa q] (rB r):=by
 unfold GH at h
 refine mF func18 ntmps18 R λn0=>aU<|mA R<|aZ<|aT λc2=>aU<|mM R<|xL Ay R<|mM R<|xL Ay R<|xU R<|aZ<|cI R h (λA=>?_) λA=>?_
 ·exact zB A R id
 refine Zc<|c2 _<|aS λK5 c5 B=>aU<|mM R<|xL Ay R<|mM R<|aZ<|Ze<|BM A λo1 l C E=>?_
 have J1:∀(Z:Unit) (i5:NN),o1=.nrm Z→K5 ⟨[],[],(i5 0),26⟩:=by
  intro Z i5 e
  have h2:=C _ e
  exact c5 _<|zB h2 R id
 refine Zt (λ(F:Int) w=>⟨[(0,qa j),(1,qa q),(12,rL j),(13,rI F)],[],(w 0),26⟩) (AH [n0]) l wk ?_
 intro F w v1 I m
 have h3:OV j q F=some v1:=I;unfold OV at h3
 refine aU<|xS R<|aZ<|aT λc9=>cI R h3 (λJ=>?_) λJ=>?_
 ·refine Zc<|c9 _<|aT λM=>Ze<|aU<|mM R<|mA R<|aZ<|aT λO=>?_
  refine ZB BR (by kernel_rfl) ?_
  refine qP R (AK R iL)<|qP R (AK R iL)<|AG J λx4 T h5=>qP R (BB R Ay.slice iL iL (λ_=>R) λ_=>T)<|qP R (Ce (cs:=(CD x4)) R D7 iL R R)<|qP R (AK R iL)<|qP R (AK R iL)<|AG h5 λx5 U h6=>qP R (BB R Ay.slice iL iL (λ_=>R) λ_=>U)<|qP R (Ce (cs:=(CD x5)) R D7 iL R R)<|qP R (OA R Xg iL iL R)<|AQ.nil<|O _<|cI R h6 (λV=>?_) λV=>?_
  ·exact zB (E _<|xH m V) R id
  refine Zc<|M _<|aF [0,1,12,13] ?_
  exact aR<|AG V λx6 X h8=>xA R X<|mM R<|Zh<|Zq h8 (AH [(w 0)]) wk
 exact Zm<|B _ _ wk<|J1 _ (AH [(w 0)])<|xH m J
theorem ns{j l r}(h:Pt j l=some r):AR prog 140 [.agg<|Bf j,.agg<|Bf l] (rB r):=by
 unfold Pt at h
 exact mF func140 ntmps140 R λw=>aU<|sS R (At (cs:=(Bf j)) 2 R iL R R)<|sS R (At (cs:=(Bf l)) 3 R iL R R)<|mA R<|aZ<|aU<|lF Ge AJ R R<|lF Ge AJ R R<|xQ R<|mM R<|vF Ds AJ R R<|vF Ds AJ R R<|vQ R (A9 R (iR R)<|iR R)<|xN R<|mM R<|vF LK Bw R R<|vF LK Bw R R<|AG h λA m q=>vL (λhg=>MP<|Ad m hg) R<|xN R<|mA R<|aZ<|Zi<|yB q R
theorem iE{j A r}(h:PM j A=some r):AR prog 115 [qe j,qe A] (rB r):=by
 unfold PM at h
 refine mF func115 ntmps115 R λn0=>aU<|mA R<|aZ<|aT λc2=>aU<|mM R<|xL Bu R<|mM R<|xL Bu R<|xU R<|aZ<|cI R h (λC=>?_) λC=>?_
 ·exact zB C R id
 refine Zc<|c2 _<|aS λK5 c5 E=>aU<|mM R<|xL Bu R<|mM R<|aZ<|Ze<|BM C λo1 l F I=>?_
 have J1:∀(u2:Unit) (i5:NN),o1=.nrm u2→K5 ⟨[],[],(i5 0),27⟩:=by
  intro u2 i5 e
  have h2:=F _ e
  exact c5 _<|zB h2 R id
 refine Zt (λ(J:Int) B=>⟨[(0,qe j),(1,qe A),(12,rL j),(13,rI J)],[],(B 0),27⟩) (AH [n0]) l wk ?_
 intro J B v1 M m
 have h3:NO j A J=some v1:=M;unfold NO at h3
 refine aU<|xS R<|aZ<|aT λc9=>cI R h3 (λO=>?_) λO=>?_
 ·refine Zc<|c9 _<|aT λT=>Ze<|aU<|mM R<|mA R<|aZ<|aT λU=>?_
  refine ZB BR (by kernel_rfl) ?_
  refine qP R (AK R iL)<|qP R (AK R iL)<|AG O λq V h5=>qP R (BB R Bu.slice iL iL (λ_=>R) λ_=>V)<|qP R (Ce (cs:=(Bf q)) R FR iL R R)<|qP R (AK R iL)<|qP R (AK R iL)<|AG h5 λw X h6=>qP R (BB R Bu.slice iL iL (λ_=>R) λ_=>X)<|qP R (Ce (cs:=(Bf w)) R FR iL R R)<|AG h6 λr1 Z h7=>AQ.stepC R R R (r:=rB r1) (caps:=[]) (bs:=[.agg<|Bf q,.agg<|Bf w]) R iL R ⟨⟨_,iL,.g (cs:=[.int .i64 q.Char,.int .i64 q.Ref,.sl<|q.Attrs.map AC.row]) R R⟩,⟨_,iL,.g (cs:=[.int .i64 w.Char,.int .i64 w.Ref,.sl<|w.Attrs.map AC.row]) R R⟩,Za⟩ (λ_=>ns<|Z) R<|qP R (BD R iL)<|AQ.nil<|U _<|cI R h7 (λh8=>?_) λh8=>?_
  ·exact zB (I _<|xH m h8) R id
  refine Zc<|T _<|aF [0,1,12,13] ?_
  exact aR<|AG h8 λx6 a0 h9=>xA R a0<|mM R<|Zh<|Zq h9 (AH [(B 0)]) wk
 exact Zm<|E _ _ wk<|J1 _ (AH [(B 0)])<|xH m O
theorem fL{j l r}(h:Nf j l=some r):AR prog 161 [.agg<|Be j,.agg<|Be l] (rB r):=by
 unfold Nf at h
 exact mF func161 ntmps161 R λA=>aU<|sS R (At (cs:=(Be j)) 2 R iL R R)<|sS R (At (cs:=(Be l)) 3 R iL R R)<|mA R<|aZ<|aT λq=>aR<|lF Ei AJ R R<|lF Ei AJ R R<|xQ R<|mM R<|vF FA AJ R R<|vF FA AJ R R<|vQ R (A9 R (iR R)<|iR R)<|xN R<|mM R<|vF Hm A6 R R<|vF Hm A6 R R<|vQ R (Dp R (iR R)<|iR R)<|xN R<|mM R<|vF EA AJ R R<|vF EA AJ R R<|vQ R (A9 R (iR R)<|iR R)<|xN R<|mM R<|vF GL Bw R R<|vF GL Bw R R<|AG h λB m w=>vL (λhg=>MP<|Ad m hg) R<|xN R<|mA R<|aZ<|q _<|Zi<|yB w R
theorem pi{m A r}(h:OO m A=some r):AR prog 141 [qc m,qc A] (rB r):=by
 unfold OO at h
 refine mF func141 ntmps141 R λn0=>aU<|mA R<|aZ<|aT λc2=>aU<|mM R<|xL B8 R<|mM R<|xL B8 R<|xU R<|aZ<|cI R h (λC=>?_) λC=>?_
 ·exact zB C R id
 refine Zc<|c2 _<|aS λK5 c5 E=>aU<|mM R<|xL B8 R<|mM R<|aZ<|Ze<|BM C λo1 q F I=>?_
 have J1:∀(u2:Unit) (i5:NN),o1=.nrm u2→K5 ⟨[],[],(i5 0),27⟩:=by
  intro u2 i5 e
  have h2:=F _ e
  exact c5 _<|zB h2 R id
 refine Zt (λ(J:Int) B=>⟨[(0,qc m),(1,qc A),(12,rL m),(13,rI J)],[],(B 0),27⟩) (AH [n0]) q wk ?_
 intro J B v1 M w
 have h3:Nu m A J=some v1:=M;unfold Nu at h3
 refine aU<|xS R<|aZ<|aT λc9=>cI R h3 (λO=>?_) λO=>?_
 ·refine Zc<|c9 _<|aT λT=>Ze<|aU<|mM R<|mA R<|aZ<|aT λU=>?_
  refine ZB BR (by kernel_rfl) ?_
  refine qP R (AK R iL)<|qP R (AK R iL)<|AG O λj V h5=>qP R (BB R B8.slice iL iL (λ_=>R) λ_=>V)<|qP R (Ce (cs:=(Be j)) R Er iL R R)<|qP R (AK R iL)<|qP R (AK R iL)<|AG h5 λl X h6=>qP R (BB R B8.slice iL iL (λ_=>R) λ_=>X)<|qP R (Ce (cs:=(Be l)) R Er iL R R)<|AG h6 λr1 Z h7=>AQ.stepC R R R (r:=rB r1) (caps:=[]) (bs:=[.agg<|Be j,.agg<|Be l]) R iL R ⟨⟨_,iL,.g (cs:=[.int .i64 j.Row,.int .i64 j.Col,.str j.Text,.int .i64 j.Ref,.sl<|j.Attrs.map AC.row]) R R⟩,⟨_,iL,.g (cs:=[.int .i64 l.Row,.int .i64 l.Col,.str l.Text,.int .i64 l.Ref,.sl<|l.Attrs.map AC.row]) R R⟩,Za⟩ (λ_=>fL<|Z) R<|qP R (BD R iL)<|AQ.nil<|U _<|cI R h7 (λh8=>?_) λh8=>?_
  ·exact zB (I _<|xH w h8) R id
  refine Zc<|T _<|aF [0,1,12,13] ?_
  exact aR<|AG h8 λx6 a0 h9=>xA R a0<|mM R<|Zh<|Zq h9 (AH [(B 0)]) wk
 exact Zm<|E _ _ wk<|J1 _ (AH [(B 0)])<|xH w O
theorem Zo{j q r}(h:M4 j q=some r):AR prog 142 [qd j,qd q] (rB r):=by
 unfold M4 at h
 refine mF func142 ntmps142 R λn0=>aU<|mA R<|aZ<|aT λc2=>aU<|mM R<|xL Cp R<|mM R<|xL Cp R<|xU R<|aZ<|cI R h (λA=>?_) λA=>?_
 ·exact zB A R id
 refine Zc<|c2 _<|aS λK5 c5 B=>aU<|mM R<|xL Cp R<|mM R<|aZ<|Ze<|BM A λo1 l C E=>?_
 have J1:∀(Z:Unit) (i5:NN),o1=.nrm Z→K5 ⟨[],[],(i5 0),26⟩:=by
  intro Z i5 e
  have h2:=C _ e
  exact c5 _<|zB h2 R id
 refine Zt (λ(F:Int) w=>⟨[(0,qd j),(1,qd q),(12,rL j),(13,rI F)],[],(w 0),26⟩) (AH [n0]) l wk ?_
 intro F w v1 I m
 have h3:PD j q F=some v1:=I;unfold PD at h3
 refine aU<|xS R<|aZ<|aT λc9=>cI R h3 (λJ=>?_) λJ=>?_
 ·refine Zc<|c9 _<|aT λM=>Ze<|aU<|mM R<|mA R<|aZ<|aT λO=>?_
  refine ZB BR (by kernel_rfl) ?_
  refine qP R (AK R iL)<|qP R (AK R iL)<|AG J λx4 T h5=>qP R (BB R Cp.slice iL iL (λ_=>R) λ_=>T)<|qP R (Ce (cs:=(BA x4)) R DU iL R R)<|qP R (AK R iL)<|qP R (AK R iL)<|AG h5 λx5 U h6=>qP R (BB R Cp.slice iL iL (λ_=>R) λ_=>U)<|qP R (Ce (cs:=(BA x5)) R DU iL R R)<|qP R (OA R Xr iL iL R)<|AQ.nil<|O _<|cI R h6 (λV=>?_) λV=>?_
  ·exact zB (E _<|xH m V) R id
  refine Zc<|M _<|aF [0,1,12,13] ?_
  exact aR<|AG V λx6 X h8=>xA R X<|mM R<|Zh<|Zq h8 (AH [(w 0)]) wk
 exact Zm<|B _ _ wk<|J1 _ (AH [(w 0)])<|xH m J
theorem Z3{j l r}(h:Ng j l=some r):AR prog 116 [.agg<|CG j,.agg<|CG l] (rB r):=by
 unfold Ng at h
 exact mF func116 ntmps116 R λB=>aU<|sS R (At (cs:=(CG j)) 2 R iL R R)<|sS R (At (cs:=(CG l)) 3 R iL R R)<|mA R<|aZ<|aU<|lF GZ AJ R R<|lF GZ AJ R R<|xQ R<|mM R<|vF GD AJ R R<|vF GD AJ R R<|vQ R (A9 R (iR R)<|iR R)<|xN R<|mM R<|vF D4 EK R R<|vF D4 EK R R<|AG h λC m w=>vL (λhg=>pi<|Ad m hg) R<|xN R<|mM R<|vF EL EY R R<|vF EL EY R R<|AG w λE q A=>vL (λhg=>Zo<|Ad q hg) R<|xN R<|mA R<|aZ<|Zi<|yB A R
theorem dl{j q r}(h:Oo j q=some r):AR prog 117 [qf j,qf q] (rB r):=by
 unfold Oo at h
 refine mF func117 ntmps117 R λn0=>aU<|mA R<|aZ<|aT λc2=>aU<|mM R<|xL D9 R<|mM R<|xL D9 R<|xU R<|aZ<|cI R h (λA=>?_) λA=>?_
 ·exact zB A R id
 refine Zc<|c2 _<|aS λK5 c5 B=>aU<|mM R<|xL D9 R<|mM R<|aZ<|Ze<|BM A λo1 l C E=>?_
 have J1:∀(Z:Unit) (i5:NN),o1=.nrm Z→K5 ⟨[],[],(i5 0),26⟩:=by
  intro Z i5 e
  have h2:=C _ e
  exact c5 _<|zB h2 R id
 refine Zt (λ(F:Int) w=>⟨[(0,qf j),(1,qf q),(12,rL j),(13,rI F)],[],(w 0),26⟩) (AH [n0]) l wk ?_
 intro F w v1 I m
 have h3:Nz j q F=some v1:=I;unfold Nz at h3
 refine aU<|xS R<|aZ<|aT λc9=>cI R h3 (λJ=>?_) λJ=>?_
 ·refine Zc<|c9 _<|aT λM=>Ze<|aU<|mM R<|mA R<|aZ<|aT λO=>?_
  refine ZB BR (by kernel_rfl) ?_
  refine qP R (AK R iL)<|qP R (AK R iL)<|AG J λx4 T h5=>qP R (BB R D9.slice iL iL (λ_=>R) λ_=>T)<|qP R (Ce (cs:=(Bm x4)) R G3 iL R R)<|qP R (AK R iL)<|qP R (AK R iL)<|AG h5 λx5 U h6=>qP R (BB R D9.slice iL iL (λ_=>R) λ_=>U)<|qP R (Ce (cs:=(Bm x5)) R G3 iL R R)<|qP R (OA R hZ iL iL R)<|AQ.nil<|O _<|cI R h6 (λV=>?_) λV=>?_
  ·exact zB (E _<|xH m V) R id
  refine Zc<|M _<|aF [0,1,12,13] ?_
  exact aR<|AG V λx6 X h8=>xA R X<|mM R<|Zh<|Zq h8 (AH [(w 0)]) wk
 exact Zm<|B _ _ wk<|J1 _ (AH [(w 0)])<|xH m J
theorem fN{j l r}(h:O4 j l=some r):AR prog 83 [.agg<|Af j,.agg<|Af l] (rB r):=by
 unfold O4 at h
 exact mF func83 ntmps83 R λJ=>aU<|sS R (At (cs:=(Af j)) 2 R iL R R)<|sS R (At (cs:=(Af l)) 3 R iL R R)<|mA R<|aZ<|aT λB=>aR<|lF Dk AJ R R<|lF Dk AJ R R<|xQ R<|mM R<|vF Cd AJ R R<|vF Cd AJ R R<|vQ R (A9 R (iR R)<|iR R)<|xN R<|mM R<|vF Eg Bw R R<|vF Eg Bw R R<|AG h λM m C=>vL (λhg=>MP<|Ad m hg) R<|xN R<|mM R<|vF ET E0 R R<|vF ET E0 R R<|AG C λO q E=>vL (λhg=>iE<|Ad q hg) R<|xN R<|mM R<|vQ R (fB R EH iL fR R)<|vQ R (IO (ds:=(CG j.Grid)) R HV (iR R) R R R)<|vQ R (fB R EH iL fR R)<|vQ R (IO (ds:=(CG l.Grid)) R HV (iR R) R R R)<|AG E λT w F=>vL (λhg=>Z3<|Ad w hg) R<|xN R<|mM R<|vF GW HA R R<|vF GW HA R R<|AG F λU A I=>vL (λhg=>dl<|Ad A hg) R<|xN R<|mA R<|aZ<|B _<|Zi<|yB I R
theorem px{m q r}(h:O5 m q=some r):AR prog 52 [.agg [qb m.Nodes],.agg [qb q.Nodes]] (rB r):=by
 unfold O5 at h
 refine mF func52 ntmps52 R λw=>aU<|sS R (At (cs:=[qb m.Nodes]) 2 R iL R R)<|sS R (At (cs:=[qb q.Nodes]) 3 R iL R R)<|mA R<|aZ<|aT λc2=>aU<|lF CH B7 R R<|xL A8 R<|lF CH B7 R R<|xL A8 R<|xU R<|aZ<|cI R h (λE=>?_) λE=>?_
 ·exact zB E R id
 refine Zc<|c2 _<|aS λK5 c5 F=>aT λc6=>aG [2,3] [2,3] ?_
 refine aR<|lF CH B7 R R<|xL A8 R<|mM R<|aZ<|c6 _<|Ze<|BM E λo1 A I J=>?_
 have J1:∀(u2:Unit) (i5:NN),o1=.nrm u2→K5 ⟨[],[],(i5 0),32⟩:=by
  intro u2 i5 e
  have h2:=I _ e
  exact c5 _<|zB h2 R id
 refine Zt (λ(M:Int) C=>⟨[(2,.ptr 2 w 0 0),(3,.ptr 3 (w+1) 0 0),(15,rL m.Nodes),(16,rI M)],[(2,some<|.box w 24 [qb m.Nodes]),(3,some<|.box (w+1) 24 [qb q.Nodes])],(C 0),32⟩) (AH [(w+2)]) A wk ?_
 intro M C v1 O B
 have h3:OY m q M=some v1:=O;unfold OY at h3
 refine aU<|xS R<|aZ<|aT λc9=>cI R h3 (λT=>?_) λT=>?_
 ·refine Zc<|c9 _<|aT λU=>Ze<|aU<|mM R<|mA R<|aZ<|aT λV=>?_
  refine ZB BR (by kernel_rfl) ?_
  refine qP R (fB R CH iL fR R)<|qP R (Aa (a:=qb m.Nodes) R B7 iL R R)<|qP R (AK R iL)<|AG T λj X h5=>qP R (BB R A8.slice iL iL (λ_=>R) λ_=>X)<|qP R (Ce (cs:=(Af j)) R Cf iL R R)<|qP R (fB R CH iL fR R)<|qP R (Aa (a:=qb q.Nodes) R B7 iL R R)<|qP R (AK R iL)<|AG h5 λl Z h6=>qP R (BB R A8.slice iL iL (λ_=>R) λ_=>Z)<|qP R (Ce (cs:=(Af l)) R Cf iL R R)<|AG h6 λr1 a0 h7=>AQ.stepC R R R (r:=rB r1) (caps:=[]) (bs:=[.agg<|Af j,.agg<|Af l]) R iL R ⟨⟨_,iL,.g (cs:=[.int .i64 j.ID,.int .i64 j.Kind,.sl<|j.Attrs.map AC.row,.sl<|j.Flow.map AL.row,.int .i64 j.Grid.Rows,.int .i64 j.Grid.Cols,.sl<|j.Grid.Cells.map Aj.row,.sl<|j.Grid.Merges.map Ai.row,.sl<|j.Draw.map Ax.row]) R R⟩,⟨_,iL,.g (cs:=[.int .i64 l.ID,.int .i64 l.Kind,.sl<|l.Attrs.map AC.row,.sl<|l.Flow.map AL.row,.int .i64 l.Grid.Rows,.int .i64 l.Grid.Cols,.sl<|l.Grid.Cells.map Aj.row,.sl<|l.Grid.Merges.map Ai.row,.sl<|l.Draw.map Ax.row]) R R⟩,Za⟩ (λ_=>fN<|a0) R<|qP R (BD R iL)<|AQ.nil<|V _<|cI R h7 (λh8=>?_) λh8=>?_
  ·exact zB (J _<|xH B h8) R id
  refine Zc<|U _<|aG [2,3,15,16] [2,3] ?_
  exact aR<|AG h8 λx6 a2 h9=>xA R a2<|mM R<|Zh<|Zq h9 (AH [(C 0)]) wk
 exact Zm<|F _ _ wk<|J1 _ (AH [(C 0)])<|xH B T
theorem lv{r}(h:Nb=some r):AR prog 23 [] (rB r):=by
 unfold Nb at h
 refine mF func23 ntmps23 R λU=>aU<|mA R<|aZ<|aS λZ c2 q=>aR<|AG h λl w h1=>sS R (BJ (r:=.agg [qb l.Nodes]) (caps:=[]) (bs:=[]) R iL R Za λ_=>Ya<|w)<|AG h1 λm C h2=>cL (Pz<|C) R<|xQ R<|mM R<|BS h2 λp1 A E=>?_
 have V:∀(F:Bool) (X:NN),p1=F→Z ⟨[(0,rB F)],[],(X 0),11⟩:=by
  intro F X e
  have h3:=E _ e
  exact c2 _<|Zi<|yB h3 R
 refine AX.split ((decide<|m=0)==true) (λj=>?_) λj=>?_
 ·have I:=DN j A
  refine ZJ (by exact Ht (e':=[(0,rB false),(1,.agg [qb l.Nodes]),(2,rI m),(3,rB<|(decide<|m=0)),(4,rB<|(decide<|m=0))]) j ⟨.inl R,.inl R,.inl R,.inl R,.inl R,Za⟩) ?_
  refine ZN (.one R R R) j R R (BJ (r:=.agg [qb l.Nodes]) (caps:=[]) (bs:=[]) R (.inl R) R Za λ_=>Ya<|w)<|AG I λB J h5=>ZN (.one R R R) j R R (BJ (r:=.agg<|Bf B) (caps:=[]) (bs:=[]) R (.inl R) R Za λ_=>Wi<|J)<|ZN (.one R R R) j R R (BZ 7 R Bu (f:=AL.row) (l:=([B]:List AL)) ⟨R,⟨_,(.inl R),R⟩,Za⟩ R (λ_=>R) R) ?_
  refine ZJ (by exact AZ.frz (e':=[(0,rB false),(1,.agg [qb l.Nodes]),(2,rI m),(3,rB<|(decide<|m=0)),(4,rB<|(decide<|m=0)),(5,.agg [qb l.Nodes]),(6,.agg<|Bf B),(7,.r<|.sl<|[B].map AL.row)]) (h':=[]) 7 R ⟨jL,jL,jL,jL,jL,jL,jL,.inl<|.inr<|.inr ⟨R,R⟩,Za⟩ Za) ?_
  exact AG h5 λM O h6=>ZN (.one R R R) j R R (BJ (r:=.agg [qb M.Nodes]) (caps:=[]) (bs:=[.r<|.sl<|[B].map AL.row]) R (.inl R) R ⟨.inl ⟨(.inl R),R⟩,Za⟩ λ_=>cO<|O)<|AG h6 λr6 T h7=>ZN (.one R R R) j R R (Cw (r:=rB r6) (caps:=[]) (bs:=[.agg [qb l.Nodes],.agg [qb M.Nodes]]) R (.inl R) R ⟨⟨_,(.inl R),.g (cs:=[.sl<|l.Nodes.map AI.row]) R R⟩,⟨_,(.inl R),.g (cs:=[.sl<|M.Nodes.map AI.row]) R R⟩,Za⟩ (λ_=>px<|T) R)<|sQ R (Bb R iL iL)<|mA R<|Zh<|q _ _ wk<|V _ (AH [(U+1)]) (Zf h7).symm
 ·have I:=DH j A
  exact Zy (.one R R R) j R R<|Zy (.one R R R) j R R<|Zy (.one R R R) j R R<|Zy (.one R R R) j R R<|Zy (.one R R R) j R R<|xN R<|mA R<|Zh<|q _ _ wk<|V _ (AH [U]) (Zf I).symm
theorem ip{n r}(h:Qq n=some r):AR prog 33 [rS n] (qa r):=by
 unfold Qq at h
 refine mF func33 ntmps33 R λl=>aU<|mA R<|aZ<|aT λj=>aR<|mM R ?_
 refine sQ R (Bj R Fg (q:=[(0,_),(1,_)]) (by exact⟨R,R,R,iL,R,R,R,iL,Za⟩) (cs:=[rS n,.r<|.str [111,110]])<|by rfl) ?_
 exact sS R (BZ 5 R Ay (f:=AC.row) (l:=([(AC.mk n [111,110])]:List AC)) ⟨R,⟨_,iL,R⟩,Za⟩ R (λ_=>R) R)<|mA R<|aZ<|j _<|Zi<|Bz (P:=prog) (λ(r:(List AC))=>qa r) h iL<|.t<|.one<|.own R
theorem eA{r}(h:Oe=some r):AR prog 9 [] (rB r):=by
 unfold Oe at h
 refine mF func9 ntmps9 R λn0=>aU<|mA R<|aZ<|aT λc2=>aR<|AG h λB V h1=>sS R (BJ (r:=.agg<|Bf B) (caps:=[]) (bs:=[]) R iL R Za λ_=>Wi<|V)<|sS R (BZ 5 R Bu (f:=AL.row) (l:=([B]:List AL)) ⟨R,⟨_,iL,R⟩,Za⟩ R (λ_=>R) R) ?_
 refine ZJ (by exact AZ.frz (e':=[(0,rB false),(4,.agg<|Bf B),(5,.r<|.sl<|[B].map AL.row)]) (h':=[]) 5 R ⟨jL,jL,.inl<|.inr<|.inr ⟨R,R⟩,Za⟩ Za) ?_
 refine AG h1 λF X h2=>?_
 refine ZA [6] (hc:=[]) (bs:=[.r<|.sl<|[B].map AL.row]) (caps:=[]) R R R R iL R ⟨.inl ⟨iL,R⟩,Za⟩ Za (by decide) (bW X) ?_
 intro j l
 refine BV [0,4,5,6] [6] ?_
 refine sS R (BH (cs:=[cZ]) 1 R Mn R R)<|Zl R R (A4 (ds:=[.own 6<|j 0]) R KW iL R iL R R R R)<|aZ<|c2 _<|aT λc3=>AG h2 λw A h3=>AG h3 λT Z h4=>?_
 refine Iw 10 [pO 7<|.ptr 1 l 0 0,pO 8<|.own 6<|j 0,pO 9<|.ptr 1 l 0 0,pO 10<|.own 6<|j 0,pO 11<|.ptr 6 (j 0) (0:Int).toNat 0,pO 12<|.ptr 6 (j 0) (0:Int).toNat 3,pO 13<|.r<|.slf<|w.Flow.map AL.row,pO 14<|.agg Rs,⟨some 15,(λq=>.own 15<|q 8),some (15,(λq=>some<|.arr (q 8) 37 3<|[(AL.mk 0 3 [])].map AL.row)),[8]⟩,⟨some 16,(λq=>.own 16<|q 9),some (16,(λq=>some<|.arr (q 9) 37 3<|T.map AL.row)),[9]⟩] BR (by kernel_rfl) (by exact⟨λ_ _ h=>⟨R,λ_ _ e=>by cases e⟩,λ_ _ h=>⟨R,λ_ _ e=>by cases e⟩,λ_ _ h=>⟨R,λ_ _ e=>by cases e⟩,λ_ _ h=>⟨R,λ_ _ e=>by cases e⟩,λ_ _ h=>⟨R,λ_ _ e=>by cases e⟩,λ_ _ h=>⟨R,λ_ _ e=>by cases e⟩,λ_ _ h=>⟨R,λ_ _ e=>by cases e⟩,λ_ _ h=>⟨R,λ_ _ e=>by cases e⟩,λ_ _ h=>⟨by simp only[h 8 R],λ_ _ e=>by cases e;simp only[h 8 R]⟩,λ_ _ h=>⟨by simp only[h 9 R],λ_ _ e=>by cases e;simp only[h 9 R]⟩,Za⟩) R (by exact⟨oB [(1,.ptr 1 l 0 0)] [(1,some<|.box l 24 [.own 6<|j 0])]<|fB R CH (.inl R) (λ_=>R) R,oB [(7,.ptr 1 l 0 0)] [(1,some<|.box l 24 [.own 6<|j 0])]<|Aa (a:=.own 6<|j 0) R B7 (.inl R) R R,oB [(1,.ptr 1 l 0 0)] [(1,some<|.box l 24 [.own 6<|j 0])]<|fB R CH (.inl R) (λ_=>R) R,oB [(9,.ptr 1 l 0 0)] [(1,some<|.box l 24 [.own 6<|j 0])]<|Aa (a:=.own 6<|j 0) R B7 (.inl R) R R,oB [(10,.own 6<|j 0)] [(6,some<|.arr (j 0) 54 9<|rowsF F)]<|S4 R A8.slice (.inl R) R (.inl R) (λ_=>by decide) λ_=>by rw[Vu];exact(ER A).2.2,oB [(11,.ptr 6 (j 0) (0:Int).toNat 0)] [(6,some<|.arr (j 0) 54 9<|rowsF F)]<|GK (ob:=.arr _ _ _ _) R ET (.inl R) (λ_=>R) R,oB [(12,.ptr 6 (j 0) (0:Int).toNat 3)] [(6,some<|.arr (j 0) 54 9<|rowsF F)]<|WS (d:=.slf<|w.Flow.map AL.row) (row:=w.rowF) R E0 (.inl R) (λ_=>R) (λ_=>bL A) λ_=>R,oB [] []<|Bj R Jf (q:=[(1,_)]) (by exact⟨R,R,R,(.inl R),Za⟩) (cs:=Rs)<|by rfl,oM (λ_=>[(14,.agg Rs)]) (λ_=>[]) R λq e h' n=>BZ 15 R Bu (f:=AL.row) (l:=([(AL.mk 0 3 [])]:List AL)) ⟨R,⟨_,(.inl R),R⟩,Za⟩ R (λ_=>R) R,oM (λq=>[(13,.r<|.slf<|w.Flow.map AL.row),(15,.own 15<|q 8)]) (λq=>[(15,some<|.arr (q 8) 37 3<|[(AL.mk 0 3 [])].map AL.row)]) R λq e h' n=>qx<|pu 16 (f:=AL.row) R Bu (.inl R) (.inr<|.inl ⟨_,_,(.inl R),R⟩) (λ_=>R) Z,Za⟩) λq E=>?_
 refine BV [0,1,4,5,6,7,8,9,10,11,12,13,14,15,16] [1,6,15,16] ?_
 refine sQ R (S4 R A8.slice iL R iL (λ_=>by decide) λ_=>by rw[Vu];exact(ER A).2.2)<|sQ R (GK (ob:=.arr _ _ _ _) R ET iL fR R) ?_
 refine ZJ (by exact AZ.frz (e':=[(0,rB false),(1,.ptr 1 l 0 0),(4,.agg<|Bf B),(5,.r<|.sl<|[B].map AL.row),(6,.agg [.own 6<|j 0]),(7,.ptr 1 l 0 0),(8,.own 6<|j 0),(9,.ptr 1 l 0 0),(10,.own 6<|j 0),(11,.ptr 6 (j 0) (0:Int).toNat 0),(12,.ptr 6 (j 0) (0:Int).toNat 3),(13,.r<|.slf<|w.Flow.map AL.row),(14,.agg Rs),(15,.own 15<|q 8),(16,qe T),(17,.ptr 6 (j 0) (0:Int).toNat 0),(18,.ptr 6 (j 0) (0:Int).toNat 3)]) (h':=[(1,some<|.box l 24 [.own 6<|j 0]),(6,some<|.arr (j 0) 54 9<|rowsF F),(15,some<|.arr (q 8) 37 3<|[(AL.mk 0 3 [])].map AL.row)]) 16 R ⟨jL,jL,jL,jL,jL,jL,jL,jL,jL,jL,jL,jL,jL,jL,.inl<|.inr<|.inr ⟨R,R⟩,jL,jL,Za⟩ ⟨R,.inl R,R,.inl R,R,.inl R,Za⟩) ?_
 refine ZJ (qN 6 R) ?_
 refine Zl R R (SE (v:=(AI.mk w.ID w.Kind w.Attrs T w.Grid w.Draw)) R V0 iL R A iL R R R R)<|aZ<|c3 _<|aT λc4=>aG [1] [1,6] ?_
 refine aR<|lF CH B7 R R ?_
 refine sQ R (Bj R Fg (q:=[(0,_),(1,_)]) (by exact⟨R,R,R,iL,R,R,R,iL,Za⟩) (cs:=[.r<|.str [110,97,109,101],.r<|.str [104]])<|by rfl) ?_
 refine sQ R (Bj R Fg (q:=[(0,_),(1,_)]) (by exact⟨R,R,R,iL,R,R,R,iL,Za⟩) (cs:=[.r<|.str [111,102],.r<|.str [112,97,114,97,103,114,97,112,104]])<|by rfl) ?_
 refine sQ R (Bj R Fg (q:=[(0,_),(1,_)]) (by exact⟨R,R,R,iL,R,R,R,iL,Za⟩) (cs:=[.r<|.str [112,46,98,111,108,100],.r<|.str [111,110]])<|by rfl) ?_
 refine sS R (BZ 24 R Ay (f:=AC.row) (l:=([(AC.mk [110,97,109,101] [104]),(AC.mk [111,102] [112,97,114,97,103,114,97,112,104]),(AC.mk [112,46,98,111,108,100] [111,110])]:List AC)) ⟨R,⟨_,iL,R⟩,R,⟨_,iL,R⟩,R,⟨_,iL,R⟩,Za⟩ R (λ_=>R) R) ?_
 refine sQ R (Bj R Jv (q:=[(0,_),(1,_),(2,_)]) (by exact⟨R,R,R,iL,R,R,R,iL,R,R,R,iL,Za⟩) (cs:=[rI 3,rI 11,.own 24 E,cZ,rI 0,rI 0,cZ,cZ,cZ])<|by rfl) ?_
 refine ZJ (by exact AZ.frz (e':=[(1,.ptr 1 l 0 0),(19,.ptr 1 l 0 0),(20,.own 6<|j 0),(21,.agg [.r<|.str [110,97,109,101],.r<|.str [104]]),(22,.agg [.r<|.str [111,102],.r<|.str [112,97,114,97,103,114,97,112,104]]),(23,.agg [.r<|.str [112,46,98,111,108,100],.r<|.str [111,110]]),(24,.r<|.sl<|[(AC.mk [110,97,109,101] [104]),(AC.mk [111,102] [112,97,114,97,103,114,97,112,104]),(AC.mk [112,46,98,111,108,100] [111,110])].map AC.row),(25,.agg [rI 3,rI 11,.r<|.sl<|[(AC.mk [110,97,109,101] [104]),(AC.mk [111,102] [112,97,114,97,103,114,97,112,104]),(AC.mk [112,46,98,111,108,100] [111,110])].map AC.row,cZ,rI 0,rI 0,cZ,cZ,cZ])]) (h':=[(1,some<|.box l 24 [.own 6<|j 0]),(6,some<|.arr (j 0) 54 9<|(F.set (0:Int).toNat<|AI.mk w.ID w.Kind w.Attrs T w.Grid w.Draw).map AI.row)]) 24 R ⟨jL,jL,jL,jL,jL,jL,.inl<|.inr<|.inr ⟨R,R⟩,.inr ⟨_,_,R,R,⟨.inl R,.inl R,.inr<|.inr ⟨R,R⟩,.inl R,.inl R,.inl R,.inl R,.inl R,.inl R,Za⟩⟩,Za⟩ ⟨R,.inl R,R,.inl R,Za⟩) ?_
 refine sS R (BZ 26 R A8 (f:=AI.row) (l:=([(AI.mk 3 11 [(AC.mk [110,97,109,101] [104]),(AC.mk [111,102] [112,97,114,97,103,114,97,112,104]),(AC.mk [112,46,98,111,108,100] [111,110])] [] (Ar.mk 0 0 [] []) [])]:List AI)) ⟨R,⟨_,iL,R⟩,Za⟩ R (λ_=>R) R)<|AG h4 λC a0 h5=>sS R (Cs R A8 iL R (.inr<|.inl ⟨_,_,iL,R⟩) a0)<|sQ R (fB R CH iL fR R)<|Zl R R (A4 (ds:=[.own 6<|E+2]) R YA iL R iL R R R R)<|aZ<|c4 _<|aT λc5=>aG [1] [1,6] ?_
 refine aR<|xC Bs R ?_
 refine sQ R (Bj R Jf (q:=[(0,_)]) (by exact⟨R,R,R,iL,Za⟩) (cs:=[rI 97,rI 0,cZ])<|by rfl) ?_
 refine sQ R (Bj R Fg (q:=[(0,_),(1,_)]) (by exact⟨R,R,R,iL,R,R,R,iL,Za⟩) (cs:=QE)<|by rfl) ?_
 refine sS R (BZ 33 R Ay (f:=AC.row) (l:=([(AC.mk [115,116,121,108,101] [104])]:List AC)) ⟨R,⟨_,iL,R⟩,Za⟩ R (λ_=>R) R) ?_
 refine ZJ (by exact AZ.frz (e':=[(1,.ptr 1 l 0 0),(30,.agg [qb C]),(31,.agg [rI 97,rI 0,cZ]),(32,.agg QE),(33,.own 33<|E+3)]) (h':=[(1,some<|.box l 24 [qb C]),(33,some<|.arr (E+3) 71 2<|[(AC.mk [115,116,121,108,101] [104])].map AC.row)]) 6 R ⟨jL,.inr ⟨_,_,R,R,⟨.inr<|.inr ⟨R,R⟩,Za⟩⟩,jL,jL,jL,Za⟩ ⟨R,.inr<|.inr<|.inl ⟨_,_,_,_,R,R,⟨.inr<|.inr ⟨R,R⟩,Za⟩⟩,R,.inl R,Za⟩) ?_
 refine ZJ (by exact AZ.frz (e':=[(1,.ptr 1 l 0 0),(30,.agg [qb C]),(31,.agg [rI 97,rI 0,cZ]),(32,.agg QE),(33,.r<|.sl<|[(AC.mk [115,116,121,108,101] [104])].map AC.row)]) (h':=[(1,some<|.box l 24 [qb C])]) 33 R ⟨jL,jL,jL,jL,.inl<|.inr<|.inr ⟨R,R⟩,Za⟩ ⟨R,.inl R,Za⟩) ?_
 refine ZJ (by exact AZ.cv (e':=[(1,.ptr 1 l 0 0),(30,.agg [qb C]),(31,.agg [rI 97,rI 0,.r<|.sl []]),(32,.agg QE),(33,.r<|.sl<|[(AC.mk [115,116,121,108,101] [104])].map AC.row)]) (h':=[(1,some<|.box l 24 [qb C])]) ⟨jL,jL,.inr ⟨_,_,R,R,⟨.inl R,.inl R,.inr<|.inr ⟨R,R⟩,Za⟩⟩,jL,jL,Za⟩ ⟨.inl R,Za⟩ nL) ?_
 refine Ed h5 λU I a1 h6=>sS R (BJ (r:=.tup [qa U,rI I]) (caps:=[]) (bs:=[.agg [qb C],.agg [rI 97,rI 0,.r<|.sl []],.r<|.sl<|[(AC.mk [115,116,121,108,101] [104])].map AC.row]) R iL R ⟨.inl ⟨iL,R⟩,.inl ⟨iL,R⟩,.inl ⟨iL,R⟩,Za⟩ λ_=>Xx<|a1)<|mM R<|xX R<|xX R<|mA R<|mA R<|aZ<|c5 _<|aS λK6 c6 J=>aF [2,3] ?_
 refine aR<|AG h6 λM a2 h7=>cL (lv<|a2) R<|mM R<|vM R<|vQ R (A9 R (iR R) iL)<|xN R<|mM R<|vM R<|BS h7 λp1 O a6=>?_
 have J1:∀(x2:Bool) (i2:NN),p1=x2→K6 ⟨[(0,rB x2)],[],(i2 0),47⟩:=by
  intro x2 i2 e
  have h8:=a6 _ e
  exact c6 _<|Zi<|yB h8 R
 refine AX.split ((M&&(I=0))==true) (λm=>?_) λm=>?_
 ·have h9:=DN m O
  refine ZJ (by exact Ht (e':=[(2,qa U),(3,rI I),(37,rB M),(38,rB M),(41,rB<|(M&&(I=0))),(42,rB<|(M&&(I=0))),(43,qa U)]) m ⟨.inl R,.inl R,.inl R,.inl R,.inl R,.inl R,.inr iL,Za⟩) ?_
  exact AG h9 λr5 a7 a8=>ZN (.one R R R) m R R (BJ (r:=qa r5) (caps:=[]) (bs:=[.r<|.str [98,111,108,100]]) R (.inl R) R ⟨.inl ⟨(.inl R),R⟩,Za⟩ λ_=>ip<|a7)<|AG a8 λr6 aa ab=>ZN (.one R R R) m R R (Cw (r:=rB r6) (caps:=[]) (bs:=[qa U,qa r5]) R (.inl R) R ⟨⟨_,(.inl R),.d R⟩,⟨_,(.inl R),.d R⟩,Za⟩ (λ_=>MP<|aa) R)<|sQ R (Bb R iL iL)<|mA R<|Zh<|J _ _ wk<|J1 _ (AH [(E+4)]) (Zf ab).symm
 ·have h9:=DH m O
  exact Zy (.one R R R) m R R<|Zy (.one R R R) m R R<|xN R<|mA R<|Zh<|J _ _ wk<|J1 _ (AH [(E+4)]) (Zf h9).symm
theorem lZ{d1 n o r}(h:LN d1 n o=some r):AR prog 10 [.agg [qb d1.Nodes],rS n,rS o] (.tup [.r<|.sl<|r.1.map IZ,rI r.2]):=by
 unfold LN at h
 refine mF func10 ntmps10 R λw=>aU<|sS R (At (cs:=[qb d1.Nodes]) 3 R iL R R)<|mA R<|mA R<|aZ<|aT λc2=>aU<|xC Bs R<|AG h λC F h1=>cL (Pz<|F) R<|mA R<|aZ<|aU<|mM R<|xU R<|aZ<|cI R h1 (λI=>?_) λI=>?_
 ·refine aT λc5=>aF [8] ?_
  exact aR<|mM R<|mA R<|mA R<|aZ<|c5 _<|Zi<|DC (P:=prog) (λ(r:(List<|List UInt8) × Int)=>.r<|.sl<|r.1.map IZ) (λ(r:(List<|List UInt8) × Int)=>rI r.2) I iL (.t<|.one<|.nil)<|.t<|.d R
 refine Zc<|c2 _<|aU<|mA R<|aZ<|aS λK7 c7 J=>aU<|xC Bs R<|AG I λM O h3=>sS R (BJ (r:=.agg [qb M.nodes]) (caps:=[]) (bs:=[.agg [qb d1.Nodes]]) R iL R ⟨.inl ⟨iL,R⟩,Za⟩ λ_=>VD<|O)<|mM R<|mM R<|AG h3 λA T h4=>sS R (BJ (r:=qb A) (caps:=[]) (bs:=[.agg [qb M.nodes],rS n,rS o]) R iL R ⟨.inl ⟨iL,R⟩,.inl ⟨iL,R⟩,.inl ⟨iL,R⟩,Za⟩ λ_=>Xk<|T)<|xL A8 R<|mM R<|aZ<|Ze<|BS h4 λo1 B U=>?_
 have J1:∀(j:List (List UInt8)) (E:NN),o1=j→K7 ⟨[(9,.own 5009<|E 0)],[(5009,some<|.arr (E 0) 9 1<|j.map IZ)],(E 1),35⟩:=by
  intro j E e
  have h5:=U _ e
  exact c7 _<|aU<|mM R<|mA R<|mA R<|aZ<|Zi<|DC (P:=prog) (λ(r:(List<|List UInt8) × Int)=>.r<|.sl<|r.1.map IZ) (λ(r:(List<|List UInt8) × Int)=>rI r.2) h5 iL (.t<|.one<|.own R)<|.t<|.d R
 refine ZK (λ(V:Int) (l:List (List UInt8)) m=>⟨[(9,.own 5009<|m 0),(21,qb A),(22,rL A),(23,rI V)],[(5009,some<|.arr (m 0) 9 1<|l.map IZ)],(m 1),35⟩) (AH [(w+1),(w+2)]) B (Zw (Zw (Fd 9 5009 9 1 (by decide) R)<|by exact AZ.cv (e':=[(0,.agg [qb d1.Nodes]),(1,rS n),(2,rS o),(3,.ptr 3 w 0 0),(6,cZ),(7,rI 0),(8,rI C),(9,.own 5009<|w+1),(12,.agg [qb d1.Nodes]),(13,rI C),(14,rI C),(15,rB<|(!(C=0))),(17,.agg [qb d1.Nodes]),(18,.agg [qb M.nodes]),(19,rS n),(20,rS o),(21,qb A),(22,rL A),(23,rI 0)]) (h':=[(3,some<|.box w 24 [qb d1.Nodes]),(5009,some<|.arr (w+1) 9 1<|([]:List (List UInt8)).map IZ)]) ⟨jL,jL,jL,jL,jL,jL,jL,jL,jL,jL,jL,jL,jL,jL,jL,jL,jL,jL,jL,Za⟩ ⟨.inl R,.inl R,Za⟩ nL) wk) ?_
 intro V l m v1 X Z
 have h6:Iv A V l=some v1:=X;unfold Iv at h6
 refine aU<|xS R<|aZ<|aT λa0=>cI R h6 (λh7=>?_) λh7=>?_
 ·refine Zc<|a0 _<|aT λa1=>Ze<|aU<|AG h7 λx4 a2 h8=>xI A8 R a2<|xB ((Af x4)) Cf R<|sS R (BH (cs:=De) 11 R GA R R)<|Zl R R (A4 (ds:=(Af x4)) R E8 iL R iL R R R R)<|aZ<|aR<|mM R<|lF Eg Bw R R<|AG h8 λr3 a6 h9=>cL (Jp<|a6) R<|sS R (BZ 31 R Ly (f:=IZ) (l:=([r3]:List (List UInt8))) ⟨R,⟨_,iL,R⟩,Za⟩ R (λ_=>R) R)<|AG h9 λab q a7=>sS R (Cs R Ly iL R (.inr<|.inl ⟨_,_,iL,R⟩) q)<|mA R<|aZ<|a1 _<|aG [9,21,22,23] [5009] ?_
  exact aR<|AG a7 λx5 a8 aa=>xA R a8<|mM R<|Zh<|ZI aa (AH [((m 1)+2),((m 1)+3)]) wk
 exact Zm<|J _ _ wk<|J1 _ (AH [(m 0),(m 1)])<|xH Z h7
theorem oG{j a r}(h:Pu j a=some r):AR prog 39 [.agg [qb j.nodes],qa a] (qa r):=by
 unfold Pu at h
 refine mF func39 ntmps39 R λI=>aU<|sS R (At (cs:=[qb j.nodes]) 2 R iL R R)<|mA R<|aZ<|aT λO=>AG h λl q T=>AG T λm w U=>AG U λA B V=>?_
 refine rP 6 [pO 5<|.agg [qb j.nodes],pO 6<|qa a,pO 7<|rS l,pO 8<|qa m,pO 9<|qa A,pO 10<|qa a] BR R (by exact⟨oB [(2,.ptr 2 I 0 0)] [(2,some<|.box I 74 [qb j.nodes])]<|DG R KZ (.inl R) R R,oB [(1,qa a)] []<|AK R<|.inl R,oD (λ_=>[(6,qa a)]) (λ_=>[]) λC e J n=>Cw (r:=rS l) (caps:=[]) (bs:=[qa a,.r<|.str [115,116,121,108,101]]) R (.inl R) R ⟨⟨_,(.inl R),.d R⟩,⟨_,(.inl R),.d R⟩,Za⟩ (λ_=>Jp<|q) R,oD (λ_=>[(5,.agg [qb j.nodes]),(7,rS l)]) (λ_=>[]) λC e J n=>BJ (r:=qa m) (caps:=[]) (bs:=[.agg [qb j.nodes],rS l,.r<|.str [112,97,114,97,103,114,97,112,104]]) R (.inl R) R ⟨.inl ⟨(.inl R),R⟩,.inl ⟨(.inl R),R⟩,.inl ⟨(.inl R),R⟩,Za⟩ λ_=>Ul<|w,oD (λ_=>[(8,qa m)]) (λ_=>[]) λC e J n=>BJ (r:=qa A) (caps:=[]) (bs:=[qa m]) R (.inl R) R ⟨.inl ⟨(.inl R),R⟩,Za⟩ λ_=>NB<|B,oB [(1,qa a)] []<|AK R<|.inl R,Za⟩) λC n1=>?_
 refine BV [0,1,2,4,5,6,7,8,9,10] [2] ?_
 exact AG V λM E X=>sS R (BJ (r:=qa M) (caps:=[]) (bs:=[qa a]) R iL R ⟨.inl ⟨iL,R⟩,Za⟩ λ_=>NB<|E)<|AG X λZ F h5=>sS R (BJ (r:=qa Z) (caps:=[]) (bs:=[qa A,qa M]) R iL R ⟨.inl ⟨iL,R⟩,.inl ⟨iL,R⟩,Za⟩ λ_=>Lx<|F)<|mA R<|aZ<|O _<|Zi<|Bz (P:=prog) (λ(r:(List AC))=>qa r) h5 iL<|.t<|.d R
theorem g8{d1 a r}(h:KT d1 a=some r):AR prog 12 [.agg [qb d1.Nodes],qa a] (.tup [qa r.1,rI r.2]):=by
 unfold KT at h
 refine mF func12 ntmps12 R λV=>aU<|sS R (At (cs:=[qb d1.Nodes]) 2 R iL R R)<|mA R<|mA R<|aZ<|aT λC=>aU<|xC Bs R<|AG h λX j E=>cL (Pz<|j) R<|mA R<|aZ<|aU<|mM R<|xU R<|aZ<|cI R E (λl=>?_) λl=>?_
 ·refine aT λF=>aF [6] ?_
  exact aR<|mM R<|mA R<|mA R<|aZ<|F _<|Zi<|DC (P:=prog) (λ(r:(List AC) × Int)=>qa r.1) (λ(r:(List AC) × Int)=>rI r.2) l iL (.t<|.one<|.nil)<|.t<|.d R
 refine Zc<|C _<|aT λI=>aU<|mM R<|AG l λZ m J=>cL (Pn<|m) R<|mA R<|aZ<|aT λM=>aG [1,2,7] [2] ?_
 refine aR<|mM R<|xU R<|aZ<|M _<|cI R J (λq=>?_) λq=>?_
 ·exact aU<|mM R<|mA R<|mA R<|aZ<|Zi<|DC (P:=prog) (λ(r:(List AC) × Int)=>qa r.1) (λ(r:(List AC) × Int)=>rI r.2) q iL (.t<|.one<|.nil)<|.t<|.d R
 exact Zc<|I _<|aU<|xC Bs R<|AG q λB w O=>sS R (BJ (r:=.agg [qb B.nodes]) (caps:=[]) (bs:=[.agg [qb d1.Nodes]]) R iL R ⟨.inl ⟨iL,R⟩,Za⟩ λ_=>VD<|w)<|mM R<|AG O λT A U=>sS R (BJ (r:=qa T) (caps:=[]) (bs:=[.agg [qb B.nodes],qa a]) R iL R ⟨.inl ⟨iL,R⟩,.inl ⟨iL,R⟩,Za⟩ λ_=>oG<|A)<|mA R<|mA R<|aZ<|Zi<|DC (P:=prog) (λ(r:(List AC) × Int)=>qa r.1) (λ(r:(List AC) × Int)=>rI r.2) U iL (.t<|.d R)<|.t<|.d R
theorem Dm{j l a r}(h:Cy j l a=some r):AR prog 45 [rI j,rI l,rI a] (rB r):=by
 unfold Cy at h
 exact mF func45 ntmps45 R λm=>aU<|mA R<|aZ<|aU<|mM R<|mM R<|sQ R (Cq R iL iL)<|mM R<|vM R<|vM R<|vQ R (FG R (iR R)<|iR R)<|xN R<|mA R<|aZ<|Zi<|yB h R
theorem TT{l r}(h:JR l=some r):AR prog 46 [rS l] (rB r):=by
 unfold JR at h
 refine mF func46 ntmps46 R λX=>aU<|mA R<|aZ<|aS λZ c2 A=>aU<|mM R<|sQ R (DJ R underlying9 iL)<|mM R<|aZ<|Ze<|BM h λo1 m B C=>?_
 have J1:∀(T:Unit) (U:NN),o1=.nrm T→Z ⟨[(0,rS l)],[],(U 0),59⟩:=by
  intro T U e
  have h1:=B _ e
  exact c2 _<|aU<|mM R<|sQ R (DJ R underlying9 iL)<|sQ R (Cq R iL iL)<|mM R<|vM R<|vQ R (DJ R underlying9<|iR R)<|vQ R (FG R (iR R) iL)<|xN R<|mA R<|aZ<|Zi<|yB h1 R
 refine Zt (λ(E:Int) w=>⟨[(0,rS l),(6,rL l),(7,rI E)],[],(w 0),59⟩) (AH [X]) m wk ?_
 intro E w v1 F q
 have V:MF l E=some v1:=F;unfold MF at V
 refine aU<|xS R<|aZ<|aT λc6=>cI R V (λI=>?_) λI=>?_
 ·refine Zc<|c6 _<|aT λc7=>Ze<|aU<|mM R<|mA R<|aZ<|aU<|mM R<|mM R<|AG I λa0 j h4=>sQ R (Ck R underlying9 iL iL λ_=>j)<|sQ R (Cq R iL iL)<|mM R<|vM R<|vM R<|vQ R (Ck R underlying9 (iR R) (iR R) λ_=>j)<|vQ R (FG R (iR R) iL)<|xN R<|mA R<|aZ<|aT λJ=>aR<|mM R<|sQ R (BD R iL)<|mM R<|vM R<|vQ R (A9 R (iR R) iL)<|vQ R (AK R<|iR R)<|wQ R (AK R iL)<|wQ R (AK R iL)<|wQ R (Ck R underlying9 (iR R) (iR R) λ_=>j)<|wQ R (DL R (iR R) iL)<|wQ R (AK R<|iR R)<|wQ R (AK R iL)<|wQ R (AK R iL)<|wQ R (Ck R underlying9 (iR R) (iR R) λ_=>j)<|wQ R (DL R (iR R) iL)<|wQ R (Bb R (iR R)<|iR R)<|wQ R (AK R<|iR R)<|wQ R (AK R iL)<|wQ R (AK R iL)<|wQ R (Ck R underlying9 (iR R) (iR R) λ_=>j)<|wQ R (CN R (iR R) iL)<|wQ R (AK R<|iR R)<|wQ R (AK R iL)<|wQ R (AK R iL)<|wQ R (Ck R underlying9 (iR R) (iR R) λ_=>j)<|wQ R (Bh R (iR R) iL)<|wQ R (CZ R (iR R)<|iR R)<|wQ R (Bb R (iR R)<|iR R)<|vQ R (CZ R (iR R)<|iR R)<|xN R<|aZ<|J _<|cI R h4 (λM=>?_) λM=>?_
  ·exact zB (C _<|xH q M) R id
  refine Zc<|c7 _<|aF [0,6,7] ?_
  exact aR<|AG M λx4 O h6=>xA R O<|mM R<|Zh<|Zq h6 (AH [(w 0)]) wk
 exact Zm<|A _ _ wk<|J1 _ (AH [(w 0)])<|xH q I
end Go.Proofs.YtifgmfoihehlbaaGreatDoor.Al
