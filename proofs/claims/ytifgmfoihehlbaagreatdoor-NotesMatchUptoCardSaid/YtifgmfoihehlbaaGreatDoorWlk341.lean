/- Walks, as printed. -/
import Derived.Test.YtifgmfoihehlbaaGreatDoorPL2
import Derived.Test.YtifgmfoihehlbaaGreatDoorProg
set_option linter.all false
set_option maxHeartbeats 4000000
set_option maxRecDepth 20000
set_option linter.unusedVariables false
namespace Go.Proofs.YtifgmfoihehlbaaGreatDoor.Al
open Go.Proofs Go.Proofs.Tryz
@[reducible] noncomputable def CB t:=(prog.info? t).map (λi=>(i.zero,i.size,i.bytes))
theorem BM:prog.follows .mixedOrders=true:=by kernel_rfl
theorem R3:CB 105=some (some<|.agg #[.int .i64 0,.int .i64 0,.bool false],3,24):=by kernel_rfl
theorem Pm:CB 107=some (some<|.agg #[.int .i64 0,.int .i64 0,.string ⟨#[]⟩,.int .i64 0,.slice none 0 0],5,64):=by kernel_rfl
theorem Ni:CB 109=some (some<|.agg #[.int .i64 0,.int .i64 0,.int .i64 0,.int .i64 0],4,32):=by kernel_rfl
theorem aV:CB 121=some (some<|.nilFunc,1,8):=by kernel_rfl
theorem Yr:CB 133=some (some<|.agg #[.int .i64 0,.int .i64 0,.bool false],3,24):=by kernel_rfl
theorem SH:CB 134=some (some<|.nilFunc,1,8):=by kernel_rfl
theorem Rd:CB 146=some (some<|.agg #[.int .i64 0,.int .i64 0,.int .i64 0,.int .i64 0,.int .i64 0,.string ⟨#[]⟩,.string ⟨#[]⟩,.string ⟨#[]⟩],8,88):=by kernel_rfl
theorem T4:CB 162=some (some<|.slice none 0 0,1,24):=by kernel_rfl
theorem OS:CB 167=some (some<|.agg #[.int .i64 0,.int .i64 0,.string ⟨#[]⟩,.slice none 0 0],4,56):=by kernel_rfl
theorem Tb:CB 193=some (some<|.map none,1,8):=by kernel_rfl
theorem VR:CB 194=some (some<|.map none,1,8):=by kernel_rfl
theorem Vr:CB 195=some (some<|.map none,1,8):=by kernel_rfl
theorem nv:CB 197=some (some<|.agg #[.map none,.map none],2,16):=by kernel_rfl
theorem gj:CB 198=some (some<|.pointer none,1,8):=by kernel_rfl
theorem TI:CB 199=some (some<|.nilFunc,1,8):=by kernel_rfl
theorem Rt:CB 208=some (some<|.agg #[.int .u8 0,.int .u8 0],2,2):=by kernel_rfl
theorem TQ:CB 22=some (some<|.slice none 0 0,1,24):=by kernel_rfl
theorem Pc:CB 24=some (some<|.agg #[.slice none 0 0],1,24):=by kernel_rfl
theorem Tw:CB 26=some (some<|.slice none 0 0,1,24):=by kernel_rfl
theorem Ct:CB 3=some (some<|.int .i64 0,1,8):=by kernel_rfl
theorem Sm:CB 33=some (some<|.agg #[.int .i64 0,.int .i64 0,.bool false],3,24):=by kernel_rfl
theorem Kj:CB 35=some (some<|.slice none 0 0,1,24):=by kernel_rfl
theorem Lg:CB 37=some (some<|.agg #[.int .i64 0,.int .i64 0,.slice none 0 0],3,40):=by kernel_rfl
theorem QV:CB 4=some (some<|.bool false,1,1):=by kernel_rfl
theorem Tf:CB 47=some (some<|.slice none 0 0,1,24):=by kernel_rfl
theorem Tx:CB 48=some (some<|.slice none 0 0,1,24):=by kernel_rfl
theorem SY:CB 49=some (some<|.slice none 0 0,1,24):=by kernel_rfl
theorem Qs:CB 5=some (some<|.int .u8 0,1,1):=by kernel_rfl
theorem OR:CB 51=some (some<|.agg #[.int .i64 0,.int .i64 0,.slice none 0 0,.slice none 0 0],4,64):=by kernel_rfl
theorem Sp:CB 52=some (some<|.slice none 0 0,1,24):=by kernel_rfl
theorem L5:CB 54=some (some<|.agg #[.int .i64 0,.int .i64 0,.slice none 0 0,.slice none 0 0,.int .i64 0,.int .i64 0,.slice none 0 0,.slice none 0 0,.slice none 0 0],9,152):=by kernel_rfl
theorem jV:CB 65=some (some<|.agg #[.int .i64 0,.int .i64 0],2,16):=by kernel_rfl
theorem YU:CB 67=some (some<|.nilFunc,1,8):=by kernel_rfl
theorem NR:CB 71=some (some<|.agg #[.string ⟨#[]⟩,.string ⟨#[]⟩],2,32):=by kernel_rfl
theorem Jf:CB 9=some (some<|.string ⟨#[]⟩,1,16):=by kernel_rfl
theorem TB:CB 92=some (some<|.pointer none,1,8):=by kernel_rfl
theorem Yj:CB 93=some (some<|.map none,1,8):=by kernel_rfl
theorem Qf:CB 94=some (some<|.map none,1,8):=by kernel_rfl
theorem ne:CB 96=some (some<|.agg #[.slice none 0 0,.map none,.map none,.nilFunc],4,48):=by kernel_rfl
def G8:=DB.of Pm
def Gw:=DB.of Ni
def Z2:=DB.of SH
def Rh:=DB.of Rd
def Qd:=DB.of T4
def PI:=DB.of OS
def mt:=DB.of Tb
def pG:=DB.of gj
def fg:=DB.of TI
def Zd:=DB.of Rt
def MK:=DB.of Pc
def iy:=DB.of Tw
def VW:=DB.of Ct
def UD:=DB.of Kj
def JD:=DB.of Lg
def NX:=DB.of QV
def nr:=DB.of OR
def Gq:=DB.of L5
def em:=DB.of jV
def X0:=DB.of NR
def mz:=DB.of TB
def Xb:=DB.of Qf
theorem fZ:prog.underlying 181=some (.interface<|prog.methodsAt 181):=by kernel_rfl
theorem mc:Bq prog 105 3:=Bq.of underlying105 rfl R3
theorem EM:Bq prog 107 5:=Bq.of underlying107 rfl Pm
theorem DW:Bq prog 109 4:=Bq.of underlying109 rfl Ni
theorem gI:Bq prog 133 3:=Bq.of underlying133 rfl Yr
theorem HL:Bq prog 146 8:=Bq.of underlying146 rfl Rd
theorem Gz:Bq prog 167 4:=Bq.of underlying167 rfl OS
theorem fJ:Bq prog 208 2:=Bq.of underlying208 rfl Rt
theorem Bz:Bq prog 24 1:=Bq.of underlying24 rfl Pc
theorem S8:Bq prog 33 3:=Bq.of underlying33 rfl Sm
theorem Fr:Bq prog 37 3:=Bq.of underlying37 rfl Lg
theorem GM:Bq prog 51 4:=Bq.of underlying51 rfl OR
theorem C0:Bq prog 54 9:=Bq.of underlying54 rfl L5
theorem En:Bq prog 71 2:=Bq.of underlying71 rfl NR
theorem ol:Hn 0=some (GW.flatMap<|Ab .u8):=by kernel_rfl
theorem jM:Hn 1=some (QC.flatMap IO.row):=by kernel_rfl
theorem RH:DA prog 105 [(0,1),(1,1),(2,1)] [.int .i64 0,.int .i64 0,.bool false]:=DA.of underlying105 (λw=>by kernel_rfl) R3
theorem Wv:DA prog 109 [(0,1),(1,1),(2,1),(3,1)] [.int .i64 0,.int .i64 0,.int .i64 0,.int .i64 0]:=DA.of underlying109 (λw=>by kernel_rfl) Ni
theorem RR:DA prog 133 [(0,1),(1,1),(2,1)] [.int .i64 0,.int .i64 0,.bool false]:=DA.of underlying133 (λw=>by kernel_rfl) Yr
theorem RD:DA prog 167 [(0,1),(1,1),(2,1),(3,1)] [.int .i64 0,.int .i64 0,.string ⟨#[]⟩,.slice none 0 0]:=DA.of underlying167 (λw=>by kernel_rfl) OS
theorem g8:DA prog 197 [(0,1),(1,1)] [.map none,.map none]:=DA.of underlying197 (λw=>by kernel_rfl) nv
theorem Qo:DA prog 24 [(0,1)] [.slice none 0 0]:=DA.of underlying24 (λw=>by kernel_rfl) Pc
theorem Mw:DA prog 33 [(0,1),(1,1),(2,1)] [.int .i64 0,.int .i64 0,.bool false]:=DA.of underlying33 (λw=>by kernel_rfl) Sm
theorem Kb:DA prog 37 [(0,1),(1,1),(2,1)] [.int .i64 0,.int .i64 0,.slice none 0 0]:=DA.of underlying37 (λw=>by kernel_rfl) Lg
theorem ZC:DA prog 51 [(0,1),(1,1),(2,1),(3,1)] [.int .i64 0,.int .i64 0,.slice none 0 0,.slice none 0 0]:=DA.of underlying51 (λw=>by kernel_rfl) OR
theorem Kq:DA prog 54 [(0,1),(1,1),(2,1),(3,1),(4,4),(8,1)] [.int .i64 0,.int .i64 0,.slice none 0 0,.slice none 0 0,.int .i64 0,.int .i64 0,.slice none 0 0,.slice none 0 0,.slice none 0 0]:=DA.of underlying54 (λw=>by kernel_rfl) L5
theorem QY:DA prog 71 [(0,1),(1,1)] [.string ⟨#[]⟩,.string ⟨#[]⟩]:=DA.of underlying71 (λw=>by kernel_rfl) NR
theorem pg:DA prog 96 [(0,1),(1,1),(2,1),(3,1)] [.slice none 0 0,.map none,.map none,.nilFunc]:=DA.of underlying96 (λw=>by kernel_rfl) ne
theorem VL:GF prog 109 [some<|.int .i64,some<|.int .i64,some<|.int .i64,some<|.int .i64]:=GF.of underlying109 (by kernel_rfl) (by kernel_rfl)<|by exact⟨rfl,rfl,underlying3,rfl,rfl,underlying3,rfl,rfl,underlying3,rfl,rfl,underlying3,trivial⟩
theorem jt:GF prog 146 [some<|.int .i64,some<|.int .i64,some<|.int .i64,some<|.int .i64,some<|.int .i64,some .string,some .string,some .string]:=GF.of underlying146 (by kernel_rfl) (by kernel_rfl)<|by exact⟨rfl,rfl,underlying3,rfl,rfl,underlying3,rfl,rfl,underlying3,rfl,rfl,underlying3,rfl,rfl,underlying3,rfl,rfl,underlying9,rfl,rfl,underlying9,rfl,rfl,underlying9,trivial⟩
theorem Uo:GF prog 33 [some<|.int .i64,some<|.int .i64,some .bool]:=GF.of underlying33 (by kernel_rfl) (by kernel_rfl)<|by exact⟨rfl,rfl,underlying3,rfl,rfl,underlying3,rfl,rfl,underlying4,trivial⟩
theorem Ul:GF prog 71 [some .string,some .string]:=GF.of underlying71 (by kernel_rfl) (by kernel_rfl)<|by exact⟨rfl,rfl,underlying9,rfl,rfl,underlying9,trivial⟩
theorem MS:Ao prog 105 0 0:=Ao.of underlying105 rfl rfl Ct<|by decide
theorem Vo:Ao prog 105 1 1:=Ao.of underlying105 rfl rfl Ct<|by decide
theorem T9:Ao prog 105 2 2:=Ao.of underlying105 rfl rfl QV<|by decide
theorem D5:Ao prog 107 0 0:=Ao.of underlying107 rfl rfl Ct<|by decide
theorem ES:Ao prog 107 1 1:=Ao.of underlying107 rfl rfl Ct<|by decide
theorem He:Ao prog 107 2 2:=Ao.of underlying107 rfl rfl Jf<|by decide
theorem Ce:Ao prog 107 3 3:=Ao.of underlying107 rfl rfl Ct<|by decide
theorem GX:Ao prog 107 4 4:=Ao.of underlying107 rfl rfl Kj<|by decide
theorem Cu:Ao prog 109 0 0:=Ao.of underlying109 rfl rfl Ct<|by decide
theorem DQ:Ao prog 109 1 1:=Ao.of underlying109 rfl rfl Ct<|by decide
theorem G0:Ao prog 109 2 2:=Ao.of underlying109 rfl rfl Ct<|by decide
theorem Gr:Ao prog 109 3 3:=Ao.of underlying109 rfl rfl Ct<|by decide
theorem KS:Ao prog 133 0 0:=Ao.of underlying133 rfl rfl Ct<|by decide
theorem fx:Ao prog 133 1 1:=Ao.of underlying133 rfl rfl Ct<|by decide
theorem TU:Ao prog 133 2 2:=Ao.of underlying133 rfl rfl QV<|by decide
theorem IB:Ao prog 146 0 0:=Ao.of underlying146 rfl rfl Ct<|by decide
theorem Kh:Ao prog 146 1 1:=Ao.of underlying146 rfl rfl Ct<|by decide
theorem Fp:Ao prog 146 2 2:=Ao.of underlying146 rfl rfl Ct<|by decide
theorem Fa:Ao prog 146 3 3:=Ao.of underlying146 rfl rfl Ct<|by decide
theorem HQ:Ao prog 146 4 4:=Ao.of underlying146 rfl rfl Ct<|by decide
theorem MV:Ao prog 146 5 5:=Ao.of underlying146 rfl rfl Jf<|by decide
theorem MB:Ao prog 146 6 6:=Ao.of underlying146 rfl rfl Jf<|by decide
theorem JI:Ao prog 146 7 7:=Ao.of underlying146 rfl rfl Jf<|by decide
theorem Et:Ao prog 167 0 0:=Ao.of underlying167 rfl rfl Ct<|by decide
theorem Lj:Ao prog 167 1 1:=Ao.of underlying167 rfl rfl Ct<|by decide
theorem H5:Ao prog 167 2 2:=Ao.of underlying167 rfl rfl Jf<|by decide
theorem Ks:Ao prog 167 3 3:=Ao.of underlying167 rfl rfl Kj<|by decide
theorem Tn:Ao prog 197 0 0:=Ao.of underlying197 rfl rfl VR<|by decide
theorem TH:Ao prog 197 1 1:=Ao.of underlying197 rfl rfl Vr<|by decide
theorem eM:Ao prog 208 0 0:=Ao.of underlying208 rfl rfl Qs<|by decide
theorem ph:Ao prog 208 1 1:=Ao.of underlying208 rfl rfl Qs<|by decide
theorem B6:Ao prog 24 0 0:=Ao.of underlying24 rfl rfl TQ<|by decide
theorem Fh:Ao prog 37 0 0:=Ao.of underlying37 rfl rfl Ct<|by decide
theorem Cm:Ao prog 37 1 1:=Ao.of underlying37 rfl rfl Ct<|by decide
theorem H9:Ao prog 37 2 2:=Ao.of underlying37 rfl rfl Kj<|by decide
theorem Gc:Ao prog 51 0 0:=Ao.of underlying51 rfl rfl Ct<|by decide
theorem GZ:Ao prog 51 1 1:=Ao.of underlying51 rfl rfl Ct<|by decide
theorem DX:Ao prog 51 2 2:=Ao.of underlying51 rfl rfl Tx<|by decide
theorem EP:Ao prog 51 3 3:=Ao.of underlying51 rfl rfl SY<|by decide
theorem Da:Ao prog 54 0 0:=Ao.of underlying54 rfl rfl Ct<|by decide
theorem CP:Ao prog 54 1 1:=Ao.of underlying54 rfl rfl Ct<|by decide
theorem Ji:Ao prog 54 2 2:=Ao.of underlying54 rfl rfl Kj<|by decide
theorem Dk:Ao prog 54 3 3:=Ao.of underlying54 rfl rfl Tf<|by decide
theorem DS:Ao prog 54 4 4:=Ao.of underlying54 rfl rfl OR<|by decide
theorem Ga:Ao prog 54 5 8:=Ao.of underlying54 rfl rfl Sp<|by decide
theorem Ek:Ao prog 71 0 0:=Ao.of underlying71 rfl rfl Jf<|by decide
theorem JQ:Ao prog 71 1 1:=Ao.of underlying71 rfl rfl Jf<|by decide
theorem Qk:Ao prog 96 0 0:=Ao.of underlying96 rfl rfl Pc<|by decide
theorem US:Ao prog 96 1 1:=Ao.of underlying96 rfl rfl Yj<|by decide
theorem P2:Ao prog 96 2 2:=Ao.of underlying96 rfl rfl Qf<|by decide
theorem YS:Ao prog 96 3 3:=Ao.of underlying96 rfl rfl YU<|by decide
theorem LV:B4 prog 100 105 3 24:=B4.of underlying100 R3 rfl rfl<|by decide
theorem BX:B4 prog 162 167 4 56:=B4.of underlying162 OS rfl rfl<|by decide
theorem Bh:B4 prog 22 54 9 152:=B4.of underlying22 L5 rfl rfl<|by decide
theorem FE:B4 prog 26 33 3 24:=B4.of underlying26 Sm rfl rfl<|by decide
theorem BH:B4 prog 35 71 2 32:=B4.of underlying35 NR rfl rfl<|by decide
theorem Bb:B4 prog 47 37 3 40:=B4.of underlying47 Lg rfl rfl<|by decide
theorem Bx:B4 prog 48 107 5 64:=B4.of underlying48 Pm rfl rfl<|by decide
theorem Cz:B4 prog 49 109 4 32:=B4.of underlying49 Ni rfl rfl<|by decide
theorem EB:B4 prog 52 146 8 88:=B4.of underlying52 Rd rfl rfl<|by decide
theorem Bi:B4 prog 68 3 1 8:=B4.of underlying68 Ct rfl rfl<|by decide
theorem jX:JW prog 37 [.int .i64 0,.int .i64 0,.sl []]:=JW.of Lg rfl
theorem eG:JW prog 54 [.int .i64 0,.int .i64 0,.sl [],.sl [],.int .i64 0,.int .i64 0,.sl [],.sl [],.sl []]:=JW.of L5 rfl
theorem gb:BR prog 121:=BR.of underlying121 rfl aV
theorem OK:BR prog 134:=BR.of underlying134 rfl SH
theorem UP:BR prog 162:=BR.of underlying162 rfl T4
theorem Qx:BR prog 193:=BR.of underlying193 rfl Tb
theorem Sq:BR prog 194:=BR.of underlying194 rfl VR
theorem UH:BR prog 195:=BR.of underlying195 rfl Vr
theorem YE:BR prog 199:=BR.of underlying199 rfl TI
theorem CA:BR prog 22:=BR.of underlying22 rfl TQ
theorem Sh:BR prog 26:=BR.of underlying26 rfl Tw
theorem AI:BR prog 3:=BR.of underlying3 rfl Ct
theorem CR:BR prog 35:=BR.of underlying35 rfl Kj
theorem Mm:BR prog 4:=BR.of underlying4 rfl QV
theorem D0:BR prog 47:=BR.of underlying47 rfl Tf
theorem Dc:BR prog 48:=BR.of underlying48 rfl Tx
theorem Ei:BR prog 49:=BR.of underlying49 rfl SY
theorem Tr:BR prog 5:=BR.of underlying5 rfl Qs
theorem HM:BR prog 52:=BR.of underlying52 rfl Sp
theorem Yq:BR prog 67:=BR.of underlying67 rfl YU
theorem BK:BR prog 9:=BR.of underlying9 rfl Jf
theorem Vx:BR prog 92:=BR.of underlying92 rfl TB
theorem Tm:BR prog 93:=BR.of underlying93 rfl Yj
theorem JT:BR prog 94:=BR.of underlying94 rfl Qf
theorem bG:Lc prog 206 256 5 1:=⟨underlying206,DC Qs⟩
theorem gJ:Lc prog 209 16 208 2:=⟨underlying209,DC Rt⟩
theorem LO:Lc prog 65 2 3 1:=⟨underlying65,DC Ct⟩
theorem HV:∃i,prog.info? 107=some i∧i.size=5:=DC Pm
theorem F0:∃i,prog.info? 109=some i∧i.size=4:=DC Ni
theorem bM:∃i,prog.info? 134=some i∧i.size=1:=DC SH
theorem Qn:∃i,prog.info? 146=some i∧i.size=8:=DC Rd
theorem Vq:∃i,prog.info? 162=some i∧i.size=1:=DC T4
theorem Lu:∃i,prog.info? 167=some i∧i.size=4:=DC OS
theorem oz:∃i,prog.info? 193=some i∧i.size=1:=DC Tb
theorem dV:∃i,prog.info? 199=some i∧i.size=1:=DC TI
theorem n8:∃i,prog.info? 208=some i∧i.size=2:=DC Rt
theorem pY:∃i,prog.info? 22=some i∧i.size=1:=DC TQ
theorem Kr:∃i,prog.info? 24=some i∧i.size=1:=DC Pc
theorem Xf:∃i,prog.info? 26=some i∧i.size=1:=DC Tw
theorem VA:∃i,prog.info? 3=some i∧i.size=1:=DC Ct
theorem KJ:∃i,prog.info? 35=some i∧i.size=1:=DC Kj
theorem IA:∃i,prog.info? 37=some i∧i.size=3:=DC Lg
theorem pm:∃i,prog.info? 47=some i∧i.size=1:=DC Tf
theorem ZT:∃i,prog.info? 48=some i∧i.size=1:=DC Tx
theorem pV:∃i,prog.info? 49=some i∧i.size=1:=DC SY
theorem Xz:∃i,prog.info? 51=some i∧i.size=4:=DC OR
theorem ey:∃i,prog.info? 52=some i∧i.size=1:=DC Sp
theorem GY:∃i,prog.info? 54=some i∧i.size=9:=DC L5
theorem VG:∃i,prog.info? 71=some i∧i.size=2:=DC NR
theorem Z8:∃i,prog.info? 92=some i∧i.size=1:=DC TB
theorem Ye:∃i,prog.info? 94=some i∧i.size=1:=DC Qf
@[reducible] def qa(l:List AG):AV:=.r<|.sl<|l.map AG.row
@[reducible] def qb(l:List AO):AV:=.r<|.sl<|l.map AO.row
@[reducible] def qc(l:List An):AV:=.r<|.sl<|l.map An.row
@[reducible] def qd(l:List Ap):AV:=.r<|.sl<|l.map Ap.row
@[reducible] def qe(l:List AN):AV:=.r<|.sl<|l.map AN.row
@[reducible] def qf(l:List Aw):AV:=.r<|.sl<|l.map Aw.row
@[reducible] def qg(l:List AC):AV:=.r<|.sl<|l.map AC.row
@[reducible] def qh(l:List Ae):AV:=.r<|.sl<|l.map Ae.row
@[reducible] def qi(l:List AP):AV:=.r<|.sl<|l.map AP.row
set_option linter.defProp false
@[reducible] def Ps:List AV:=[rI<|1,rI<|0,.cst<|.slice none 0 0,.r<|.sl<|[(AN.mk 0 2 [])].map AN.row,rI<|0,rI<|0,.cst<|.slice none 0 0,.cst<|.slice none 0 0,.cst<|.slice none 0 0]
@[reducible] def EC:List AV:=[rI<|0,rI<|0,.cst<|.slice none 0 0,.cst<|.slice none 0 0,rI<|0,rI<|0,.cst<|.slice none 0 0,.cst<|.slice none 0 0,.cst<|.slice none 0 0]
@[reducible] def Ho(x:AO):List AV:=[.agg [rI<|x.ID,rI<|x.Kind,qa x.Attrs,qe x.Flow,rI<|x.Grid.Rows,rI<|x.Grid.Cols,qc x.Grid.Cells,qd x.Grid.Merges,qf x.Draw]]
@[reducible] def gD(x:Aw):List AV:=[.agg [rI<|x.Clock,rI<|x.Site,rI<|x.Kind,rI<|x.Item,rI<|x.Parent,.r<|.str x.Place,.r<|.str x.Name,.r<|.str x.Value]]
@[reducible] def Ai(x:AO):List AV:=[rI<|x.ID,rI<|x.Kind,qa x.Attrs,qe x.Flow,rI<|x.Grid.Rows,rI<|x.Grid.Cols,qc x.Grid.Cells,qd x.Grid.Merges,qf x.Draw]
@[reducible] def Bl(x:Aw):List AV:=[rI<|x.Clock,rI<|x.Site,rI<|x.Kind,rI<|x.Item,rI<|x.Parent,.r<|.str x.Place,.r<|.str x.Name,.r<|.str x.Value]
@[reducible] def QK:List AV:=[rI<|0,rI<|0,rI<|0,rI<|0,rI<|0,.r<|.str [],.r<|.str [],.r<|.str []]
@[reducible] def YK(x:An):List AV:=[.agg [rI<|x.Row,rI<|x.Col,.r<|.str x.Text,rI<|x.Ref,qa x.Attrs]]
@[reducible] def BP(x:An):List AV:=[rI<|x.Row,rI<|x.Col,.r<|.str x.Text,rI<|x.Ref,qa x.Attrs]
@[reducible] def QX:List AV:=[rI<|0,rI<|0,.cst<|.slice none 0 0,.cst<|.slice none 0 0]
@[reducible] def HS:List AV:=[rI<|0,rI<|0,.r<|.str [],rI<|0,.cst<|.slice none 0 0]
@[reducible] def CT(x:AC):List AV:=[rI<|x.Item,rI<|x.Parent,.r<|.str x.Place,qa x.Attrs]
@[reducible] def Sl(x:Av):List AV:=[.agg [rI<|x.Rows,rI<|x.Cols,qc x.Cells,qd x.Merges]]
@[reducible] def ME:List AV:=[rI<|0,rI<|0,.r<|.str [],.cst<|.slice none 0 0]
@[reducible] def B7(x:Av):List AV:=[rI<|x.Rows,rI<|x.Cols,qc x.Cells,qd x.Merges]
@[reducible] def A8(x:Ap):List AV:=[rI<|x.Row,rI<|x.Col,rI<|x.H,rI<|x.W]
@[reducible] def XE(x:AN):List AV:=[.agg [rI<|x.Char,rI<|x.Ref,qa x.Attrs]]
@[reducible] def FX(x:Aq):List AV:=[rI<|x.id,rI<|x.parent,rB<|x.visible]
@[reducible] def FL(x:Ae):List AV:=[rI<|x.ID,rI<|x.Parent,rB<|x.Visible]
@[reducible] def PF:List AV:=[rI<|10,rI<|0,.cst<|.slice none 0 0]
@[reducible] def JJ:List AV:=[rI<|0,rI<|0,.cst<|.slice none 0 0]
@[reducible] def KI:List AV:=[rI<|0,rI<|2,.cst<|.slice none 0 0]
@[reducible] def Yi:List AV:=[rI<|0,rI<|3,.cst<|.slice none 0 0]
@[reducible] def Bg(x:AN):List AV:=[rI<|x.Char,rI<|x.Ref,qa x.Attrs]
@[reducible] def CS(x:AG):List AV:=[.r<|.str x.Name,.r<|.str x.Value]
@[reducible] def FP:List AV:=[rI<|0,rI<|0,rI<|0,rI<|0]
@[reducible] def qw{T r:Int}{x:Exit}{s:St}{j:ResultVar}:=@Cg Int prog T r x s j λr=>rI r
@[reducible] def qv{T r:Bool}{x:Exit}{s:St}{j:ResultVar}:=@Cg Bool prog T r x s j λr=>rB r
@[reducible] def yI:=@YM prog
@[reducible] def yB:=@Wu prog
@[reducible] def Za:=@trivial
@[reducible] def Zc:=@AW.skip
@[reducible] def Zf:=@rW
@[reducible] def Zg:=@AW.block
@[reducible] def Zh:=@AS.nil
@[reducible] def Zj:=@ql
@[reducible] def Zl:=@AW.ret
@[reducible] def Zm:=@AW.exit
@[reducible] def Zr:=@RL.mk
@[reducible] def Zs:=@sm
@[reducible] def Zu:=@qo
@[reducible] def Zv:=@Am.trans
@[reducible] def Zx:=@qY
@[reducible] def Zy:=@qK
@[reducible] def ZB:=@AT.step
@[reducible] def ZG:=@AF.step
@[reducible] def ZJ:=@RA.mk
@[reducible] def R:=@rfl
theorem T1{r}(h:L7=some r):Aa prog 22 [] (.agg<|Bg r):=by
 unfold L7 at h
 refine mF func22 ntmps22 R λl=>aU<|sS R (BI (cs:=JJ) 0 R JD R R)<|aZ<|aT λj=>aR ?_
 refine sQ R (Bu R Kb (q:=[(0,_)]) (by exact⟨R,R,R,iL,Za⟩) (cs:=PF)<|by rfl) ?_
 refine Zj R R (A5 (ds:=PF) R IA iL R iL R R R R)<|oZ j ?_
 exact Zl<|Cg (P:=prog) (λ(r:AN)=>.agg<|Bg r) h iL<|.a Fr R R R<|.agg<|by exact⟨.closed _ R,.closed _ R,.nil,Za⟩
theorem dW{l r}(h:Px l=some r):BC prog 21 1 [qe l] [] (λm h'=>∃(i:Nat→Nat),m=.agg [.own 1000<|i 0]∧h'=[(1000,some<|.arr (i 0) 54 9<|r.map AO.row)]):=by
 unfold Px at h
 refine D7 func21 R R ntmps21 (Zs R) λj=>aU<|sS R (BI (cs:=[cZ]) 2 R MK R R)<|aZ<|aT λq=>aR ?_
 refine sQ R (Bu R Kb (q:=[(1,_)]) (by exact⟨R,R,R,iL,Za⟩) (cs:=KI)<|by rfl) ?_
 refine sS R (Bj 4 R Bb (f:=AN.row) (l:=([(AN.mk 0 2 [])]:List AN)) ⟨R,⟨_,iL,R⟩,Za⟩ R (λ_=>R) R) ?_
 refine sQ R (Bu R Kq (q:=[(0,_),(3,_)]) (by exact⟨R,R,R,iL,R,R,R,iL,Za⟩) (cs:=[rI 1,rI 0,cZ,.own 4<|j+1,rI 0,rI 0,cZ,cZ,cZ])<|by rfl) ?_
 refine mM R ?_
 refine sQ R (Bu R Kq (q:=[(0,_),(1,_),(3,_)]) (by exact⟨R,R,R,iL,R,R,R,iL,R,R,R,iL,Za⟩) (cs:=[rI 2,rI 1,cZ,qe l,rI 0,rI 0,cZ,cZ,cZ])<|by rfl) ?_
 refine AS.weak (by exact Am.frz (e':=[(0,qe l),(2,.ptr 2 j 0 0),(3,.agg KI),(4,.r<|.sl<|[(AN.mk 0 2 [])].map AN.row),(5,.agg Ps),(6,qe l),(7,.agg [rI 2,rI 1,cZ,qe l,rI 0,rI 0,cZ,cZ,cZ])]) (h':=[(2,some<|.box j 24 [cZ])]) 4 R ⟨jL,jL,jL,.inl<|.inr<|.inr ⟨R,R⟩,.inr ⟨_,_,R,R,⟨.inl R,.inl R,.inl R,.inr<|.inr ⟨R,R⟩,.inl R,.inl R,.inl R,.inl R,.inl R,Za⟩⟩,jL,jL,Za⟩ ⟨R,.inl R,Za⟩) ?_
 refine sS R (Bj 1000 R Bh (f:=AO.row) (l:=([(AO.mk 1 0 [] [(AN.mk 0 2 [])] (Av.mk 0 0 [] []) []),(AO.mk 2 1 [] l (Av.mk 0 0 [] []) [])]:List AO)) ⟨R,⟨_,iL,R⟩,R,⟨_,iL,R⟩,Za⟩ R (λ_=>R) R) ?_
 refine sQ R (Bu R Qo (q:=[(0,_)]) (by exact⟨R,R,R,iL,Za⟩) (cs:=[.own 1000<|j+2])<|by rfl) ?_
 refine Zj R R (A5 (ds:=[.own 1000<|j+2]) R Kr iL R iL R R R R)<|oZ q ?_
 exact Zl<|B8.mk (s':=⟨[(2,.ptr 2 j 0 0)],[(2,some<|.box j 24 [.own 1000<|j+2]),(1000,some<|.arr (j+2) 54 9<|[(AO.mk 1 0 [] [(AN.mk 0 2 [])] (Av.mk 0 0 [] []) []),(AO.mk 2 1 [] l (Av.mk 0 0 [] []) [])].map AO.row)],(j+3),10⟩) wk<|CM (λ(r:(List AO)) m h'=>∃(i:Nat→Nat),m=.agg [.own 1000<|i 0]∧h'=[(1000,some<|.arr (i 0) 54 9<|r.map AO.row)]) h<|by exact⟨.agg [.own 1000<|j+2],[(1000,some<|.arr (j+2) 54 9<|[(AO.mk 1 0 [] [(AN.mk 0 2 [])] (Av.mk 0 0 [] []) []),(AO.mk 2 1 [] l (Av.mk 0 0 [] []) [])].map AO.row)],.inr ⟨_,R,Bz,_,_,_,R,R⟩,⟨.inr R,Za⟩,R,R,AH [(j+2)],R,R⟩
theorem WC{j r}(h:LZ j=some r):Aa prog 105 [rS j] (rB r):=by
 unfold LZ at h
 refine mF func105 ntmps105 R λn0=>aU<|mA R<|aZ<|aT λC2=>aU<|mM R<|sQ R (EZ R iL iL)<|mM R<|vM R<|vQ R (Dq R underlying9<|iR R)<|vQ R (Bk R (iR R) iL)<|xO R<|mM R<|vM R<|AE h λa0 l h1=>vQ R (Co R underlying9 (iR R) iL<|Ag l)<|vQ R (CO R (iR R) iL)<|xO R<|mM R<|vM R<|AE h1 λa1 m h2=>vQ R (Co R underlying9 (iR R) iL<|Ag m)<|vQ R (Bk R (iR R) iL)<|xO R<|aZ<|cI R h2 (λB=>?_) λB=>?_
 ·exact zB B R id
 refine Zc<|C2 _<|aS λK5 C5 C=>aT λC6=>aF [0] ?_
 refine aR<|mM R<|sQ R (Dq R underlying9 iL)<|mM R<|aZ<|C6 _<|Zg<|BS B λo1 q E F=>?_
 have J1:∀(X:Unit) (Z:NN),o1=.nrm X→K5 ⟨[],[],(Z 0),53⟩:=by
  intro X Z e
  have h4:=E _ e
  exact C5 _<|zB h4 R id
 refine Zu (λ(I:Int) A=>⟨[(0,rS j),(23,rL j),(24,rI I)],[],(A 0),53⟩) (AH [n0]) q wk ?_
 intro I A v1 J w
 have h5:Ll j I=some v1:=J;unfold Ll at h5
 refine aU<|xS R<|aZ<|aT λC9=>cI R h5 (λM=>?_) λM=>?_
 ·refine Zc<|C9 _<|aT λO=>Zg<|aU<|mM R<|mA R<|aZ<|aU<|mM R<|mM R<|AE M λc1 T h7=>sQ R (Co R underlying9 iL iL λ_=>T)<|mA R<|aZ<|aU<|mM R<|xS R<|mM R<|vM R<|vQ R (Bk R (iR R) iL)<|xO R<|mM R<|vM R<|vQ R (CO R (iR R) iL)<|vQ R (AM R<|iR R)<|wQ R (AM R iL)<|wQ R (Bk R (iR R) iL)<|vQ R (Cp R (iR R)<|iR R)<|xN R<|mM R<|vM R<|vQ R (DJ R (iR R) iL)<|xN R<|mM R<|vM R<|vQ R (DJ R (iR R) iL)<|xN R<|aZ<|cI R h7 (λU=>?_) λU=>?_
  ·exact zB (F _<|xH w U) R id
  refine Zc<|O _<|aF [0,23,24] ?_
  exact aR<|AE U λx4 V h9=>xA R V<|mM R<|Zh<|Zr h9 (AH [(A 0)]) wk
 exact Zm<|C _ _ wk<|J1 _ (AH [(A 0)])<|xH w M
theorem Yn{l r}(h:MG l=some r):Aa prog 106 [rS l] (rB r):=by
 unfold MG at h
 refine mF func106 ntmps106 R λZ=>aU<|mA R<|aZ<|aT λc2=>aU<|mM R<|sQ R (EZ R iL iL)<|mM R<|vM R<|vQ R (Dq R underlying9<|iR R)<|vQ R (Bk R (iR R) iL)<|xO R<|aZ<|cI R h (λA=>?_) λA=>?_
 ·exact zB A R id
 refine Zc<|c2 _<|aS λK5 c5 B=>aU<|mM R<|sQ R (Dq R underlying9 iL)<|mM R<|aZ<|Zg<|BS A λo1 m C E=>?_
 have J1:∀(U:Unit) (V:NN),o1=.nrm U→K5 ⟨[],[],(V 0),27⟩:=by
  intro U V e
  have h2:=C _ e
  exact c5 _<|zB h2 R id
 refine Zu (λ(F:Int) w=>⟨[(0,rS l),(12,rL l),(13,rI F)],[],(w 0),27⟩) (AH [Z]) m wk ?_
 intro F w v1 I q
 have X:N2 l F=some v1:=I;unfold N2 at X
 refine aU<|xS R<|aZ<|aT λc9=>cI R X (λJ=>?_) λJ=>?_
 ·refine Zc<|c9 _<|aT λM=>Zg<|aU<|mM R<|mA R<|aZ<|aU<|mM R<|mM R<|AE J λa0 j h5=>sQ R (Co R underlying9 iL iL λ_=>j)<|xS R<|mM R<|vM R<|vM R<|vQ R (Co R underlying9 (iR R) (iR R) λ_=>j)<|vQ R (Bk R (iR R) iL)<|xO R<|aZ<|cI R h5 (λO=>?_) λO=>?_
  ·exact zB (E _<|xH q O) R id
  refine Zc<|M _<|aF [0,12,13] ?_
  exact aR<|AE O λx4 T h7=>xA R T<|mM R<|Zh<|Zr h7 (AH [(w 0)]) wk
 exact Zm<|B _ _ wk<|J1 _ (AH [(w 0)])<|xH q J
theorem Z7{q b r}(h:N7 q b=some r):Aa prog 67 [qa q,rB b] (rI r):=by
 unfold N7 at h
 refine mF func67 ntmps67 R λn0=>aU<|mA R<|aZ<|aS λK2 c2 C=>aU<|mM R<|xL BH R<|mM R<|aZ<|Zg<|BS h λo1 w E l=>?_
 have J1:∀(u2:Unit) (i5:NN),o1=.nrm u2→K2 ⟨[],[],(i5 0),48⟩:=by
  intro u2 i5 e
  have h1:=E _ e
  exact c2 _<|zI h1 R id
 refine Zu (λ(F:Int) A=>⟨[(0,qa q),(1,rB b),(7,qa q),(8,rL q),(9,rI F)],[],(A 0),48⟩) (AH [n0]) w wk ?_
 intro F A v1 I j
 have h2:L9 q b F=some v1:=I;unfold L9 at h2
 refine aU<|xS R<|aZ<|aT λc6=>cI R h2 (λJ=>?_) λJ=>?_
 ·refine Zc<|c6 _<|aT λc7=>Zg<|aU<|mM R<|AE J λB M h4=>xI BH R M<|xB ((CS B)) En R<|sS R (BI (cs:=[.r<|.str [],.r<|.str []]) 6 R X0 R R)<|mA R<|Zj R R (A5 (ds:=(CS B)) R VG iL R iL R R R R)<|aZ<|Zg<|aU<|lF Ek BK R R<|AE h4 λr1 O h5=>cL (WC<|O) R<|sQ R (BE R iL)<|mA R<|aZ<|cI R h5 (λT=>?_) λT=>?_
  ·exact zI (l _<|xH j T) R id
  refine aT λU=>aG [0,1,5,6,7,8,9] [6] ?_
  refine aR<|lF JQ BK R R<|AE T λr2 V h7=>cL (Yn<|V) R<|sQ R (BE R iL)<|mM R<|vM R<|vQ R (AM R<|iR R)<|wQ R (fB R JQ iL fR R)<|wQ R (AY (a:=rS B.Value) R BK (iR R) R R)<|wQ R (EZ R (iR R) iL)<|vQ R (Bd R (iR R)<|iR R)<|vQ R (BE R<|iR R)<|xN R<|mA R<|aZ<|U _<|cI R h7 (λX=>?_) λX=>?_
  ·exact zI (l _<|xH j X) R id
  refine aT λZ=>?_
  refine Zx BM (by kernel_rfl) ?_
  refine qP R (AM R iL)<|qP R (Bk R iL iL)<|qP R (AM R iL)<|qO R (fB R Ek iL fR R)<|qO R (AY (a:=rS B.Name) R BK (iR R) R R)<|qO R (AM R iL)<|qO R (AM R iL)<|AE X λx5 a0 h9=>qO R (CX R (iR R) iL<|Ag a0)<|AE h9 λx6 a1 a2=>qO R (A9 R BH.slice (iR R) (iR R) (λ_=>R)<|Ag a1)<|qO R (BL R Ek<|iR R)<|qO R (Bs (d:=.str x6.Name) R BK (iR R) R)<|qO R (oR R (iR R)<|iR R)<|qP R (Bd R iL<|iR R)<|qP R (EL R iL)<|AQ.nil<|Z _<|cI R a2 (λm=>?_) λm=>?_
  ·exact zI (l _<|xH j m) R id
  refine Zc<|c7 _<|aF [0,1,7,8,9] ?_
  exact aR<|AE m λx7 a6 a7=>xA R a6<|mM R<|Zh<|Zr a7 (AH [((A 0)+1)]) wk
 exact Zm<|C _ _ wk<|J1 _ (AH [(A 0)])<|xH j J
theorem T7{l r}(h:I3 l=some r):Aa prog 37 [qa l] (rI r):=by
 unfold I3 at h
 exact mF func37 ntmps37 R λq=>aU<|mA R<|aZ<|aU<|mM R<|AE h λw j m=>cL (Z7<|j) R<|mA R<|aZ<|Zl<|yI m R
theorem Sf{k r}(h:Ds k=some r):Aa prog 26 [rI k] (rB r):=by
 unfold Ds at h
 exact mF func26 ntmps26 R λj=>aU<|mA R<|aZ<|aU<|mM R<|xQ R<|mM R<|vM R<|vQ R (A4 R (iR R) iL)<|xO R<|mM R<|vM R<|vQ R (A4 R (iR R) iL)<|xO R<|mM R<|vM R<|vQ R (A4 R (iR R) iL)<|xO R<|mA R<|aZ<|Zl<|yB h R
theorem iC{k r}(h:F6 k=some r):Aa prog 84 [rI k] (rB r):=by
 unfold F6 at h
 exact mF func84 ntmps84 R λj=>aU<|mA R<|aZ<|aU<|mM R<|xQ R<|mM R<|vM R<|vQ R (A4 R (iR R) iL)<|xO R<|mA R<|aZ<|Zl<|yB h R
theorem oo{k r}(h:FS k=some r):Aa prog 85 [rI k] (rB r):=by
 unfold FS at h
 exact mF func85 ntmps85 R λj=>aU<|mA R<|aZ<|aU<|mM R<|xQ R<|mM R<|vM R<|vQ R (A4 R (iR R) iL)<|xO R<|mA R<|aZ<|Zl<|yB h R
theorem nY{s a r}(h:Oh s a=some r):Aa prog 118 [qd s,qd a] (rB r):=by
 unfold Oh at h
 refine mF func118 ntmps118 R λn0=>aU<|mA R<|aZ<|aT λc2=>aU<|mM R<|xL Cz R<|mM R<|xL Cz R<|xU R<|aZ<|cI R h (λq=>?_) λq=>?_
 ·exact zB q R id
 refine Zc<|c2 _<|aS λK5 c5 w=>aU<|mM R<|xL Cz R<|mM R<|aZ<|Zg<|BS q λo1 j A B=>?_
 have J1:∀(V:Unit) (X:NN),o1=.nrm V→K5 ⟨[],[],(X 0),26⟩:=by
  intro V X e
  have h2:=A _ e
  exact c5 _<|zB h2 R id
 refine Zu (λ(C:Int) m=>⟨[(0,qd s),(1,qd a),(12,rL s),(13,rI C)],[],(m 0),26⟩) (AH [n0]) j wk ?_
 intro C m v1 E l
 have Z:Mu s a C=some v1:=E;unfold Mu at Z
 refine aU<|xS R<|aZ<|aT λc9=>cI R Z (λF=>?_) λF=>?_
 ·refine Zc<|c9 _<|aT λI=>Zg<|aU<|mM R<|mA R<|aZ<|aT λJ=>?_
  refine Zx BM (by kernel_rfl) ?_
  refine qP R (AM R iL)<|qP R (AM R iL)<|AE F λx4 M h5=>qP R (A9 R Cz.slice iL iL (λ_=>R) λ_=>M)<|qP R (CN (cs:=(A8 x4)) R DW iL R R)<|qP R (AM R iL)<|qP R (AM R iL)<|AE h5 λx5 O h6=>qP R (A9 R Cz.slice iL iL (λ_=>R) λ_=>O)<|qP R (CN (cs:=(A8 x5)) R DW iL R R)<|qP R (L3 R VL iL iL R)<|AQ.nil<|J _<|cI R h6 (λT=>?_) λT=>?_
  ·exact zB (B _<|xH l T) R id
  refine Zc<|I _<|aF [0,1,12,13] ?_
  exact aR<|AE T λx6 U h8=>xA R U<|mM R<|Zh<|Zr h8 (AH [(m 0)]) wk
 exact Zm<|w _ _ wk<|J1 _ (AH [(m 0)])<|xH l F
theorem dA{j b1 r}(h:Jx j b1=some r):Aa prog 143 [qa j,qa b1] (rB r):=by
 unfold Jx at h
 refine mF func143 ntmps143 R λn0=>aU<|mA R<|aZ<|aT λc2=>aU<|mM R<|xL BH R<|mM R<|xL BH R<|xU R<|aZ<|cI R h (λw=>?_) λw=>?_
 ·exact zB w R id
 refine Zc<|c2 _<|aS λK5 c5 A=>aU<|mM R<|xL BH R<|mM R<|aZ<|Zg<|BS w λo1 l B C=>?_
 have J1:∀(X:Unit) (Z:NN),o1=.nrm X→K5 ⟨[],[],(Z 0),26⟩:=by
  intro X Z e
  have h2:=B _ e
  exact c5 _<|zB h2 R id
 refine Zu (λ(E:Int) q=>⟨[(0,qa j),(1,qa b1),(12,rL j),(13,rI E)],[],(q 0),26⟩) (AH [n0]) l wk ?_
 intro E q v1 F m
 have h3:N9 j b1 E=some v1:=F;unfold N9 at h3
 refine aU<|xS R<|aZ<|aT λc9=>cI R h3 (λI=>?_) λI=>?_
 ·refine Zc<|c9 _<|aT λJ=>Zg<|aU<|mM R<|mA R<|aZ<|aT λM=>?_
  refine Zx BM (by kernel_rfl) ?_
  refine qP R (AM R iL)<|qP R (AM R iL)<|AE I λx4 O h5=>qP R (A9 R BH.slice iL iL (λ_=>R) λ_=>O)<|qP R (CN (cs:=(CS x4)) R En iL R R)<|qP R (AM R iL)<|qP R (AM R iL)<|AE h5 λx5 T h6=>qP R (A9 R BH.slice iL iL (λ_=>R) λ_=>T)<|qP R (CN (cs:=(CS x5)) R En iL R R)<|qP R (L3 R Ul iL iL R)<|AQ.nil<|M _<|cI R h6 (λU=>?_) λU=>?_
  ·exact zB (C _<|xH m U) R id
  refine Zc<|J _<|aF [0,1,12,13] ?_
  exact aR<|AE U λx6 V h8=>xA R V<|mM R<|Zh<|Zr h8 (AH [(q 0)]) wk
 exact Zm<|A _ _ wk<|J1 _ (AH [(q 0)])<|xH m I
theorem aX{j b1 r}(h:M6 j b1=some r):Aa prog 120 [.agg<|BP j,.agg<|BP b1] (rB r):=by
 unfold M6 at h
 exact mF func120 ntmps120 R λw=>aU<|sS R (A6 (cs:=(BP j)) 2 R iL R R)<|sS R (A6 (cs:=(BP b1)) 3 R iL R R)<|mA R<|aZ<|aT λm=>aR<|lF D5 AI R R<|lF D5 AI R R<|xQ R<|mM R<|vF ES AI R R<|vF ES AI R R<|vQ R (A4 R (iR R)<|iR R)<|xN R<|mM R<|vF He BK R R<|vF He BK R R<|vQ R (EZ R (iR R)<|iR R)<|xN R<|mM R<|vF Ce AI R R<|vF Ce AI R R<|vQ R (A4 R (iR R)<|iR R)<|xN R<|mM R<|vF GX CR R R<|vF GX CR R R<|AE h λA l q=>vL (λhg=>dA<|Ag l hg) R<|xN R<|mA R<|aZ<|m _<|Zl<|yB q R
theorem dg{s a r}(h:Nl s a=some r):Aa prog 119 [qc s,qc a,.fn 120 []] (rB r):=by
 unfold Nl at h
 refine mF func119 ntmps119 R λn0=>aU<|mA R<|aZ<|aT λc2=>aU<|mM R<|xL Bx R<|mM R<|xL Bx R<|xU R<|aZ<|cI R h (λq=>?_) λq=>?_
 ·exact zB q R id
 refine Zc<|c2 _<|aS λK5 c5 w=>aU<|mM R<|xL Bx R<|mM R<|aZ<|Zg<|BS q λo1 j A B=>?_
 have J1:∀(X:Unit) (Z:NN),o1=.nrm X→K5 ⟨[],[],(Z 0),32⟩:=by
  intro X Z e
  have h2:=A _ e
  exact c5 _<|zB h2 R id
 refine Zu (λ(C:Int) m=>⟨[(1,qc a),(2,.fn 120 []),(15,qc s),(16,rL s),(17,rI C)],[],(m 0),32⟩) (AH [n0]) j wk ?_
 intro C m v1 E l
 have h3:M1 s a C=some v1:=E;unfold M1 at h3
 refine aU<|xS R<|aZ<|aT λc9=>cI R h3 (λF=>?_) λF=>?_
 ·refine Zc<|c9 _<|aT λI=>Zg<|aU<|mM R<|AE F λx4 J h5=>xI Bx R J<|xB ((BP x4)) EM R<|sS R (BI (cs:=HS) 8 R G8 R R)<|mA R<|Zj R R (A5 (ds:=(BP x4)) R HV iL R iL R R R R)<|aZ<|aU<|mM R<|mM R<|AE h5 λx5 M h6=>xI Bx R M<|xB ((BP x5)) EM R<|sS R (BI (cs:=HS) 9 R G8 R R)<|Zj R R (A5 (ds:=(BP x5)) R HV iL R iL R R R R)<|aZ<|aT λO=>aG [1,2,8,9,15,16,17] [8,9] ?_
  refine aR<|mM R<|xC EM R<|xC EM R<|AE h6 λr1 T h7=>cL (aX<|T) R<|sQ R (BE R iL)<|aZ<|O _<|cI R h7 (λU=>?_) λU=>?_
  ·exact zB (B _<|xH l U) R id
  exact Zc<|I _<|aR<|AE U λx6 V h9=>xA R V<|mM R<|Zh<|Zr h9 (AH [((m 0)+2)]) wk
 exact Zm<|w _ _ wk<|J1 _ (AH [(m 0)])<|xH l F
theorem fQ{j b1 r}(h:KR j b1=some r):Aa prog 86 [.agg<|B7 j,.agg<|B7 b1] (rB r):=by
 unfold KR at h
 exact mF func86 ntmps86 R λB=>aU<|sS R (A6 (cs:=(B7 j)) 2 R iL R R)<|sS R (A6 (cs:=(B7 b1)) 3 R iL R R)<|mA R<|aZ<|aU<|lF Gc AI R R<|lF Gc AI R R<|xQ R<|mM R<|vF GZ AI R R<|vF GZ AI R R<|vQ R (A4 R (iR R)<|iR R)<|xN R<|mM R<|vF EP Ei R R<|vF EP Ei R R<|AE h λC l q=>vL (λhg=>nY<|Ag l hg) R<|xN R<|mM R<|vF DX Dc R R<|vF DX Dc R R<|AE q λw m A=>AS.stepW (.one R R R) R R (DU (r:=rB w) (caps:=[]) (bs:=[qc j.Cells,qc b1.Cells,.fn 120 []]) R iL R ⟨⟨_,(iR R),.d R⟩,⟨_,(iR R),.d R⟩,⟨_,iL,.one<|.closed (.fn 120 []) R⟩,Za⟩ (λhg=>dg<|Ag m hg) R)<|xN R<|mA R<|aZ<|Zl<|yB A R
theorem UT{k r}(h:Fk k=some r):Aa prog 87 [rI k] (rB r):=by
 unfold Fk at h
 exact mF func87 ntmps87 R λj=>aU<|mA R<|aZ<|aU<|mM R<|xQ R<|mM R<|vM R<|vQ R (A4 R (iR R) iL)<|xO R<|mM R<|vM R<|vQ R (A4 R (iR R) iL)<|xO R<|mA R<|aZ<|Zl<|yB h R
theorem VH{c1 r}(h:Mn c1=some r):Aa prog 104 [rI c1] (rB r):=by
 unfold Mn at h
 exact mF func104 ntmps104 R λj=>aU<|mA R<|aZ<|aU<|mM R<|xQ R<|mM R<|vM R<|vQ R (A4 R (iR R) iL)<|xO R<|mM R<|vM R<|vQ R (DT R (iR R) iL)<|vQ R (AM R<|iR R)<|wQ R (AM R iL)<|wQ R (CO R (iR R) iL)<|vQ R (Bd R (iR R)<|iR R)<|xO R<|mM R<|vM R<|vQ R (DT R (iR R) iL)<|vQ R (AM R<|iR R)<|wQ R (AM R iL)<|wQ R (CO R (iR R) iL)<|vQ R (Bd R (iR R)<|iR R)<|xO R<|mM R<|vM R<|vQ R (Bk R (iR R) iL)<|vQ R (AM R<|iR R)<|wQ R (AM R iL)<|wQ R (FT R (iR R) iL)<|vQ R (Bd R (iR R)<|iR R)<|xO R<|mA R<|aZ<|Zl<|yB h R
theorem mh{l r}(h:OJ l=some r):Aa prog 66 (XE l) (rI r):=by
 unfold OJ at h
 refine mF func66 ntmps66 R λw=>aU<|sS R (A6 (cs:=(Bg l)) 1 R iL R R)<|mA R<|aZ<|aT λT=>Zg<|aU<|lF Fh AI R R<|xU R<|lF Cm AI R R<|xU R<|sQ R (mK R underlying4 iL iL)<|mA R<|aZ<|cI R h (λA=>?_) λA=>?_
 ·exact zI A R id
 refine aS λU V m=>aT λX=>aG [1] [1] ?_
 refine aR<|lF Cm AI R R<|xQ R<|mM R<|vF Fh AI R R<|AE A λr1 B Z=>vL (λhg=>VH<|Ag B hg) R<|vQ R (BE R<|iR R)<|xN R<|mA R<|aZ<|X _<|BV Z λp1 q C=>?_
 have M:∀(E:Bool) (O:NN),p1=E→U ⟨[(1,.ptr 1 w 0 0),(11,rB E)],[(1,some<|.box w 37<|Bg l)],(O 0),37⟩:=by
  intro E O e
  have h3:=C _ e
  refine V _<|cI R h3 (λF=>?_) λF=>?_
  ·exact zI F R id
  exact Zc<|T _<|aU<|lF H9 CR R R<|AE F λr2 I h5=>cL (T7<|I) R<|mA R<|aZ<|Zl<|yI h5 R
 refine aC R (λj=>?_) λj=>?_
 ·have J:=ET j q
  exact Zc<|m _ _ wk<|M _ (AH [(w+1)]) (Zf J).symm
 ·have J:=EJ j q
  refine aG [1] [1] ?_
  exact aR<|lF Cm AI R R<|xU R<|mM R<|vF Cm AI R R<|vQ R (CO R (iR R) iL)<|vQ R (AM R<|iR R)<|wQ R (fB R Cm iL fR R)<|wQ R (AY (a:=rI l.Ref) R AI (iR R) R R)<|wQ R (Bk R (iR R) iL)<|vQ R (Cp R (iR R)<|iR R)<|xN R<|mA R<|Zh<|m _ _ wk<|M _ (AH [(w+1)]) (Zf J).symm
theorem ku{j a r}(h:FI j a=some r):Aa prog 88 [qe j,rB a] (rI r):=by
 unfold FI at h
 refine mF func88 ntmps88 R λn0=>aU<|mA R<|aZ<|aS λK2 c2 B=>aU<|mM R<|xL Bb R<|mM R<|aZ<|Zg<|BS h λo1 q C w=>?_
 have J1:∀(u2:Unit) (i5:NN),o1=.nrm u2→K2 ⟨[(0,qe j),(1,rB a)],[],(i5 0),43⟩:=by
  intro u2 i5 e
  have h1:=C _ e
  refine c2 _<|aT λc4=>aU<|mM R<|mM R<|vM R<|vQ R (DK R Bb.slice<|iR R)<|vQ R (A4 R (iR R) iL)<|vQ R (AM R<|iR R)<|wQ R (AM R iL)<|wQ R (AM R iL)<|wQ R (DK R Bb.slice<|iR R)<|AE h1 λx4 E h2=>wQ R (CX R (iR R) iL<|Ag E)<|AE h2 λx5 F h3=>wQ R (A9 R Bb.slice (iR R) (iR R) (λ_=>R)<|Ag F)<|wQ R (BL R Fh<|iR R)<|wQ R (Bs (d:=.int .i64 x5.Char) R AI (iR R) R)<|wQ R (DJ R (iR R) iL)<|vQ R (Cp R (iR R)<|iR R)<|xN R<|aZ<|cI R h3 (λI=>?_) λI=>?_
  ·exact zI I R id
  exact Zc<|c4 _<|zI I R id
 refine Zu (λ(J:Int) A=>⟨[(0,qe j),(1,rB a),(8,qe j),(9,rL j),(10,rI J)],[],(A 0),43⟩) (AH [n0]) q wk ?_
 intro J A v1 M l
 have h5:KZ j a J=some v1:=M;unfold KZ at h5
 refine aU<|xS R<|aZ<|aT λc9=>cI R h5 (λO=>?_) λO=>?_
 ·refine Zc<|c9 _<|aT λT=>Zg<|aU<|AE O λx6 U h7=>xI Bb R U<|xB ((Bg x6)) Fr R<|sS R (BI (cs:=JJ) 6 R JD R R)<|Zj R R (A5 (ds:=(Bg x6)) R IA iL R iL R R R R)<|aZ<|aT λV=>aU<|xC Fr R<|AE h7 λe1 X h8=>cL (mh<|X) R<|mA R<|aZ<|aU<|mM R<|xU R<|aZ<|cI R h8 (λZ=>?_) λZ=>?_
  ·refine aT λa0=>aF [7] ?_
   exact aR<|mM R<|mA R<|aZ<|a0 _<|Zl<|yI (w _<|xH l Z) R
  refine Zc<|V _<|aU<|mM R<|sQ R (BE R iL)<|mM R<|vF Cm AI R R<|vQ R (A4 R (iR R) iL)<|xN R<|aZ<|cI R Z (λm=>?_) λm=>?_
  ·exact zI (w _<|xH l m) R id
  refine Zc<|T _<|aF [0,1,8,9,10] ?_
  exact aR<|AE m λx7 a1 a2=>xA R a1<|mM R<|Zh<|Zr a2 (AH [((A 0)+1)]) wk
 exact Zm<|B _ _ wk<|J1 _ (AH [(A 0)])<|xH l O
theorem aY{s1 r}(h:OG s1=some r):Aa prog 175 [rS s1] (.tup [.r<|.int .i32 r.1,rI r.2]):=by
 unfold OG at h
 refine mF func175 ntmps175 R λn0=>aU<|mA R<|mA R<|aZ<|aU<|mM R<|sQ R (Dq R underlying9 iL)<|mA R<|aZ<|aT λc3=>aU<|mM R<|xS R<|aZ<|cI R h (λE=>?_) λE=>?_
 ·exact aU<|mA R<|mA R<|aZ<|Zl<|EH (P:=prog) (λ(r:Int × Int)=>.r<|.int .i32 r.1) (λ(r:Int × Int)=>rI r.2) E iL (.t<|.d R)<|.t<|.d R
 refine Zc<|c3 _<|aU<|mM R<|AE E λag j h2=>sQ R (Co R underlying9 iL iL λ_=>j)<|mA R<|aZ<|aT λc7=>aR<|mM R<|AE h2 λx1 F h3=>?_
 refine sQ R (Xc (f:=(Ab .u8)) (l:=GW) R bG ol (by kernel_rfl) iL (λ_=>R) (by decide) λ_=>F) ?_
 refine xV (.int .u8 x1) Tr R<|mA R<|aZ<|c7 _<|aT λc8=>aT λc9=>aF [0,4,5,6] ?_
 refine aR<|mM R<|sQ R (DT R iL iL)<|aZ<|c9 _<|cI R h3 (λI=>?_) λI=>?_
 ·refine aU<|mM R<|sQ R (Ep R underlying5 underlying21 iL)<|sQ R (KE (b:=31) R iL iL)<|sQ R (Ty (b:=31) R iL iL)<|mA R<|aZ<|aT λJ=>aF [0,7] ?_
  exact aR<|mM R<|sQ R (Co R underlying9 iL iL λ_=>j)<|sQ R (Ep R underlying5 underlying21 iL)<|mM R<|sQ R (ij R iL iL)<|mM R<|sQ R (HF R iL iL)<|sQ R (LB R iL iL)<|mA R<|mA R<|aZ<|J _<|Zl<|EH (P:=prog) (λ(r:Int × Int)=>.r<|.int .i32 r.1) (λ(r:Int × Int)=>rI r.2) I iL (.t<|.d R)<|.t<|.d R
 refine Zc<|c8 _<|aU<|mM R<|sQ R (HF R iL iL)<|sQ R (Ep R underlying5 underlying3 iL)<|mA R<|aZ<|aT λM=>aR<|mM R<|sQ R (Ty (b:=4) R iL iL)<|AE I λC O h5=>?_
 refine sQ R (Xc (f:=IO.row) (l:=QC) R gJ jM (by kernel_rfl) iL (λ_=>R) (by decide) λ_=>O) ?_
 refine xB ([.r<|.int .u8 C.lo,.r<|.int .u8 C.hi]) fJ R<|sS R (BI (cs:=[.r<|.int .u8 0,.r<|.int .u8 0]) 9 R Zd R R)<|Zj R R (A5 (ds:=[.r<|.int .u8 C.lo,.r<|.int .u8 C.hi]) R n8 iL R iL R R R R)<|aZ<|M _<|aT λT=>aT λU=>aG [0,4,5,8,9] [9] ?_
 refine aR<|mM R<|mM R<|xS R<|aZ<|U _<|cI R h5 (λV=>?_) λV=>?_
 ·exact aU<|mA R<|mA R<|aZ<|Zl<|EH (P:=prog) (λ(r:Int × Int)=>.r<|.int .i32 r.1) (λ(r:Int × Int)=>rI r.2) V iL (.t<|.d R)<|.t<|.d R
 refine Zc<|T _<|aU<|mM R<|AE V λah w h7=>sQ R (Co R underlying9 iL iL λ_=>w)<|mA R<|aZ<|aT λX=>aU<|mM R<|lF eM Tr R R<|xS R<|mM R<|vF ph Tr R R<|vM R<|vQ R (CO R (iR R)<|iR R)<|xO R<|aZ<|cI R h7 (λZ=>?_) λZ=>?_
 ·refine aT λa0=>aF [] ?_
  exact aR<|mA R<|mA R<|aZ<|a0 _<|Zl<|EH (P:=prog) (λ(r:Int × Int)=>.r<|.int .i32 r.1) (λ(r:Int × Int)=>rI r.2) Z iL (.t<|.d R)<|.t<|.d R
 refine Zc<|X _<|aT λa1=>aT λa2=>aF [0,5,8,10] ?_
 refine aR<|mM R<|sQ R (FT R iL iL)<|aZ<|a2 _<|cI R Z (λh9=>?_) λh9=>?_
 ·exact aU<|mM R<|sQ R (HF R iL iL)<|sQ R (Ep R underlying5 underlying21 iL)<|sQ R (KE (b:=6) R iL iL)<|mM R<|sQ R (HF R iL iL)<|sQ R (Ep R underlying5 underlying21 iL)<|sQ R (LB R iL iL)<|mA R<|mA R<|aZ<|Zl<|EH (P:=prog) (λ(r:Int × Int)=>.r<|.int .i32 r.1) (λ(r:Int × Int)=>rI r.2) h9 iL (.t<|.d R)<|.t<|.d R
 refine Zc<|a1 _<|aU<|mM R<|AE h9 λai A a6=>sQ R (Co R underlying9 iL iL λ_=>A)<|mA R<|aZ<|aT λa7=>aU<|mM R<|xS R<|mM R<|vM R<|vQ R (CO R iL<|iR R)<|xO R<|aZ<|cI R a6 (λl=>?_) λl=>?_
 ·refine aT λa8=>aF [] ?_
  exact aR<|mA R<|mA R<|aZ<|a8 _<|Zl<|EH (P:=prog) (λ(r:Int × Int)=>.r<|.int .i32 r.1) (λ(r:Int × Int)=>rI r.2) l iL (.t<|.d R)<|.t<|.d R
 refine Zc<|a7 _<|aT λaa=>aT λab=>aF [0,5,8,10,11] ?_
 refine aR<|mM R<|sQ R (FT R iL iL)<|aZ<|ab _<|cI R l (λm=>?_) λm=>?_
 ·exact aU<|mM R<|sQ R (HF R iL iL)<|sQ R (Ep R underlying5 underlying21 iL)<|sQ R (KE (b:=12) R iL iL)<|mM R<|sQ R (HF R iL iL)<|sQ R (Ep R underlying5 underlying21 iL)<|sQ R (KE (b:=6) R iL iL)<|sQ R (LB R iL iL)<|mM R<|sQ R (HF R iL iL)<|sQ R (Ep R underlying5 underlying21 iL)<|sQ R (LB R iL iL)<|mA R<|mA R<|aZ<|Zl<|EH (P:=prog) (λ(r:Int × Int)=>.r<|.int .i32 r.1) (λ(r:Int × Int)=>rI r.2) m iL (.t<|.d R)<|.t<|.d R
 refine Zc<|aa _<|aU<|mM R<|AE m λaj B ac=>sQ R (Co R underlying9 iL iL λ_=>B)<|mA R<|aZ<|aT λad=>aU<|mM R<|xS R<|mM R<|vM R<|vQ R (CO R iL<|iR R)<|xO R<|aZ<|cI R ac (λq=>?_) λq=>?_
 ·refine aT λae=>aF [] ?_
  exact aR<|mA R<|mA R<|aZ<|ae _<|Zl<|EH (P:=prog) (λ(r:Int × Int)=>.r<|.int .i32 r.1) (λ(r:Int × Int)=>rI r.2) q iL (.t<|.d R)<|.t<|.d R
 refine Zc<|ad _<|aT λaf=>aF [5,10,11,12] ?_
 exact aR<|mM R<|sQ R (HF R iL iL)<|sQ R (Ep R underlying5 underlying21 iL)<|sQ R (KE (b:=18) R iL iL)<|mM R<|sQ R (HF R iL iL)<|sQ R (Ep R underlying5 underlying21 iL)<|sQ R (KE (b:=12) R iL iL)<|sQ R (LB R iL iL)<|mM R<|sQ R (HF R iL iL)<|sQ R (Ep R underlying5 underlying21 iL)<|sQ R (KE (b:=6) R iL iL)<|sQ R (LB R iL iL)<|mM R<|sQ R (HF R iL iL)<|sQ R (Ep R underlying5 underlying21 iL)<|sQ R (LB R iL iL)<|mA R<|mA R<|aZ<|af _<|Zl<|EH (P:=prog) (λ(r:Int × Int)=>.r<|.int .i32 r.1) (λ(r:Int × Int)=>rI r.2) q iL (.t<|.d R)<|.t<|.d R
theorem ap{w r}(h:Nr w=some r):Aa prog 162 [rS w] (.tup [.r<|.int .i32 r.1,rI r.2]):=by
 unfold Nr at h
 refine mF func162 ntmps162 R λM=>aU<|mA R<|mA R<|aZ<|aT λA=>aU<|mM R<|sQ R (D1 R iL iL)<|mM R<|vM R<|AE h λB j C=>vQ R (Co R underlying9 (iR R) iL<|Ag j)<|vQ R (CO R (iR R) iL)<|xN R<|aZ<|cI R C (λm=>?_) λm=>?_
 ·refine aT λE=>aF [0] ?_
  exact aR<|mM R<|AE m λF l I=>sQ R (Co R underlying9 iL iL λ_=>l)<|sQ R (Ep R underlying5 underlying21 iL)<|mA R<|mA R<|aZ<|E _<|Zl<|EH (P:=prog) (λ(r:Int × Int)=>.r<|.int .i32 r.1) (λ(r:Int × Int)=>rI r.2) I iL (.t<|.d R)<|.t<|.d R
 refine aF [0] ?_
 exact aR<|mM R<|E4 m λO T q J=>cL (aY<|q) R<|mM R<|xX R<|xX R<|mA R<|mA R<|aZ<|A _<|Zl<|EH (P:=prog) (λ(r:Int × Int)=>.r<|.int .i32 r.1) (λ(r:Int × Int)=>rI r.2) J iL (.t<|.d R)<|.t<|.d R
theorem fA{O r}(h:Of O=some r):Aa prog 144 [rS O] (rB r):=by
 unfold Of at h
 refine mF func144 ntmps144 R λX=>aU<|mA R<|aZ<|aS λZ c2 q=>Zg<|BS h λo1 j w A=>?_
 have J1:∀(T:Unit) (U:NN),o1=.nrm T→Z ⟨[],[],(U 0),31⟩:=by
  intro T U e
  have h1:=w _ e
  exact c2 _<|zB h1 R id
 refine Zu (λ(B:List UInt8) m=>⟨[(0,rS B)],[],(m 0),31⟩) (AH [X]) j wk ?_
 intro B m v1 C l
 have V:Fi B=some v1:=C;unfold Fi at V
 refine aT λc4=>aU<|mM R<|sQ R (D1 R iL iL)<|aZ<|cI R V (λE=>?_) λE=>?_
 ·refine Zc<|c4 _<|Zg<|aU<|mM R<|E4 E λr1 r2 F h4=>cL (ap<|F) R<|mM R<|xX R<|xX R<|mA R<|mA R<|aZ<|aT λc7=>aU<|mM R<|xQ R<|mM R<|vM R<|vQ R (A4 R (iR R) iL)<|xN R<|mM R<|vM R<|vQ R (A4 R (iR R) iL)<|xO R<|mM R<|vM R<|vQ R (Ep R underlying21 underlying3<|iR R)<|AE h4 λr3 I h5=>vL (λhg=>VH<|Ag I hg) R<|vQ R (BE R<|iR R)<|xO R<|aZ<|cI R h5 (λJ=>?_) λJ=>?_
  ·exact zB (A _<|xH l J) R id
  refine Zc<|c7 _<|aF [0,4] ?_
  refine aR<|mM R<|mM R<|AE J λs5 M h7=>?_
  refine sQ R (ls R underlying9 iL (by exact⟨_,iL⟩) (by exact R) λ_=>M) ?_
  exact mA R<|Zh<|Zr h7 (AH [(m 0)]) wk
 exact Zm<|q _ _ wk<|J1 _ (AH [(m 0)])<|xH l E
theorem bO{c1 r}(h:Nx c1=some r):Aa prog 145 (YK c1) (rB r):=by
 unfold Nx at h
 exact mF func145 ntmps145 R λj=>aU<|sS R (A6 (cs:=(BP c1)) 1 R iL R R)<|mA R<|aZ<|aU<|lF He BK R R<|sQ R (EZ R iL iL)<|mM R<|vF Ce AI R R<|vQ R (A4 R (iR R) iL)<|xN R<|mM R<|vF GX CR R R<|vQ R (DK R BH.slice<|iR R)<|vQ R (A4 R (iR R) iL)<|xN R<|mA R<|aZ<|Zl<|yB h R
theorem W1{j r}(h:Lq j=some r):Aa prog 163 [rI j] (rB r):=by
 unfold Lq at h
 exact mF func163 ntmps163 R λl=>aU<|mA R<|aZ<|aU<|mM R<|mM R<|xU R<|mA R<|aZ<|Zl<|yB h R
theorem ML{O T r}(h:GR O T=some r):Aa prog 150 [rI O,rI T] (rI r):=by
 unfold GR at h
 refine mF func150 ntmps150 R λn0=>aU<|mA R<|aZ<|aU<|mM R<|AE h λm j U=>cL (W1<|j) R<|mA R<|aZ<|aU<|mM R<|AE U λq l V=>cL (W1<|l) R<|mA R<|aZ<|aT λX=>aU<|mM R<|aZ<|cI R V (λw=>?_) λw=>?_
 ·refine aT λZ=>aT λc7=>aF [6] ?_
  refine aR<|mM R<|aZ<|c7 _<|cI R w (λA=>?_) λA=>?_
  ·exact zI A R id
  exact Zc<|Z _<|zI A R id
 refine Zc<|X _<|aT λB=>aU<|mM R<|aZ<|cI R w (λC=>?_) λC=>?_
 ·exact zI C R id
 refine Zc<|B _<|aT λE=>aT λF=>aF [0,1] ?_
 refine aR<|mM R<|mM R<|xS R<|aZ<|F _<|cI R C (λI=>?_) λI=>?_
 ·exact zI I R id
 refine Zc<|E _<|aT λJ=>aU<|mM R<|mM R<|sQ R (Bk R iL iL)<|aZ<|cI R I (λM=>?_) λM=>?_
 ·exact zI M R id
 exact Zc<|J _<|zI M R id
theorem TP{v r}(h:IN v=some r):Aa prog 149 [.r<|.sl<|v.map<|Ab .i64] (rI r):=by
 unfold IN at h
 refine mF func149 ntmps149 R λV=>aU<|mA R<|aZ<|aU<|mA R<|aZ<|aS λX Z q=>aU<|mM R<|xL Bi R<|mM R<|aZ<|Zg<|BS h λo1 j w A=>?_
 have J1:∀(O:Unit) (T:NN),o1=.nrm O→X ⟨[(3,rI 0)],[],(T 0),18⟩:=by
  intro O T e
  have h1:=w _ e
  exact Z _<|aU<|mM R<|mA R<|aZ<|Zl<|yI h1 R
 refine Zu (λ(B:Int) m=>⟨[(3,rI 0),(6,.r<|.sl<|v.map<|Ab .i64),(7,rL v),(8,rI B)],[],(m 0),18⟩) (AH [V]) j wk ?_
 intro B m v1 C l
 have U:EE v B=some v1:=C;unfold EE at U
 refine aU<|xS R<|aZ<|aT λc7=>cI R U (λE=>?_) λE=>?_
 ·refine Zc<|c7 _<|aT λc8=>Zg<|aU<|AE E λx4 F h4=>xI Bi R F<|xV (.int .i64 x4) AI R<|mA R<|aZ<|aU<|mM R<|mM R<|xU R<|aZ<|cI R h4 (λI=>?_) λI=>?_
  ·refine aT λJ=>aF [5] ?_
   exact aR<|mM R<|mA R<|aZ<|J _<|Zl<|yI (A _<|xH l I) R
  exact Zc<|c8 _<|aR<|AE I λx5 M h6=>xA R M<|mM R<|Zh<|Zr h6 (AH [(m 0)]) wk
 exact Zm<|q _ _ wk<|J1 _ (AH [(m 0)])<|xH l E
theorem aI{l b1 r}(h:MJ l b1=some r):Aa prog 146 [.agg<|BP l,.agg<|BP b1] (rI r):=by
 unfold MJ at h
 refine mF func146 ntmps146 R λj=>aU<|sS R (A6 (cs:=(BP l)) 2 R iL R R)<|sS R (A6 (cs:=(BP b1)) 3 R iL R R)<|mA R<|aZ<|aT λB=>AE h λm q C=>?_
 refine rP 9 [pO 5<|.ptr 2 j 0 0,pO 6<|rI l.Row,pO 7<|.ptr 3 (j+1) 0 0,pO 8<|rI b1.Row,pO 9<|rI m,pO 10<|.ptr 2 j 0 1,pO 11<|rI l.Col,pO 12<|.ptr 3 (j+1) 0 1,pO 13<|rI b1.Col] BM R (by exact⟨oB [(2,.ptr 2 j 0 0)] [(2,some<|.box j 107<|BP l)]<|fB R D5 (.inl R) (λ_=>R) R,oB [(5,.ptr 2 j 0 0)] [(2,some<|.box j 107<|BP l)]<|AY (a:=rI l.Row) R AI (.inl R) R R,oB [(3,.ptr 3 (j+1) 0 0)] [(3,some<|.box (j+1) 107<|BP b1)]<|fB R D5 (.inl R) (λ_=>R) R,oB [(7,.ptr 3 (j+1) 0 0)] [(3,some<|.box (j+1) 107<|BP b1)]<|AY (a:=rI b1.Row) R AI (.inl R) R R,oD (λ_=>[(6,rI l.Row),(8,rI b1.Row)]) (λ_=>[]) λE e M n=>DU (r:=rI m) (caps:=[]) (bs:=[rI l.Row,rI b1.Row]) R (.inl R) R ⟨⟨_,(.inl R),.d R⟩,⟨_,(.inl R),.d R⟩,Za⟩ (λ_=>ML<|q) R,oB [(2,.ptr 2 j 0 0)] [(2,some<|.box j 107<|BP l)]<|fB R ES (.inl R) (λ_=>R) R,oB [(10,.ptr 2 j 0 1)] [(2,some<|.box j 107<|BP l)]<|AY (a:=rI l.Col) R AI (.inl R) R R,oB [(3,.ptr 3 (j+1) 0 0)] [(3,some<|.box (j+1) 107<|BP b1)]<|fB R ES (.inl R) (λ_=>R) R,oB [(12,.ptr 3 (j+1) 0 1)] [(3,some<|.box (j+1) 107<|BP b1)]<|AY (a:=rI b1.Col) R AI (.inl R) R R,Za⟩) λE O=>?_
 refine BZ [0,1,2,3,4,5,6,7,8,9,10,11,12,13] [2,3] ?_
 exact AE C λF w I=>cL (ML<|w) R<|sS R (Bj 15 R Bi (f:=(Ab .i64)) (l:=([m,F]:List Int)) ⟨R,⟨_,iL,R⟩,R,⟨_,iL,R⟩,Za⟩ R (λ_=>R) R)<|AE I λT A J=>cL (TP<|A) R<|mA R<|aZ<|B _<|Zl<|yI J R
theorem dO{C a c n r}(h:Nq C a c n=some r):Aa prog 121 [qc C,rI a,rI c,rB n] (rI r):=by
 unfold Nq at h
 refine mF func121 ntmps121 R λn0=>aU<|mA R<|aZ<|aS λK2 c2 I=>aU<|mM R<|xL Bx R<|mM R<|aZ<|Zg<|BS h λo1 E J l=>?_
 have J1:∀(u2:Unit) (i5:NN),o1=.nrm u2→K2 ⟨[],[],(i5 0),79⟩:=by
  intro u2 i5 e
  have h1:=J _ e
  exact c2 _<|zI h1 R id
 refine Zu (λ(M:Int) F=>⟨[(0,qc C),(1,rI a),(2,rI c),(3,rB n),(12,qc C),(13,rL C),(14,rI M)],[],(F 0),79⟩) (AH [n0]) E wk ?_
 intro M F v1 O j
 have h2:PT C a c n M=some v1:=O;unfold PT at h2
 refine aU<|xS R<|aZ<|aT λc6=>cI R h2 (λT=>?_) λT=>?_
 ·refine Zc<|c6 _<|aT λc7=>Zg<|aU<|mM R<|AE T λm U h4=>xI Bx R U<|xB ((BP m)) EM R<|sS R (BI (cs:=HS) 10 R G8 R R)<|mA R<|Zj R R (A5 (ds:=(BP m)) R HV iL R iL R R R R)<|aZ<|aT λc9=>Zg<|aU<|lF D5 AI R R<|xS R<|mM R<|vF D5 AI R R<|vM R<|vQ R (DT R (iR R)<|iR R)<|xO R<|mM R<|vF ES AI R R<|vQ R (CO R (iR R) iL)<|xO R<|mM R<|vF ES AI R R<|vM R<|vQ R (DT R (iR R)<|iR R)<|xO R<|mA R<|aZ<|cI R h4 (λV=>?_) λV=>?_
  ·exact zI (l _<|xH j V) R id
  refine aT λX=>aG [0,1,2,3,9,10,12,13,14] [10] ?_
  refine aR<|lF Ce AI R R<|xS R<|mM R<|vF Ce AI R R<|vQ R (Bk R (iR R) iL)<|xO R<|mA R<|aZ<|X _<|cI R V (λZ=>?_) λZ=>?_
  ·exact zI (l _<|xH j Z) R id
  refine aU<|lF He BK R R<|AE Z λr1 a0 h7=>cL (fA<|a0) R<|sQ R (BE R iL)<|mA R<|aZ<|cI R h7 (λh8=>?_) λh8=>?_
  ·exact zI (l _<|xH j h8) R id
  refine Zc<|c9 _<|aT λa1=>aT λa2=>aG [0,1,2,3,9,10,12,13,14] [10] ?_
  refine aR<|lF GX CR R R<|AE h8 λe1 a6 h9=>cL (T7<|a6) R<|mA R<|aZ<|a2 _<|aU<|mM R<|xU R<|aZ<|cI R h9 (λq=>?_) λq=>?_
  ·refine aT λa7=>aF [11] ?_
   exact aR<|mM R<|mA R<|aZ<|a7 _<|Zl<|yI (l _<|xH j q) R
  refine Zc<|a1 _<|aT λa8=>aU<|xC EM R<|AE q λr2 aa ab=>cL (bO<|aa) R<|mM R<|vM R<|vQ R (BE R<|iR R)<|xN R<|aZ<|cI R ab (λw=>?_) λw=>?_
  ·exact zI (l _<|xH j w) R id
  refine Zc<|a8 _<|aT λac=>aG [0,1,2,3,9,10,12,13,14] [10] ?_
  refine Zx BM (by kernel_rfl) ?_
  refine qP R (AM R iL)<|qP R (Bk R iL iL)<|qP R (AM R iL)<|qO R (AM R iL)<|qO R (AM R iL)<|AE w λx5 ad ae=>qO R (CX R (iR R) iL<|Ag ad)<|AE ae λA af ag=>qO R (A9 R Bx.slice (iR R) (iR R) (λ_=>R)<|Ag af)<|qO R (CN (cs:=(BP A)) R EM (iR R) R R)<|qO R (Dm R EM iL R R)<|AE ag λr3 ah ai=>Pf (.one R R R) R R (r:=rI r3) (caps:=[]) (bs:=[.agg<|BP A,.agg<|BP m]) R iL R ⟨⟨_,(iR R),.g (cs:=[.int .i64 A.Row,.int .i64 A.Col,.str A.Text,.int .i64 A.Ref,.sl<|A.Attrs.map AG.row]) R R⟩,⟨_,(iR R),.g (cs:=[.int .i64 m.Row,.int .i64 m.Col,.str m.Text,.int .i64 m.Ref,.sl<|m.Attrs.map AG.row]) R R⟩,Za⟩ (λhg=>aI<|Ag ah hg) R<|qO R (DT R (iR R) iL)<|qP R (Bd R iL<|iR R)<|AQ.nil<|ac _<|cI R ai (λB=>?_) λB=>?_
  ·exact zI (l _<|xH j B) R id
  exact Zc<|c7 _<|aR<|AE B λx7 aj ak=>xA R aj<|mM R<|Zh<|Zr ak (AH [((F 0)+1)]) wk
 exact Zm<|I _ _ wk<|J1 _ (AH [(F 0)])<|xH j T
theorem jT{j a c r}(h:OI j a c=some r):Aa prog 122 [.agg<|A8 j,rI a,rI c] (rB r):=by
 unfold OI at h
 refine mF func122 ntmps122 R λA=>aU<|sS R (A6 (cs:=(A8 j)) 3 R iL R R)<|mA R<|aZ<|aU<|lF Cu AI R R<|sQ R (DT R iL iL)<|mM R<|vF DQ AI R R<|vQ R (DT R (iR R) iL)<|xN R<|mM R<|vF G0 AI R R<|vQ R (DT R (iR R) iL)<|xN R<|mM R<|vF Gr AI R R<|vQ R (DT R (iR R) iL)<|xN R<|mM R<|vF Cu AI R R<|vM R<|vQ R (CO R (iR R)<|iR R)<|xN R<|mM R<|vF DQ AI R R<|vM R<|vQ R (CO R (iR R)<|iR R)<|xN R<|mM R<|vF G0 AI R R<|vM R<|vF Cu AI R R<|AE h λB l q=>vQ R (CX R (iR R) (iR R)<|Ag l)<|vQ R (FT R (iR R)<|iR R)<|xN R<|mM R<|vF Gr AI R R<|vM R<|vF DQ AI R R<|AE q λC m w=>vQ R (CX R (iR R) (iR R)<|Ag m)<|vQ R (FT R (iR R)<|iR R)<|xN R<|mA R<|aZ ?_
 exact Zl<|yB w R
theorem gC{j b1 r}(h:NQ j b1=some r):Aa prog 123 [.agg<|A8 j,.agg<|A8 b1] (rB r):=by
 unfold NQ at h
 exact mF func123 ntmps123 R λl=>aU<|sS R (A6 (cs:=(A8 j)) 2 R iL R R)<|sS R (A6 (cs:=(A8 b1)) 3 R iL R R)<|mA R<|aZ<|aU<|lF Cu AI R R<|lF Cu AI R R<|xS R<|mM R<|vF Cu AI R R<|vF Cu AI R R<|vQ R (A4 R (iR R)<|iR R)<|vQ R (AM R<|iR R)<|wQ R (fB R DQ iL fR R)<|wQ R (AY (a:=rI j.Col) R AI (iR R) R R)<|wQ R (fB R DQ iL fR R)<|wQ R (AY (a:=rI b1.Col) R AI (iR R) R R)<|wQ R (CO R (iR R)<|iR R)<|vQ R (Bd R (iR R)<|iR R)<|xO R<|mA R<|aZ<|Zl<|yB h R
theorem pW{j b1 r}(h:ON j b1=some r):Aa prog 126 [.agg<|A8 j,.agg<|A8 b1] (rB r):=by
 unfold ON at h
 exact mF func126 ntmps126 R λF=>aU<|sS R (A6 (cs:=(A8 j)) 2 R iL R R)<|sS R (A6 (cs:=(A8 b1)) 3 R iL R R)<|mA R<|aZ<|aU<|lF Cu AI R R<|lF Cu AI R R<|lF G0 AI R R<|AE h λI l A=>xA R l<|xS R<|mM R<|vF Cu AI R R<|vF Cu AI R R<|vF G0 AI R R<|AE A λJ m B=>vQ R (LF R (iR R) (iR R)<|Ag m)<|vQ R (CO R (iR R)<|iR R)<|xN R<|mM R<|vF DQ AI R R<|vF DQ AI R R<|vF Gr AI R R<|AE B λM q C=>vQ R (LF R (iR R) (iR R)<|Ag q)<|vQ R (CO R (iR R)<|iR R)<|xN R<|mM R<|vF DQ AI R R<|vF DQ AI R R<|vF Gr AI R R<|AE C λO w E=>vQ R (LF R (iR R) (iR R)<|Ag w)<|vQ R (CO R (iR R)<|iR R)<|xN R<|mA R<|aZ<|Zl<|yB E R
theorem fT{l:Ap}{m:Ap}{r:Bool}{j:Nat}(h:Ra l m=some r):BC prog 125 1 [.agg<|A8 m,.ptr 1000 j 0 0] [(1000,some<|.box j 109<|A8 l)] (λq h'=>∃(i:Nat→Nat),q=rB r∧h'=[(1000,some<|.box j 109<|A8 l)]):=by
 unfold Ra at h
 refine D7 func125 R R ntmps125 (Zs R) λB=>aU<|sS R (A6 (cs:=(A8 m)) 2 R iL R R)<|mA R<|aZ<|aU<|xC DW R<|xC DW R<|AE h λA w C=>cL (pW<|w) R<|mA R<|aZ ?_
 exact Zl<|B8.mk (s':=⟨[(3,rB A)],[(1000,some<|.box j 109<|A8 l)],(B+1),7⟩) wk<|CM (λ(r:Bool) q h'=>∃(i:Nat→Nat),q=rB r∧h'=[(1000,some<|.box j 109<|A8 l)]) C<|by exact⟨rB A,[(1000,some<|.box j 109<|A8 l)],R,⟨.inr R,Za⟩,R,R,AH [],R,R⟩
theorem gq{l:Ap}{m:List Ap}{r:Int}{j:Nat}(h:QF l m=some r):BC prog 147 1 [qd m,.fn 125 [.ptr 1000 j 0 0]] [(1000,some<|.box j 109<|A8 l)] (λq h'=>∃(i:Nat→Nat),q=rI r∧h'=[(1000,some<|.box j 109<|A8 l)]):=by
 unfold QF at h
 refine D7 func147 R R ntmps147 (Zs R) λn0=>aU<|mA R<|aZ<|aS λK2 c2 C=>aU<|mM R<|xL Cz R<|mM R<|aZ<|Zg<|BS h λo1 w E F=>?_
 have J1:∀(u2:Unit) (I:NN),o1=.nrm u2→K2 ⟨[],[(1000,some<|.box j 109<|A8 l)],(I 0),19⟩:=by
  intro u2 I e
  have h1:=E _ e
  refine c2 _<|aU<|mA R<|aZ ?_
  exact Zl<|B8.mk (s':=⟨[(4,rI<|(-1))],[(1000,some<|.box j 109<|A8 l)],(I 0),19⟩) wk<|CM (λ(r:Int) q h'=>∃(i:Nat→Nat),q=rI r∧h'=[(1000,some<|.box j 109<|A8 l)]) h1<|by exact⟨rI<|(-1),[(1000,some<|.box j 109<|A8 l)],R,⟨.inr R,Za⟩,R,R,AH [],R,R⟩
 refine Zu (λ(A:Int) J=>⟨[(0,qd m),(1,.fn 125 [.ptr 1000 j 0 0]),(7,rL m),(8,rI A)],[(1000,some<|.box j 109<|A8 l)],(J 0),19⟩) (AH [n0]) w wk ?_
 intro A J v1 M B
 have h2:O4 l m A=some v1:=M;unfold O4 at h2
 refine aU<|xS R<|aZ<|aT λc6=>cI R h2 (λO=>?_) λO=>?_
 ·refine Zc<|c6 _<|aT λc7=>Zg<|aU<|mM R<|mA R<|aZ<|aT λc9=>aR<|mM R<|mM R<|mM R<|AE O λx4 T h4=>xI Cz R T<|xB ((A8 x4)) DW R<|AE h4 λr1 U h5=>?_
  refine Zy [1000] (hc:=[(1000,some<|.box j 109<|A8 l)]) (bs:=[.agg<|A8 x4]) (caps:=[.ptr 1000 j 0 0]) R R R R iL R ⟨.inl ⟨iL,R⟩,Za⟩ ⟨R,R,R,Za⟩ (by decide) (fT U) ?_
  intro i6 n1
  refine BZ [0,1,5,7,8,9,10,11,12,13,14,15,16] [1000] ?_
  refine aZ<|c9 _<|cI R h5 (λV=>?_) λV=>?_
  ·refine aT λX=>aG [5] [1000] ?_
   refine aR<|mM R<|mA R<|oZ X ?_
   exact Zl<|B8.mk (s':=⟨[(4,rI A)],[(1000,some<|.box j 109<|A8 l)],n1,19⟩) wk<|CM (λ(r:Int) q h'=>∃(i:Nat→Nat),q=rI r∧h'=[(1000,some<|.box j 109<|A8 l)]) (F _<|xH B V)<|by exact⟨rI A,[(1000,some<|.box j 109<|A8 l)],R,⟨.inr R,Za⟩,R,R,AH [],R,R⟩
  refine Zc<|c7 _<|aG [0,1,7,8] [1000] ?_
  exact aR<|AE V λx5 Z h7=>xA R Z<|mM R<|Zh<|Zr h7 (AH [n1]) wk
 exact Zm<|C _ _ wk<|J1 _ (AH [(J 0)])<|xH B O
theorem pa{l:Ap}{m:List Ap}{r:Bool}{j:Nat}(h:L2 l m=some r):BC prog 124 1 [qd m,.fn 125 [.ptr 1000 j 0 0]] [(1000,some<|.box j 109<|A8 l)] (λq h'=>∃(i:Nat→Nat),q=rB r∧h'=[(1000,some<|.box j 109<|A8 l)]):=by
 unfold L2 at h
 refine D7 func124 R R ntmps124 (Zs R) λF=>aU<|mA R<|aZ<|aT λB=>aR<|mM R<|mM R<|AE h λA w C=>?_
 refine Zy [1000] (hc:=[(1000,some<|.box j 109<|A8 l)]) (bs:=[qd m,.fn 125 [.ptr 1000 j 0 0]]) (caps:=[]) R R R R iL R ⟨.inl ⟨iL,R⟩,.inl ⟨iL,R⟩,Za⟩ ⟨R,R,R,Za⟩ (by decide) (gq w) ?_
 intro I E
 refine BZ [0,1,4,5,6,7] [1000] ?_
 refine sQ R (DT R iL iL)<|mA R<|oZ B ?_
 exact Zl<|B8.mk (s':=⟨[(4,rB<|(decide<|0≤A))],[(1000,some<|.box j 109<|A8 l)],E,9⟩) wk<|CM (λ(r:Bool) q h'=>∃(i:Nat→Nat),q=rB r∧h'=[(1000,some<|.box j 109<|A8 l)]) C<|by exact⟨rB<|(decide<|0≤A),[(1000,some<|.box j 109<|A8 l)],R,⟨.inr R,Za⟩,R,R,AH [],R,R⟩
theorem eL{m r}(h:PU m=some r):Aa prog 89 (Sl m) (rI r):=by
 unfold PU at h
 refine mF func89 ntmps89 R λI=>aU<|sS R (A6 (cs:=(B7 m)) 1 R iL R R)<|mA R<|aZ<|aT λc2=>aU<|lF Gc AI R R<|xS R<|mM R<|vF Gc AI R R<|vQ R (Bk R (iR R) iL)<|xO R<|mM R<|vF GZ AI R R<|vQ R (CO R (iR R) iL)<|xO R<|mM R<|vF GZ AI R R<|vQ R (Bk R (iR R) iL)<|xO R<|aZ<|cI R h (λJ=>?_) λJ=>?_
 ·exact zI J R id
 refine Zc<|c2 _<|aT λc5=>aT λc6=>aG [1] [1] ?_
 refine aR<|lF DX Dc R R<|lF Gc AI R R<|lF GZ AI R R<|AE J λe1 M h2=>cL (dO<|M) R<|mA R<|aZ<|c6 _<|aU<|mM R<|xU R<|aZ<|cI R h2 (λO=>?_) λO=>?_
 ·refine aT λc8=>aF [3] ?_
  exact aR<|mM R<|mA R<|aZ<|c8 _<|Zl<|yI O R
 refine Zc<|c5 _<|aS λK9 c9 T=>aT λU=>aG [1] [1] ?_
 refine aR<|lF EP Ei R R<|xL Cz R<|mM R<|aZ<|U _<|Zg<|BS O λo1 F V l=>?_
 have J1:∀(u2:Unit) (i5:NN),o1=.nrm u2→K9 ⟨[],[],(i5 0),81⟩:=by
  intro u2 i5 e
  have h4:=V _ e
  exact c9 _<|zI h4 R id
 refine Zu (λ(X:Int) C=>⟨[(1,.ptr 1 I 0 0),(35,qd m.Merges),(36,rL m.Merges),(37,rI X)],[(1,some<|.box I 51<|B7 m)],(C 0),81⟩) (AH [(I+1)]) F wk ?_
 intro X C v1 Z j
 have h5:PJ m X=some v1:=Z;unfold PJ at h5
 refine aU<|xS R<|aZ<|aT λa0=>cI R h5 (λh6=>?_) λh6=>?_
 ·refine Zc<|a0 _<|aT λa1=>Zg<|aU<|mM R<|AE h6 λq a2 h7=>xI Cz R a2<|xB ((A8 q)) DW R<|sS R (BI (cs:=FP) 5 R Gw R R)<|mA R<|Zj R R (A5 (ds:=(A8 q)) R F0 iL R iL R R R R)<|aZ<|Zg<|aU<|xC DW R<|lF Gc AI R R<|lF GZ AI R R<|AE h7 λr1 a6 h8=>cL (jT<|a6) R<|sQ R (BE R iL)<|mA R<|aZ<|cI R h8 (λh9=>?_) λh9=>?_
  ·exact zI (l _<|xH j h9) R id
  refine aT λa7=>aG [1,4,5,35,36,37] [1,5] ?_
  refine aR<|lF G0 AI R R<|xQ R<|mM R<|vF Gr AI R R<|vQ R (A4 R (iR R) iL)<|xN R<|mA R<|aZ<|a7 _<|cI R h9 (λw=>?_) λw=>?_
  ·exact zI (l _<|xH j w) R id
  refine aT λa8=>?_
  refine Zx BM (by kernel_rfl) ?_
  refine qP R (AM R iL)<|qP R (Bk R iL iL)<|qP R (AM R iL)<|qO R (fB R EP iL fR R)<|qO R (AY (a:=qd m.Merges) R Ei (iR R) R R)<|qO R (AM R iL)<|AE w λx5 aa ab=>qO R (CX R (iR R) iL<|Ag aa)<|AE ab λE ac ad=>qO R (A9 R Cz.slice (iR R) (iR R) (λ_=>R)<|Ag ac)<|qO R (CN (cs:=(A8 E)) R DW (iR R) R R)<|qO R (Dm R DW iL R R)<|AE ad λr2 ae af=>Pf (.one R R R) R R (r:=rB r2) (caps:=[]) (bs:=[.agg<|A8 E,.agg<|A8 q]) R iL R ⟨⟨_,(iR R),.g (cs:=[.int .i64 E.Row,.int .i64 E.Col,.int .i64 E.H,.int .i64 E.W]) R R⟩,⟨_,(iR R),.g (cs:=[.int .i64 q.Row,.int .i64 q.Col,.int .i64 q.H,.int .i64 q.W]) R R⟩,Za⟩ (λhg=>gC<|Ag ae hg) R<|qO R (BE R<|iR R)<|qP R (Bd R iL<|iR R)<|qP R (EL R iL)<|AQ.nil<|a8 _<|cI R af (λA=>?_) λA=>?_
  ·exact zI (l _<|xH j A) R id
  refine aT λag=>aG [1,4,5,35,36,37] [1,5] ?_
  refine aR<|lF EP Ei R R<|mM R<|AE A λl1 ah ai=>?_
  refine sQ R (Tl R Cz.slice iL (by exact R) (by exact⟨_,iL⟩) (λ_=>R) λ_=>ah) ?_
  refine sQ R (KX (bs:=[.ptr 5 (C 0) 0 0]) R<|by exact⟨iL,Za⟩) ?_
  refine AE ai λr3 aj ak=>?_
  refine Zy [5] (hc:=[(1000,some<|.box (C 0) 109<|A8 q)]) (bs:=[qd l1,.fn 125 [.ptr 1000 (C 0) 0 0]]) (caps:=[]) R R R R iL R ⟨.inl ⟨iL,R⟩,.inl ⟨iL,R⟩,Za⟩ ⟨R,R,R,Za⟩ (by decide) (pa aj) ?_
  intro i6 n1
  refine BZ [1,4,5,35,36,37,74,75,76,77,78,79] [1,5] ?_
  refine mA R<|aZ<|ag _<|cI R ak (λB=>?_) λB=>?_
  ·exact zI (l _<|xH j B) R id
  refine Zc<|a1 _<|aG [1,35,36,37] [1] ?_
  exact aR<|AE B λx7 al an=>xA R al<|mM R<|Zh<|Zr an (AH [n1]) wk
 exact Zm<|T _ _ wk<|J1 _ (AH [(C 0)])<|xH j h6
theorem cD{k j r}(h:O9 k j=some r):Aa prog 90 [rI k,qc j] (rI r):=by
 unfold O9 at h
 refine mF func90 ntmps90 R λX=>aU<|mA R<|aZ<|aS λZ c2 A=>aU<|mM R<|xL Bx R<|mM R<|aZ<|Zg<|BS h λo1 l B C=>?_
 have J1:∀(T:Unit) (U:NN),o1=.nrm T→Z ⟨[],[],(U 0),36⟩:=by
  intro T U e
  have h1:=B _ e
  exact c2 _<|zI h1 R id
 refine Zu (λ(E:Int) q=>⟨[(0,rI k),(7,qc j),(8,rL j),(9,rI E)],[],(q 0),36⟩) (AH [X]) l wk ?_
 intro E q v1 F m
 have V:NI k j E=some v1:=F;unfold NI at V
 refine aU<|xS R<|aZ<|aT λc6=>cI R V (λI=>?_) λI=>?_
 ·refine Zc<|c6 _<|aT λc7=>Zg<|aU<|AE I λw J h4=>xI Bx R J<|xB ((BP w)) EM R<|sS R (BI (cs:=HS) 6 R G8 R R)<|Zj R R (A5 (ds:=(BP w)) R HV iL R iL R R R R)<|aZ<|aU<|mM R<|xQ R<|mM R<|vF He BK R R<|vQ R (D1 R (iR R) iL)<|vQ R (AM R<|iR R)<|wQ R (fB R GX iL fR R)<|wQ R (AY (a:=qa w.Attrs) R CR (iR R) R R)<|wQ R (DK R BH.slice<|iR R)<|wQ R (Bk R (iR R) iL)<|vQ R (Cp R (iR R)<|iR R)<|xN R<|mM R<|vM R<|vQ R (A4 R (iR R) iL)<|vQ R (AM R<|iR R)<|wQ R (fB R Ce iL fR R)<|wQ R (AY (a:=rI w.Ref) R AI (iR R) R R)<|wQ R (DJ R (iR R) iL)<|vQ R (Bd R (iR R)<|iR R)<|xO R<|aZ<|cI R h4 (λM=>?_) λM=>?_
  ·exact zI (C _<|xH m M) R id
  refine Zc<|c7 _<|aF [0,7,8,9] ?_
  exact aR<|AE M λx5 O h6=>xA R O<|mM R<|Zh<|Zr h6 (AH [((q 0)+1)]) wk
 exact Zm<|A _ _ wk<|J1 _ (AH [(q 0)])<|xH m I
theorem aN{l r}(h:KH l=some r):Aa prog 148 [rS l] (rB r):=by
 unfold KH at h
 refine mF func148 ntmps148 R λn0=>aU<|mA R<|aZ<|aT λc2=>aU<|mM R<|sQ R (EZ R iL iL)<|mM R<|vM R<|vQ R (Dq R underlying9<|iR R)<|vQ R (Bk R (iR R) iL)<|xO R<|mM R<|vM R<|vM R<|vQ R (Dq R underlying9<|iR R)<|AE h λx1 B h1=>vQ R (CX R (iR R) iL<|Ag B)<|AE h1 λa0 m h2=>vQ R (Co R underlying9 (iR R) (iR R)<|Ag m)<|vQ R (A4 R (iR R) iL)<|xO R<|aZ<|cI R h2 (λC=>?_) λC=>?_
 ·exact zB C R id
 refine Zc<|c2 _<|aS λK5 c5 E=>aT λc6=>aF [0] ?_
 refine aR<|mM R<|sQ R (Dq R underlying9 iL)<|mM R<|aZ<|c6 _<|Zg<|BS C λo1 q F I=>?_
 have J1:∀(X:Unit) (Z:NN),o1=.nrm X→K5 ⟨[],[],(Z 0),35⟩:=by
  intro X Z e
  have h4:=F _ e
  exact c5 _<|zB h4 R id
 refine Zu (λ(J:Int) A=>⟨[(0,rS l),(20,rL l),(21,rI J)],[],(A 0),35⟩) (AH [n0]) q wk ?_
 intro J A v1 M w
 have h5:KN l J=some v1:=M;unfold KN at h5
 refine aU<|xS R<|aZ<|aT λc9=>cI R h5 (λO=>?_) λO=>?_
 ·refine Zc<|c9 _<|aT λT=>Zg<|aU<|mM R<|mA R<|aZ<|aU<|mM R<|mM R<|AE O λa1 j h7=>sQ R (Co R underlying9 iL iL λ_=>j)<|xS R<|mM R<|vM R<|vM R<|vQ R (Co R underlying9 (iR R) (iR R) λ_=>j)<|vQ R (Bk R (iR R) iL)<|xO R<|aZ<|cI R h7 (λU=>?_) λU=>?_
  ·exact zB (I _<|xH w U) R id
  refine Zc<|T _<|aF [0,20,21] ?_
  exact aR<|AE U λx5 V h9=>xA R V<|mM R<|Zh<|Zr h9 (AH [(A 0)]) wk
 exact Zm<|E _ _ wk<|J1 _ (AH [(A 0)])<|xH w O
theorem mX{j r}(h:Kz j=some r):Aa prog 127 (gD j) (rI r):=by
 unfold Kz at h
 refine mF func127 ntmps127 R λC=>aU<|sS R (A6 (cs:=(Bl j)) 1 R iL R R)<|mA R<|aZ<|aT λc2=>Zg<|aU<|lF Fp AI R R<|xU R<|mM R<|vF Fp AI R R<|vQ R (DJ R (iR R) iL)<|xN R<|mA R<|aZ<|cI R h (λM=>?_) λM=>?_
 ·exact zI M R id
 refine aT λc5=>aG [1] [1] ?_
 refine aR<|lF IB AI R R<|xS R<|mM R<|vF IB AI R R<|vQ R (Bk R (iR R) iL)<|xO R<|mM R<|vF Kh AI R R<|vQ R (CO R (iR R) iL)<|xO R<|mM R<|vF Kh AI R R<|vQ R (Bk R (iR R) iL)<|xO R<|mM R<|vF Fa AI R R<|vQ R (CO R (iR R) iL)<|xO R<|mM R<|vF Fa AI R R<|vQ R (Bk R (iR R) iL)<|xO R<|mA R<|aZ<|c5 _<|cI R M (λO=>?_) λO=>?_
 ·exact zI O R id
 refine aS λK7 c7 E=>aT λc8=>aG [1] [1] ?_
 refine aR<|lF Fp AI R R<|xQ R<|mM R<|vF MB BK R R<|vQ R (D1 R (iR R) iL)<|vQ R (AM R<|iR R)<|wQ R (fB R JI iL fR R)<|wQ R (AY (a:=rS j.Value) R BK (iR R) R R)<|wQ R (D1 R (iR R) iL)<|vQ R (Cp R (iR R)<|iR R)<|xN R<|mA R<|aZ<|c8 _<|BV O λp1 F T=>?_
 have J1:∀(U:Bool) (J:NN),p1=U→K7 ⟨[(1,.ptr 1 C 0 0),(41,rB U)],[(1,some<|.box C 146<|Bl j)],(J 0),116⟩:=by
  intro U J e
  have h3:=T _ e
  refine c7 _<|cI R h3 (λV=>?_) λV=>?_
  ·exact zI V R id
  refine aU<|lF Fp AI R R<|xQ R<|mM R<|vF HQ AI R R<|vQ R (CO R (iR R) iL)<|vQ R (AM R<|iR R)<|wQ R (fB R HQ iL fR R)<|wQ R (AY (a:=rI j.Parent) R AI (iR R) R R)<|wQ R (Bk R (iR R) iL)<|vQ R (Cp R (iR R)<|iR R)<|xN R<|mA R<|aZ<|cI R V (λX=>?_) λX=>?_
  ·exact zI X R id
  refine aS λZ a0 l=>aT λa1=>aG [1] [1] ?_
  refine aR<|lF Fp AI R R<|xQ R<|mM R<|vF MV BK R R<|AE X λr1 a2 h6=>vL (λhg=>aN<|Ag a2 hg) R<|vQ R (BE R<|iR R)<|xN R<|mA R<|aZ<|a1 _<|BV h6 λp2 I a6=>?_
  have J2:∀(x2:Bool) (i2:NN),p2=x2→Z ⟨[(1,.ptr 1 C 0 0),(82,rB x2)],[(1,some<|.box C 146<|Bl j)],(i2 0),116⟩:=by
   intro x2 i2 e
   have h7:=a6 _ e
   refine a0 _<|cI R h7 (λh8=>?_) λh8=>?_
   ·exact zI h8 R id
   refine aU<|lF Fp AI R R<|xQ R<|mM R<|vF JI BK R R<|vQ R (D1 R (iR R) iL)<|xN R<|mM R<|vF JI BK R R<|AE h8 λr2 a7 h9=>vL (λhg=>Yn<|Ag a7 hg) R<|vQ R (BE R<|iR R)<|xN R<|mA R<|aZ<|cI R h9 (λm=>?_) λm=>?_
   ·exact zI m R id
   exact Zc<|c2 _<|zI m R id
  refine aC R (λq=>?_) λq=>?_
  ·have w:=ET q I
   exact Zc<|l _ _ wk<|J2 _ (AH [(J 0)]) (Zf w).symm
  ·have w:=EJ q I
   refine aG [1] [1] ?_
   exact aR<|lF Fp AI R R<|xQ R<|mM R<|vF MB BK R R<|AE w λr3 a8 aa=>vL (λhg=>WC<|Ag a8 hg) R<|vQ R (BE R<|iR R)<|xN R<|mA R<|Zh<|l _ _ wk<|J2 _ (AH [(J 0)]) (Zf aa).symm
 refine aC R (λA=>?_) λA=>?_
 ·have B:=ET A F
  exact Zc<|E _ _ wk<|J1 _ (AH [(C+1)]) (Zf B).symm
 ·have B:=EJ A F
  refine aG [1] [1] ?_
  exact aR<|lF Fp AI R R<|xQ R<|mM R<|vF HQ AI R R<|vQ R (DJ R (iR R) iL)<|vQ R (AM R<|iR R)<|wQ R (fB R MV iL fR R)<|wQ R (AY (a:=rS j.Place) R BK (iR R) R R)<|wQ R (D1 R (iR R) iL)<|vQ R (Cp R (iR R)<|iR R)<|xN R<|mA R<|Zh<|E _ _ wk<|J1 _ (AH [(C+1)]) (Zf B).symm
theorem oU{l b1 r}(h:KQ l b1=some r):Aa prog 128 [.agg<|Bl l,.agg<|Bl b1] (rI r):=by
 unfold KQ at h
 refine mF func128 ntmps128 R λj=>aU<|sS R (A6 (cs:=(Bl l)) 2 R iL R R)<|sS R (A6 (cs:=(Bl b1)) 3 R iL R R)<|mA R<|aZ<|aT λB=>AE h λm q C=>?_
 refine rP 9 [pO 5<|.ptr 2 j 0 0,pO 6<|rI l.Clock,pO 7<|.ptr 3 (j+1) 0 0,pO 8<|rI b1.Clock,pO 9<|rI m,pO 10<|.ptr 2 j 0 1,pO 11<|rI l.Site,pO 12<|.ptr 3 (j+1) 0 1,pO 13<|rI b1.Site] BM R (by exact⟨oB [(2,.ptr 2 j 0 0)] [(2,some<|.box j 146<|Bl l)]<|fB R IB (.inl R) (λ_=>R) R,oB [(5,.ptr 2 j 0 0)] [(2,some<|.box j 146<|Bl l)]<|AY (a:=rI l.Clock) R AI (.inl R) R R,oB [(3,.ptr 3 (j+1) 0 0)] [(3,some<|.box (j+1) 146<|Bl b1)]<|fB R IB (.inl R) (λ_=>R) R,oB [(7,.ptr 3 (j+1) 0 0)] [(3,some<|.box (j+1) 146<|Bl b1)]<|AY (a:=rI b1.Clock) R AI (.inl R) R R,oD (λ_=>[(6,rI l.Clock),(8,rI b1.Clock)]) (λ_=>[]) λE e M n=>DU (r:=rI m) (caps:=[]) (bs:=[rI l.Clock,rI b1.Clock]) R (.inl R) R ⟨⟨_,(.inl R),.d R⟩,⟨_,(.inl R),.d R⟩,Za⟩ (λ_=>ML<|q) R,oB [(2,.ptr 2 j 0 0)] [(2,some<|.box j 146<|Bl l)]<|fB R Kh (.inl R) (λ_=>R) R,oB [(10,.ptr 2 j 0 1)] [(2,some<|.box j 146<|Bl l)]<|AY (a:=rI l.Site) R AI (.inl R) R R,oB [(3,.ptr 3 (j+1) 0 0)] [(3,some<|.box (j+1) 146<|Bl b1)]<|fB R Kh (.inl R) (λ_=>R) R,oB [(12,.ptr 3 (j+1) 0 1)] [(3,some<|.box (j+1) 146<|Bl b1)]<|AY (a:=rI b1.Site) R AI (.inl R) R R,Za⟩) λE O=>?_
 refine BZ [0,1,2,3,4,5,6,7,8,9,10,11,12,13] [2,3] ?_
 exact AE C λF w I=>cL (ML<|w) R<|sS R (Bj 15 R Bi (f:=(Ab .i64)) (l:=([m,F]:List Int)) ⟨R,⟨_,iL,R⟩,R,⟨_,iL,R⟩,Za⟩ R (λ_=>R) R)<|AE I λT A J=>cL (TP<|A) R<|mA R<|aZ<|B _<|Zl<|yI J R
theorem l8{w r}(h:LL w=some r):Aa prog 91 [qf w] (rI r):=by
 unfold LL at h
 refine mF func91 ntmps91 R λn0=>aU<|mA R<|aZ<|aS λK2 c2 E=>aU<|mM R<|xL EB R<|mM R<|aZ<|Zg<|BS h λo1 A F B=>?_
 have J1:∀(u2:Unit) (i5:NN),o1=.nrm u2→K2 ⟨[],[],(i5 0),31⟩:=by
  intro u2 i5 e
  have h1:=F _ e
  exact c2 _<|zI h1 R id
 refine Zu (λ(I:Int) C=>⟨[(0,qf w),(6,qf w),(7,rL w),(8,rI I)],[],(C 0),31⟩) (AH [n0]) A wk ?_
 intro I C v1 J m
 have h2:LE w I=some v1:=J;unfold LE at h2
 refine aU<|xS R<|aZ<|aT λc6=>cI R h2 (λM=>?_) λM=>?_
 ·refine Zc<|c6 _<|aT λc7=>Zg<|aU<|mM R<|AE M λj O h4=>xI EB R O<|xB ((Bl j)) HL R<|sS R (BI (cs:=QK) 4 R Rh R R)<|mA R<|Zj R R (A5 (ds:=(Bl j)) R Qn iL R iL R R R R)<|aZ<|aT λc9=>aU<|xC HL R<|AE h4 λe1 T h5=>cL (mX<|T) R<|mA R<|aZ<|aU<|mM R<|xU R<|aZ<|cI R h5 (λU=>?_) λU=>?_
  ·refine aT λV=>aF [5] ?_
   exact aR<|mM R<|mA R<|aZ<|V _<|Zl<|yI (B _<|xH m U) R
  refine Zc<|c9 _<|aT λX=>aG [0,3,4,6,7,8] [4] ?_
  refine Zx BM (by kernel_rfl) ?_
  refine qP R (AM R iL)<|qP R (Bk R iL iL)<|qP R (AM R iL)<|qO R (AM R iL)<|qO R (AM R iL)<|AE U λx5 Z h7=>qO R (CX R (iR R) iL<|Ag Z)<|AE h7 λl a0 h8=>qO R (A9 R EB.slice (iR R) (iR R) (λ_=>R)<|Ag a0)<|qO R (CN (cs:=(Bl l)) R HL (iR R) R R)<|qO R (Dm R HL iL R R)<|AE h8 λr1 a1 h9=>Pf (.one R R R) R R (r:=rI r1) (caps:=[]) (bs:=[.agg<|Bl l,.agg<|Bl j]) R iL R ⟨⟨_,(iR R),.g (cs:=[.int .i64 l.Clock,.int .i64 l.Site,.int .i64 l.Kind,.int .i64 l.Item,.int .i64 l.Parent,.str l.Place,.str l.Name,.str l.Value]) R R⟩,⟨_,(iR R),.g (cs:=[.int .i64 j.Clock,.int .i64 j.Site,.int .i64 j.Kind,.int .i64 j.Item,.int .i64 j.Parent,.str j.Place,.str j.Name,.str j.Value]) R R⟩,Za⟩ (λhg=>oU<|Ag a1 hg) R<|qO R (DT R (iR R) iL)<|qP R (Bd R iL<|iR R)<|AQ.nil<|X _<|cI R h9 (λq=>?_) λq=>?_
  ·exact zI (B _<|xH m q) R id
  exact Zc<|c7 _<|aR<|AE q λx7 a2 a6=>xA R a2<|mM R<|Zh<|Zr a6 (AH [((C 0)+1)]) wk
 exact Zm<|E _ _ wk<|J1 _ (AH [(C 0)])<|xH m M
theorem lT{n1 r}(h:CZ n1=some r):Aa prog 53 (Ho n1) (rI r):=by
 unfold CZ at h
 refine mF func53 ntmps53 R λA=>aU<|sS R (A6 (cs:=(Ai n1)) 1 R iL R R)<|mA R<|aZ<|aT λc2=>Zg<|aU<|lF Da AI R R<|xS R<|mM R<|vF Da AI R R<|vQ R (Bk R (iR R) iL)<|xO R<|mA R<|aZ<|cI R h (λV=>?_) λV=>?_
 ·exact zI V R id
 refine aT λc5=>aG [1] [1] ?_
 refine aR<|lF CP AI R R<|xS R<|mM R<|vF CP AI R R<|vQ R (DT R (iR R) iL)<|xO R<|mM R<|vF Da AI R R<|vQ R (A4 R (iR R) iL)<|vF CP AI R R<|vQ R (A4 R (iR R) iL)<|vQ R (cU R underlying4 (iR R)<|iR R)<|xO R<|mA R<|aZ<|c5 _<|cI R V (λX=>?_) λX=>?_
 ·exact zI X R id
 refine Zc<|c2 _<|aT λc7=>aT λc8=>aG [1] [1] ?_
 refine aR<|lF Ji CR R R<|AE X λe1 Z h3=>cL (T7<|Z) R<|mA R<|aZ<|c8 _<|aU<|mM R<|xU R<|aZ<|cI R h3 (λh4=>?_) λh4=>?_
 ·exact aU<|mM R<|mA R<|aZ<|Zl<|yI h4 R
 refine Zc<|c7 _<|aT λa0=>?_
 refine Zx BM (by kernel_rfl) ?_
 refine qP R (fB R CP iL fR R)<|qP R (AY (a:=rI n1.Kind) R AI iL R R)<|AE h4 λl O h5=>AQ.stepC R R R (r:=rB l) (caps:=[]) (bs:=[rI n1.Kind]) R iL R ⟨⟨_,iL,.d R⟩,Za⟩ (λ_=>Sf<|O) R<|qP R (AM R iL)<|qO R (fB R CP iL fR R)<|qO R (AY (a:=rI n1.Kind) R AI (iR R) R R)<|AE h5 λm a1 h6=>Pf (.one R R R) R R (r:=rB m) (caps:=[]) (bs:=[rI n1.Kind]) R iL R ⟨⟨_,(iR R),.d R⟩,Za⟩ (λhg=>iC<|Ag a1 hg) R<|qP R (Cp R iL<|iR R)<|qP R (fB R CP iL fR R)<|qP R (AY (a:=rI n1.Kind) R AI iL R R)<|AE h6 λj B h7=>AQ.stepC R R R (r:=rB j) (caps:=[]) (bs:=[rI n1.Kind]) R iL R ⟨⟨_,iL,.d R⟩,Za⟩ (λ_=>oo<|B) R<|qP R (EL R iL)<|qP R (EL R iL)<|AQ.nil<|a0 _<|aT λa2=>aS λa6 a7 C=>aG [1,4,5] [1] ?_
 refine aR<|mM R<|sQ R (BE R iL)<|mM R<|vF Dk D0 R R<|vQ R (DK R Bb.slice<|iR R)<|vQ R (Bk R (iR R) iL)<|xN R<|mM R<|vM R<|vQ R (BE R<|iR R)<|vQ R (AM R<|iR R)<|wQ R (fB R DS iL fR R)<|wQ R (GH (ds:=(B7 n1.Grid)) R GM (iR R) R R R) ?_
 refine wQ R (Bu R ZC (q:=[]) (by exact Za) (cs:=QX)<|by rfl) ?_
 refine BV h7 λp1 T a8=>?_
 have J1:∀(x1:Bool) (i1:NN),p1=x1→a6 ⟨[(1,.ptr 1 A 0 0),(4,rB<|(l||m)),(5,rB j),(81,rB x1)],[(1,some<|.box A 54<|Ai n1)],(i1 0),107⟩:=by
  intro x1 i1 e
  have h8:=a8 _ e
  refine a7 _<|cI R h8 (λh9=>?_) λh9=>?_
  ·exact zI h9 R id
  refine Zc<|a2 _<|aT λaa=>Zg<|aU<|mM R<|mA R<|aZ<|cI R h9 (λF=>?_) λF=>?_
  ·refine aT λab=>?_
   refine Zx BM (by kernel_rfl) ?_
   exact qP R (fB R Dk iL fR R)<|qP R (AY (a:=qe n1.Flow) R D0 iL R R)<|qP R (fB R CP iL fR R)<|qP R (AY (a:=rI n1.Kind) R AI iL R R)<|AQ.stepC R R R (r:=rB l) (caps:=[]) (bs:=[rI n1.Kind]) R iL R ⟨⟨_,iL,.d R⟩,Za⟩ (λ_=>Sf<|O) R<|AE F λr4 ac ad=>AQ.stepC R R R (r:=rI r4) (caps:=[]) (bs:=[qe n1.Flow,rB l]) R iL R ⟨⟨_,iL,.d R⟩,⟨_,iL,.d R⟩,Za⟩ (λ_=>ku<|ac) R<|qP R (EL R iL)<|AQ.nil<|ab _<|Zl<|yI ad R
  refine aU<|mM R<|mA R<|aZ<|cI R F (λI=>?_) λI=>?_
  ·refine aT λae=>aU<|sQ R (fB R DS iL fR R)<|sQ R (GH (ds:=(B7 n1.Grid)) R GM iL R R R)<|AE I λe2 af ag=>cL (eL<|af) R<|mA R<|aZ<|aT λah=>aG [1,6] [1] ?_
   refine aR<|mM R<|xU R<|aZ<|ah _<|cI R ag (λJ=>?_) λJ=>?_
   ·exact aU<|mM R<|mA R<|aZ<|Zl<|yI J R
   exact Zc<|ae _<|aU<|lF CP AI R R<|sQ R (fB R DS iL fR R)<|lF DX Dc R R<|AE J λr5 ai aj=>cL (cD<|ai) R<|mA R<|aZ<|Zl<|yI aj R
  exact Zc<|aa _<|aU<|lF Ga HM R R<|AE I λr6 ak al=>cL (l8<|ak) R<|mA R<|aZ<|Zl<|yI al R
 refine AS.split (((!(l||m))&&(0<(n1.Flow.length:Int)))==false) (λq=>?_) λq=>?_
 ·have E:=ET q T
  refine AS.weak (by exact Rz (e':=[(1,.ptr 1 A 0 0),(4,rB<|(l||m)),(5,rB j),(51,rB<|(l||m)),(52,rB<|(!(l||m))),(53,rB<|(!(l||m))),(58,rB<|((!(l||m))&&(0<(n1.Flow.length:Int)))),(59,rB<|((!(l||m))&&(0<(n1.Flow.length:Int)))),(60,rB j),(61,rB<|(!j)),(62,rB<|(!j)),(63,.whn ((!j)==true)<|.ptr 1 A 0 4),(64,.whn ((!j)==true)<|.agg<|B7 n1.Grid),(65,.whn ((!j)==true)<|.agg QX)]) q ⟨.inl R,.inl R,.inl R,.inl R,.inl R,.inl R,.inl R,.inl R,.inr iL,.inr iL,.inr iL,.inr<|.inr<|.inl ⟨_,_,R,R⟩,.inr<|.inr<|.inl ⟨_,_,R,R⟩,.inr<|.inr<|.inl ⟨_,_,R,R⟩,Za⟩) ?_
  refine AS.split ((!j)==true) (λw=>?_) λw=>?_
  ·have M:=ET w E
   refine AS.weak (by exact Rz (e':=[(1,.ptr 1 A 0 0),(4,rB<|(l||m)),(5,rB j),(51,rB<|(l||m)),(52,rB<|(!(l||m))),(53,rB<|(!(l||m))),(58,rB<|((!(l||m))&&(0<(n1.Flow.length:Int)))),(59,rB<|((!(l||m))&&(0<(n1.Flow.length:Int)))),(60,rB j),(61,rB<|(!j)),(62,rB<|(!j)),(63,.ptr 1 A 0 4),(64,.agg<|B7 n1.Grid),(65,.agg QX)]) w ⟨.inl R,.inl R,.inl R,.inl R,.inl R,.inl R,.inl R,.inl R,.inl R,.inl R,.inl R,.inr iL,.inr iL,.inr iL,Za⟩) ?_
   refine AS.weak (by exact Am.cv (e':=[(1,.ptr 1 A 0 0),(4,rB<|(l||m)),(5,rB j),(51,rB<|(l||m)),(52,rB<|(!(l||m))),(53,rB<|(!(l||m))),(58,rB<|((!(l||m))&&(0<(n1.Flow.length:Int)))),(59,rB<|((!(l||m))&&(0<(n1.Flow.length:Int)))),(60,rB j),(61,rB<|(!j)),(62,rB<|(!j)),(63,.ptr 1 A 0 4),(64,.agg<|B7 n1.Grid),(65,.agg [rI 0,rI 0,.r<|.sl [],.r<|.sl []])]) (h':=[(1,some<|.box A 54<|Ai n1)]) ⟨jL,jL,jL,jL,jL,jL,jL,jL,jL,jL,jL,jL,jL,.inr ⟨_,_,R,R,⟨.inl R,.inl R,.inr<|.inr ⟨R,R⟩,.inr<|.inr ⟨R,R⟩,Za⟩⟩,Za⟩ ⟨.inl R,Za⟩ nL) ?_
   exact AE M λr7 an ao=>H1 (.one R R R) w R R (DU (r:=rB r7) (caps:=[]) (bs:=[.agg<|B7 n1.Grid,.agg [rI 0,rI 0,.r<|.sl [],.r<|.sl []]]) R (.inl R) R ⟨⟨_,(.inl R),.g (cs:=[.int .i64 n1.Grid.Rows,.int .i64 n1.Grid.Cols,.sl<|n1.Grid.Cells.map An.row,.sl<|n1.Grid.Merges.map Ap.row]) R R⟩,⟨_,(.inl R),.g (cs:=[.int .i64 0,.int .i64 0,.sl<|[].map An.row,.sl<|[].map Ap.row]) R R⟩,Za⟩ (λ_=>fQ<|an) R)<|H1 (.one R R R) w R R (DD (BE R<|.inl R) _)<|H1 (.one R R R) q R R (DD (Bd R (.inl R)<|.inl R) _)<|sQ R (Cp R iL iL)<|mM R<|vF CP AI R R<|AE ao λr8 aq ar=>vL (λhg=>UT<|Ag aq hg) R<|vQ R (BE R<|iR R)<|vQ R (AM R<|iR R)<|wQ R (fB R Ga iL fR R)<|wQ R (AY (a:=qf n1.Draw) R HM (iR R) R R)<|wQ R (DK R EB.slice<|iR R)<|wQ R (Bk R (iR R) iL)<|vQ R (Bd R (iR R)<|iR R)<|xO R<|Zh<|C _ _ wk<|J1 _ (AH [(A+1)]) (Zf ar).symm
  ·have M:=EJ w E
   exact Gl (.one R R R) w R R<|Gl (.one R R R) w R R<|H1 (.one R R R) q R R (DD (Bd R (.inl R)<|iR R) _)<|sQ R (Cp R iL iL)<|mM R<|vF CP AI R R<|AE M λr9 au av=>vL (λhg=>UT<|Ag au hg) R<|vQ R (BE R<|iR R)<|vQ R (AM R<|iR R)<|wQ R (fB R Ga iL fR R)<|wQ R (AY (a:=qf n1.Draw) R HM (iR R) R R)<|wQ R (DK R EB.slice<|iR R)<|wQ R (Bk R (iR R) iL)<|vQ R (Bd R (iR R)<|iR R)<|xO R<|Zh<|C _ _ wk<|J1 _ (AH [(A+1)]) (Zf av).symm
 ·have E:=EJ q T
  exact Gl (.two R R R) (Wc q) R R<|Gl (.two R R R) (Wc q) R R<|Gl (.one R R R) q R R<|xO R<|mM R<|vF CP AI R R<|AE E λax U aw=>vL (λhg=>UT<|Ag U hg) R<|vQ R (BE R<|iR R)<|vQ R (AM R<|iR R)<|wQ R (fB R Ga iL fR R)<|wQ R (AY (a:=qf n1.Draw) R HM (iR R) R R)<|wQ R (DK R EB.slice<|iR R)<|wQ R (Bk R (iR R) iL)<|vQ R (Bd R (iR R)<|iR R)<|xO R<|Zh<|C _ _ wk<|J1 _ (AH [(A+1)]) (Zf aw).symm
theorem hO{q r}(h:Jp q=some r):Aa prog 93 [qe q] (.r<|.sl<|r.map<|Ab .i64):=by
 unfold Jp at h
 refine mF func93 ntmps93 R λF=>aU<|mA R<|aZ<|aU<|mA R<|aZ<|aS λK3 c3 M=>aU<|mM R<|xL Bb R<|mM R<|aZ<|Zg<|BV h λo1 C O=>?_
 have J1:∀(j:List Int) (I:NN),o1=j→K3 ⟨[(3,.own 5003<|I 0)],[(5003,some<|.arr (I 0) 3 1<|j.map<|Ab .i64)],(I 1),22⟩:=by
  intro j I e
  have h1:=O _ e
  exact c3 _<|aU<|mM R<|mA R<|aZ<|Zl<|Cg (P:=prog) (λ(r:(List Int))=>.r<|.sl<|r.map<|Ab .i64) h1 iL<|.t<|.one<|.own R
 refine Cs (λ(J:Int) (l:List Int) w=>⟨[(3,.own 5003<|w 0),(6,qe q),(7,rL q),(8,rI J)],[(5003,some<|.arr (w 0) 3 1<|l.map<|Ab .i64)],(w 1),22⟩) (AH [F,(F+1)]) C (Zv (Zv (GI 3 5003 3 1 (by decide) R)<|by exact Am.cv (e':=[(0,qe q),(2,cZ),(3,.own 5003 F),(6,qe q),(7,rL q),(8,rI 0)]) (h':=[(5003,some<|.arr F 3 1<|([]:List Int).map<|Ab .i64)]) ⟨jL,jL,jL,jL,jL,jL,Za⟩ ⟨.inl R,Za⟩ nL) wk) ?_
 intro J l w v1 T U
 have h2:FZ q J l=some v1:=T;unfold FZ at h2
 refine aU<|xS R<|aZ<|aT λc7=>cI R h2 (λV=>?_) λV=>?_
 ·refine Zc<|c7 _<|aS λK8 c8 E=>Zg<|BV V λp1 X Z=>?_
  have J2:∀(m:List Int) (B:NN),p1=m→K8 ⟨[(3,.own 5003<|B 0),(6,qe q),(7,rL q),(8,rI J)],[(5003,some<|.arr (B 0) 3 1<|m.map<|Ab .i64)],(B 1),22⟩:=by
   intro m B e
   have h4:=Z _ e
   exact c8 _<|aR<|AE h4 λx4 a0 h5=>xA R a0<|mM R<|Zh<|ZJ h5 (AH [(B 0),(B 1)]) wk
  refine aU<|AE X λx5 a1 h6=>xI Bb R a1<|xB ((Bg x5)) Fr R<|sS R (BI (cs:=JJ) 5 R JD R R)<|Zj R R (A5 (ds:=(Bg x5)) R IA iL R iL R R R R)<|aZ<|aU<|lF Cm AI R R<|xU R<|aZ<|cI R h6 (λh7=>?_) λh7=>?_
  ·exact aR<|mM R<|lF Cm AI R R<|sS R (Bj 18 R Bi (f:=(Ab .i64)) (l:=([x5.Ref]:List Int)) ⟨R,⟨_,iL,R⟩,Za⟩ R (λ_=>R) R)<|AE h7 λa2 A h8=>sS R (Cj R Bi iL R (.inr<|.inl ⟨_,_,iL,R⟩) A)<|mA R<|Zh<|E _ _ wk<|J2 _ (AH [((w 1)+2),((w 1)+3)]) (Zf h8).symm
  exact Zc<|E _ _ wk<|J2 _ (AH [(w 0),((w 1)+1)]) (Zf h7).symm
 exact Zm<|M _ _ wk<|J1 _ (AH [(w 0),(w 1)])<|xH U V
theorem gR{w r}(h:Jt w=some r):BC prog 93 1 [qe w] [] (λM h'=>∃(i:Nat→Nat),M=.own 1000 (i 0)∧h'=[(1000,some<|.arr (i 0) 3 1<|r.map<|Ab .i64)]):=by
 unfold Jt at h
 refine D7 func93 R R ntmps93 (Zs R) λI=>aU<|mA R<|aZ<|aU<|mA R<|aZ<|aS λK3 c3 O=>aU<|mM R<|xL Bb R<|mM R<|aZ<|Zg<|BV h λo1 E T=>?_
 have J1:∀(j:List Int) (l:NN),o1=j→K3 ⟨[(3,.own 5003<|l 0)],[(5003,some<|.arr (l 0) 3 1<|j.map<|Ab .i64)],(l 1),22⟩:=by
  intro j l e
  have h1:=T _ e
  refine c3 _<|aU<|mM R<|mA R<|aZ ?_
  exact Zl<|B8.mk (s':=⟨[(2,.own 1000<|l 1)],[(1000,some<|.arr (l 1) 3 1<|j.map<|Ab .i64)],((l 1)+1),22⟩) (Zv (Zv (Am.ren 2 5003 1000 R R R)<|by exact Am.cv (e':=[(2,.own 1000<|l 1)]) (h':=[(1000,some<|.arr (l 1) 3 1<|j.map<|Ab .i64)]) ⟨jL,Za⟩ ⟨.inl R,Za⟩ nL) wk)<|CM (λ(r:(List Int)) M h'=>∃(i:Nat→Nat),M=.own 1000 (i 0)∧h'=[(1000,some<|.arr (i 0) 3 1<|r.map<|Ab .i64)]) h1<|by exact⟨.own 1000<|l 1,[(1000,some<|.arr (l 1) 3 1<|j.map<|Ab .i64)],R,⟨.inr R,Za⟩,R,R,AH [(l 1)],R,R⟩
 refine Cs (λ(J:Int) (m:List Int) A=>⟨[(3,.own 5003<|A 0),(6,qe w),(7,rL w),(8,rI J)],[(5003,some<|.arr (A 0) 3 1<|m.map<|Ab .i64)],(A 1),22⟩) (AH [I,(I+1)]) E (Zv (Zv (GI 3 5003 3 1 (by decide) R)<|by exact Am.cv (e':=[(0,qe w),(2,cZ),(3,.own 5003 I),(6,qe w),(7,rL w),(8,rI 0)]) (h':=[(5003,some<|.arr I 3 1<|([]:List Int).map<|Ab .i64)]) ⟨jL,jL,jL,jL,jL,jL,Za⟩ ⟨.inl R,Za⟩ nL) wk) ?_
 intro J m A v1 U V
 have h2:E9 w J m=some v1:=U;unfold E9 at h2
 refine aU<|xS R<|aZ<|aT λc7=>cI R h2 (λX=>?_) λX=>?_
 ·refine Zc<|c7 _<|aS λK8 c8 F=>Zg<|BV X λp1 Z a0=>?_
  have J2:∀(q:List Int) (C:NN),p1=q→K8 ⟨[(3,.own 5003<|C 0),(6,qe w),(7,rL w),(8,rI J)],[(5003,some<|.arr (C 0) 3 1<|q.map<|Ab .i64)],(C 1),22⟩:=by
   intro q C e
   have h4:=a0 _ e
   exact c8 _<|aR<|AE h4 λx4 a1 h5=>xA R a1<|mM R<|Zh<|ZJ h5 (AH [(C 0),(C 1)]) wk
  refine aU<|AE Z λx5 a2 h6=>xI Bb R a2<|xB ((Bg x5)) Fr R<|sS R (BI (cs:=JJ) 5 R JD R R)<|Zj R R (A5 (ds:=(Bg x5)) R IA iL R iL R R R R)<|aZ<|aU<|lF Cm AI R R<|xU R<|aZ<|cI R h6 (λh7=>?_) λh7=>?_
  ·exact aR<|mM R<|lF Cm AI R R<|sS R (Bj 18 R Bi (f:=(Ab .i64)) (l:=([x5.Ref]:List Int)) ⟨R,⟨_,iL,R⟩,Za⟩ R (λ_=>R) R)<|AE h7 λa6 B h8=>sS R (Cj R Bi iL R (.inr<|.inl ⟨_,_,iL,R⟩) B)<|mA R<|Zh<|F _ _ wk<|J2 _ (AH [((A 1)+2),((A 1)+3)]) (Zf h8).symm
  exact Zc<|F _ _ wk<|J2 _ (AH [(A 0),((A 1)+1)]) (Zf h7).symm
 exact Zm<|O _ _ wk<|J1 _ (AH [(A 0),(A 1)])<|xH V X
theorem gP{n1 r}(h:Gf n1=some r):Aa prog 55 (Ho n1) (.r<|.sl<|r.map<|Ab .i64):=by
 unfold Gf at h
 refine mF func55 ntmps55 R λn0=>aU<|sS R (A6 (cs:=(Ai n1)) 1 R iL R R)<|mA R<|aZ<|aT λc2=>aR<|lF Dk D0 R R<|AE h λw1 I h1=>?_
 refine Zy [8] (hc:=[]) (bs:=[qe n1.Flow]) (caps:=[]) R R R R iL R ⟨.inl ⟨iL,R⟩,Za⟩ Za (by decide) (gR I) ?_
 intro i1 n2
 refine BZ [0,1,2,6,7,8] [1,8] ?_
 refine mA R<|aZ<|c2 _<|aS λK3 c3 J=>aU<|sQ R (fB R DS iL fR R)<|lF DX Dc R R<|xL Bx R<|mM R<|aZ<|Zg<|BV h1 λo1 B M=>?_
 have J1:∀(j:List Int) (E:NN),o1=j→K3 ⟨[(3,.own 8<|E 0)],[(8,some<|.arr (E 0) 3 1<|j.map<|Ab .i64)],(E 1),27⟩:=by
  intro j E e
  have h2:=M _ e
  exact c3 _<|aU<|mM R<|mA R<|aZ<|Zl<|Cg (P:=prog) (λ(r:(List Int))=>.r<|.sl<|r.map<|Ab .i64) h2 iL<|.t<|.one<|.own R
 refine Cs (λ(F:Int) (l:List Int) q=>⟨[(3,.own 8<|q 0),(11,qc n1.Grid.Cells),(12,rL n1.Grid.Cells),(13,rI F)],[(8,some<|.arr (q 0) 3 1<|l.map<|Ab .i64)],(q 1),27⟩) (AH [(i1 0),n2]) B wk ?_
 intro F l q v1 O T
 have h3:EX n1 F l=some v1:=O;unfold EX at h3
 refine aU<|xS R<|aZ<|aT λc7=>cI R h3 (λU=>?_) λU=>?_
 ·refine Zc<|c7 _<|aS λK8 c8 C=>Zg<|BV U λp1 V X=>?_
  have J2:∀(m:List Int) (A:NN),p1=m→K8 ⟨[(3,.own 8<|A 0),(11,qc n1.Grid.Cells),(12,rL n1.Grid.Cells),(13,rI F)],[(8,some<|.arr (A 0) 3 1<|m.map<|Ab .i64)],(A 1),27⟩:=by
   intro m A e
   have h5:=X _ e
   exact c8 _<|aR<|AE h5 λx4 Z h6=>xA R Z<|mM R<|Zh<|ZJ h6 (AH [(A 0),(A 1)]) wk
  refine aU<|AE V λx5 a0 h7=>xI Bx R a0<|xB ((BP x5)) EM R<|sS R (BI (cs:=HS) 5 R G8 R R)<|Zj R R (A5 (ds:=(BP x5)) R HV iL R iL R R R R)<|aZ<|aU<|lF Ce AI R R<|xU R<|aZ<|cI R h7 (λh8=>?_) λh8=>?_
  ·exact aR<|mM R<|lF Ce AI R R<|sS R (Bj 23 R Bi (f:=(Ab .i64)) (l:=([x5.Ref]:List Int)) ⟨R,⟨_,iL,R⟩,Za⟩ R (λ_=>R) R)<|AE h8 λa1 w h9=>sS R (Cj R Bi iL R (.inr<|.inl ⟨_,_,iL,R⟩) w)<|mA R<|Zh<|C _ _ wk<|J2 _ (AH [((q 1)+2),((q 1)+3)]) (Zf h9).symm
  exact Zc<|C _ _ wk<|J2 _ (AH [(q 0),((q 1)+1)]) (Zf h8).symm
 exact Zm<|J _ _ wk<|J1 _ (AH [(q 0),(q 1)])<|xH T U
theorem YI{n1 i r}(h:Ls n1 i=some r):Aa prog 95 [.agg<|Ai n1,rI i] (rI r):=by
 unfold Ls at h
 refine mF func95 ntmps95 R λq=>aU<|sS R (A6 (cs:=(Ai n1)) 2 R iL R R)<|mA R<|aZ<|aT λm=>Zg<|aU<|lF Da AI R R<|mM R<|xS R<|mA R<|aZ<|cI R h (λj=>?_) λj=>?_
 ·exact zI j R id
 refine aU<|lF Da AI R R<|mM R<|sQ R (Bk R iL iL)<|mA R<|aZ<|cI R j (λl=>?_) λl=>?_
 ·exact zI l R id
 exact Zc<|m _<|zI l R id
theorem pc{l a r}(h:OL l a=some r):Aa prog 94 [qb l,rI a,.fn 95 []] (.tup [rI r.1,rB r.2]):=by
 unfold OL at h
 refine mF func94 ntmps94 R λn0=>aU<|mA R<|mA R<|aZ<|aU<|mM R<|xL Bh R<|mA R<|aZ<|aU<|mM R<|mA R<|mA R<|aZ<|aS λK4 c4 A=>Zg<|BV h λo1 m B=>?_
 have J1:∀(i8:Int) (i9:NN),o1=i8→K4 ⟨[(0,qb l),(1,rI a),(2,.fn 95 []),(8,rL l),(9,rI i8)],[],(i9 0),49⟩:=by
  intro i8 i9 e
  have h1:=B _ e
  exact c4 _<|aU<|mM R<|mM R<|mM R<|xS R<|mM R<|vM R<|vM R<|vM R<|AE h1 λj C h2=>vQ R (A9 R Bh.slice (iR R) (iR R) (λ_=>R)<|Ag C)<|vQ R (CN (cs:=(Ai j)) R C0 (iR R) R R)<|vM R<|AE h2 λr1 E h3=>AS.stepW (.one R R R) R R (DU (r:=rI r1) (caps:=[]) (bs:=[.agg<|Ai j,rI a]) R (iR R) R ⟨⟨_,(iR R),.g (cs:=[.int .i64 j.ID,.int .i64 j.Kind,.sl<|j.Attrs.map AG.row,.sl<|j.Flow.map AN.row,.int .i64 j.Grid.Rows,.int .i64 j.Grid.Cols,.sl<|j.Grid.Cells.map An.row,.sl<|j.Grid.Merges.map Ap.row,.sl<|j.Draw.map Aw.row]) R R⟩,⟨_,(iR R),.d R⟩,Za⟩ (λhg=>YI<|Ag E hg) R)<|vQ R (A4 R (iR R) iL)<|xN R<|mA R<|mA R<|aZ<|Zl<|EH (P:=prog) (λ(r:Int × Bool)=>rI r.1) (λ(r:Int × Bool)=>rB r.2) h3 iL (.t<|.d R)<|.t<|.d R
 refine Cs (λ(F:Int) (I:Int) q=>⟨[(0,qb l),(1,rI a),(2,.fn 95 []),(8,rL l),(9,rI F),(10,rI I)],[],(q 0),49⟩) (AH [n0]) m wk ?_
 intro F I q v1 J M
 have h4:FG l a F I=some v1:=J;unfold FG at h4
 refine aT λc6=>aU<|mM R<|mM R<|xS R<|aZ<|cI R h4 (λO=>?_) λO=>?_
 ·refine Zc<|c6 _<|Zg<|aU<|mM R<|mM R<|AE O λx3 T h6=>xA R T<|sQ R (Ep R underlying3 underlying158 iL)<|sQ R (Ty (b:=1) R iL iL)<|sQ R (Ep R underlying158 underlying3 iL)<|mA R<|aZ<|aT λc9=>aF [0,1,2,8,9,10,11] ?_
  refine aR<|mM R<|mM R<|mM R<|AE h6 λx4 U h7=>xI Bh R U<|xB ((Ai x4)) C0 R<|mM R<|AE h7 λr2 V h8=>cL (YI<|V) R<|xS R<|aZ<|c9 _<|cI R h8 (λX=>?_) λX=>?_
  ·refine aF [0,1,2,8,10,11] ?_
   exact aR<|mM R<|AE X λa0 w Z=>xA R w<|mA R<|Zh<|ZJ Z (AH [(q 0)]) wk
  refine aF [0,1,2,8,9,11] ?_
  exact aR<|mM R<|mA R<|Zh<|ZJ X (AH [(q 0)]) wk
 exact Zm<|A _ _ wk<|J1 _ (AH [(q 0)])<|xH M O
theorem Qe{d1 i r}(h:Fc d1 i=some r):Aa prog 56 [.agg [qb d1.Nodes],rI i] (.tup [rI r.1,rB r.2]):=by
 unfold Fc at h
 exact mF func56 ntmps56 R λw=>aU<|sS R (A6 (cs:=[qb d1.Nodes]) 2 R iL R R)<|mA R<|mA R<|aZ<|aU<|lF B6 CA R R<|mM R<|E4 h λl m j q=>sS R (DU (r:=.tup [rI l,rB m]) (caps:=[]) (bs:=[qb d1.Nodes,rI i,.fn 95 []]) R iL R ⟨⟨_,iL,.d R⟩,⟨_,iL,.d R⟩,⟨_,iL,.one<|.closed (.fn 95 []) R⟩,Za⟩ (λ_=>pc<|j) R)<|xX R<|xX R<|mA R<|mA R<|aZ<|Zl<|EH (P:=prog) (λ(r:Int × Bool)=>rI r.1) (λ(r:Int × Bool)=>rB r.2) q iL (.t<|.d R)<|.t<|.d R
theorem ZL{j v1 r}(h:N1 j v1=some r):Aa prog 151 [.r<|.sl<|j.map<|Ab .i64,rI v1] (rI r):=by
 unfold N1 at h
 refine mF func151 ntmps151 R λX=>aU<|mA R<|aZ<|aS λZ c2 w=>aU<|mM R<|xL Bi R<|mM R<|aZ<|Zg<|BS h λo1 l A B=>?_
 have J1:∀(T:Unit) (U:NN),o1=.nrm T→Z ⟨[],[],(U 0),19⟩:=by
  intro T U e
  have h1:=A _ e
  exact c2 _<|zI h1 R id
 refine Zu (λ(C:Int) q=>⟨[(0,.r<|.sl<|j.map<|Ab .i64),(1,rI v1),(7,rL j),(8,rI C)],[],(q 0),19⟩) (AH [X]) l wk ?_
 intro C q v2 E m
 have V:JX j v1 C=some v2:=E;unfold JX at V
 refine aU<|xS R<|aZ<|aT λc6=>cI R V (λF=>?_) λF=>?_
 ·refine Zc<|c6 _<|aT λc7=>Zg<|aU<|mM R<|mA R<|aZ<|aU<|mM R<|mM R<|mM R<|AE F λx4 I h4=>xI Bi R I<|xV (.int .i64 x4) AI R<|xQ R<|aZ<|cI R h4 (λJ=>?_) λJ=>?_
  ·refine aT λM=>aF [5] ?_
   exact aR<|mM R<|mA R<|aZ<|M _<|Zl<|yI (B _<|xH m J) R
  refine Zc<|c7 _<|aF [0,1,7,8] ?_
  exact aR<|AE J λx5 O h6=>xA R O<|mM R<|Zh<|Zr h6 (AH [(q 0)]) wk
 exact Zm<|w _ _ wk<|J1 _ (AH [(q 0)])<|xH m F
theorem ju{l v1 r}(h:Kf l v1=some r):Aa prog 129 [.r<|.sl<|l.map<|Ab .i64,rI v1] (rB r):=by
 unfold Kf at h
 exact mF func129 ntmps129 R λq=>aU<|mA R<|aZ<|aU<|mM R<|mM R<|AE h λw j m=>cL (ZL<|j) R<|sQ R (DT R iL iL)<|mA R<|aZ<|Zl<|yB m R
theorem lI{p k r}(h:KG p k=some r):Aa prog 92 [rI p,rI k] (rB r):=by
 unfold KG at h
 refine mF func92 ntmps92 R λC=>aU<|mA R<|aZ<|aU<|mA R<|aZ<|aS λK3 c3 j=>aU<|mM R<|aZ<|Zg<|BV h λp1 E J=>?_
 have l:∀(M:List Int) (i1:NN),p1=M→K3 ⟨[(1,rI k),(5,.r<|.sl<|M.map<|Ab .i64)],[],(i1 0),29⟩:=by
  intro M i1 e
  have h1:=J _ e
  exact c3 _<|aU<|mM R<|mM R<|AE h1 λr1 O h2=>cL (ju<|O) R<|mA R<|aZ<|Zl<|yB h2 R
 refine aU<|xQ R<|mA R<|aZ<|aC R (λm=>?_) λm=>?_
 ·have T:=ET m E
  refine aR<|sS R (Bj 9 R Bi (f:=(Ab .i64)) (l:=([1,6,7,10,11,12]:List Int)) ⟨R,⟨_,iL,R⟩,R,⟨_,iL,R⟩,R,⟨_,iL,R⟩,R,⟨_,iL,R⟩,R,⟨_,iL,R⟩,R,⟨_,iL,R⟩,Za⟩ R (λ_=>R) R)<|mA R<|Zh ?_
  exact j _ _ (Zv (by exact Am.frz (e':=[(0,rI p),(1,rI k),(4,rB false),(5,.r<|.sl<|[1,6,7,10,11,12].map<|Ab .i64),(6,rI p),(7,rB<|(decide<|p=0)),(8,rB<|(decide<|p=0)),(9,.r<|.sl<|[1,6,7,10,11,12].map<|Ab .i64)]) (h':=[]) 9 R ⟨jL,jL,jL,.inl<|.inr<|.inr ⟨R,R⟩,jL,jL,jL,.inl<|.inr<|.inr ⟨R,R⟩,Za⟩ Za) wk)<|l _ (AH [(C+1)]) (Zf T).symm
 ·have T:=EJ m E
  refine aU<|xQ R<|mA R<|aZ<|cI R T (λU=>?_) λU=>?_
  ·refine aR<|sS R (Bj 12 R Bi (f:=(Ab .i64)) (l:=([2,4,5,10]:List Int)) ⟨R,⟨_,iL,R⟩,R,⟨_,iL,R⟩,R,⟨_,iL,R⟩,R,⟨_,iL,R⟩,Za⟩ R (λ_=>R) R)<|mA R<|Zh ?_
   exact j _ _ (Zv (by exact Am.frz (e':=[(0,rI p),(1,rI k),(4,rB false),(5,.r<|.sl<|[2,4,5,10].map<|Ab .i64),(6,rI p),(7,rB<|(decide<|p=0)),(8,rB<|(decide<|p=0)),(10,rB<|(decide<|p=1)),(11,rB<|(decide<|p=1)),(12,.r<|.sl<|[2,4,5,10].map<|Ab .i64)]) (h':=[]) 12 R ⟨jL,jL,jL,.inl<|.inr<|.inr ⟨R,R⟩,jL,jL,jL,jL,jL,.inl<|.inr<|.inr ⟨R,R⟩,Za⟩ Za) wk)<|l _ (AH [(C+1)]) (Zf U).symm
  refine aU<|xQ R<|mA R<|aZ<|cI R U (λV=>?_) λV=>?_
  ·refine aF [1] ?_
   refine aR<|sS R (Bj 15 R Bi (f:=(Ab .i64)) (l:=([4,5,10]:List Int)) ⟨R,⟨_,iL,R⟩,R,⟨_,iL,R⟩,R,⟨_,iL,R⟩,Za⟩ R (λ_=>R) R)<|mA R<|Zh ?_
   exact j _ _ (Zv (by exact Am.frz (e':=[(1,rI k),(5,.r<|.sl<|[4,5,10].map<|Ab .i64),(15,.r<|.sl<|[4,5,10].map<|Ab .i64)]) (h':=[]) 15 R ⟨jL,.inl<|.inr<|.inr ⟨R,R⟩,.inl<|.inr<|.inr ⟨R,R⟩,Za⟩ Za) wk)<|l _ (AH [(C+1)]) (Zf V).symm
  refine aS λK9 c9 F=>aU<|xQ R<|mA R<|aZ<|BV V λp2 I X=>?_
  have J2:∀(A:Bool) (B:NN),p2=A→K9 ⟨[(1,rI k),(5,cZ),(6,rI p),(16,rB A)],[],(B 0),29⟩:=by
   intro A B e
   have h6:=X _ e
   refine c9 _<|cI R h6 (λZ=>?_) λZ=>?_
   ·refine aR<|sS R (Bj 19 R Bi (f:=(Ab .i64)) (l:=([5]:List Int)) ⟨R,⟨_,iL,R⟩,Za⟩ R (λ_=>R) R)<|mA R<|Zh ?_
    exact j _ _ (Zv (by exact Am.frz (e':=[(1,rI k),(5,.r<|.sl<|[5].map<|Ab .i64),(6,rI p),(16,rB A),(19,.r<|.sl<|[5].map<|Ab .i64)]) (h':=[]) 19 R ⟨jL,.inl<|.inr<|.inr ⟨R,R⟩,jL,jL,.inl<|.inr<|.inr ⟨R,R⟩,Za⟩ Za) wk)<|l _ (AH [((B 0)+1)]) (Zf Z).symm
   refine aU<|xQ R<|mA R<|aZ<|cI R Z (λh8=>?_) λh8=>?_
   ·refine aR<|sS R (Bj 22 R Bi (f:=(Ab .i64)) (l:=([3]:List Int)) ⟨R,⟨_,iL,R⟩,Za⟩ R (λ_=>R) R)<|mA R<|Zh ?_
    exact j _ _ (Zv (by exact Am.frz (e':=[(1,rI k),(5,.r<|.sl<|[3].map<|Ab .i64),(6,rI p),(16,rB A),(20,rB<|(decide<|p=2)),(21,rB<|(decide<|p=2)),(22,.r<|.sl<|[3].map<|Ab .i64)]) (h':=[]) 22 R ⟨jL,.inl<|.inr<|.inr ⟨R,R⟩,jL,jL,jL,jL,.inl<|.inr<|.inr ⟨R,R⟩,Za⟩ Za) wk)<|l _ (AH [((B 0)+1)]) (Zf h8).symm
   refine aU<|xQ R<|mA R<|aZ<|cI R h8 (λh9=>?_) λh9=>?_
   ·refine aR<|sS R (Bj 25 R Bi (f:=(Ab .i64)) (l:=([8,9]:List Int)) ⟨R,⟨_,iL,R⟩,R,⟨_,iL,R⟩,Za⟩ R (λ_=>R) R)<|mA R<|Zh ?_
    exact j _ _ (Zv (by exact Am.frz (e':=[(1,rI k),(5,.r<|.sl<|[8,9].map<|Ab .i64),(6,rI p),(16,rB A),(20,rB<|(decide<|p=2)),(21,rB<|(decide<|p=2)),(23,rB<|(decide<|p=7)),(24,rB<|(decide<|p=7)),(25,.r<|.sl<|[8,9].map<|Ab .i64)]) (h':=[]) 25 R ⟨jL,.inl<|.inr<|.inr ⟨R,R⟩,jL,jL,jL,jL,jL,jL,.inl<|.inr<|.inr ⟨R,R⟩,Za⟩ Za) wk)<|l _ (AH [((B 0)+1)]) (Zf h9).symm
   refine Zc ?_
   exact j _ _ ((by exact Am.cv ⟨jL,.inl<|.inr<|.inr ⟨R,R⟩,Za⟩ Za nL))<|l _ (AH [(B 0)]) (Zf h9).symm
  refine aC R (λq=>?_) λq=>?_
  ·have w:=ET q I
   exact Zc<|F _ _ wk<|J2 _ (AH [C]) (Zf w).symm
  ·have w:=EJ q I
   refine aF [1,5,6] ?_
   exact aR<|xQ R<|mA R<|Zh<|F _ _ wk<|J2 _ (AH [C]) (Zf w).symm
theorem fY{d1 k a r}(h:EV d1 k a=some r):Aa prog 54 [.agg [qb d1.Nodes],rI k,.r<|.sl<|a.map<|Ab .i64] (rI r):=by
 unfold EV at h
 refine mF func54 ntmps54 R λw=>aU<|sS R (A6 (cs:=[qb d1.Nodes]) 3 R iL R R)<|mA R<|aZ<|aS λK2 c2 A=>aU<|mM R<|xL Bi R<|mM R<|aZ<|Zg<|BS h λo1 l B m=>?_
 have J1:∀(u2:Unit) (i5:NN),o1=.nrm u2→K2 ⟨[],[],(i5 0),35⟩:=by
  intro u2 i5 e
  have h1:=B _ e
  exact c2 _<|zI h1 R id
 refine Zu (λ(C:Int) q=>⟨[(1,rI k),(3,.ptr 3 w 0 0),(11,.r<|.sl<|a.map<|Ab .i64),(12,rL a),(13,rI C)],[(3,some<|.box w 24 [qb d1.Nodes])],(q 0),35⟩) (AH [(w+1)]) l wk ?_
 intro C q v1 E j
 have h2:CU d1 k a C=some v1:=E;unfold CU at h2
 refine aU<|xS R<|aZ<|aT λc6=>cI R h2 (λF=>?_) λF=>?_
 ·refine Zc<|c6 _<|aT λc7=>Zg<|aU<|AE F λx4 I h4=>xI Bi R I<|xV (.int .i64 x4) AI R<|mA R<|aZ<|aU<|xC Bz R<|mM R<|E4 h4 λr1 r2 J h5=>cL (Qe<|J) R<|mM R<|xX R<|xX R<|mA R<|mA R<|aZ<|aT λM=>aT λO=>aG [1,3,9,10,11,12,13] [3] ?_
  refine aR<|mM R<|sQ R (BE R iL)<|aZ<|O _<|cI R h5 (λT=>?_) λT=>?_
  ·exact zI (m _<|xH j T) R id
  refine Zc<|M _<|aU<|mM R<|lF B6 CA R R<|mM R<|AE T λx5 U h7=>xI Bh R U<|sQ R (BL R CP iL)<|xV (.int .i64 x5.Kind) AI R<|AE h7 λr3 V h8=>cL (lI<|V) R<|sQ R (BE R iL)<|aZ<|cI R h8 (λX=>?_) λX=>?_
  ·exact zI (m _<|xH j X) R id
  refine Zc<|c7 _<|aG [1,3,11,12,13] [3] ?_
  exact aR<|AE X λx6 Z a0=>xA R Z<|mM R<|Zh<|Zr a0 (AH [(q 0)]) wk
 exact Zm<|A _ _ wk<|J1 _ (AH [(q 0)])<|xH j F
theorem TZ{d1 r}(h:Em d1=some r):Aa prog 24 [.agg [qb d1.Nodes]] (rI r):=by
 unfold Em at h
 refine mF func24 ntmps24 R λl=>aU<|sS R (A6 (cs:=[qb d1.Nodes]) 1 R iL R R)<|mA R<|aZ<|aT λc2=>aU<|lF B6 CA R R<|xL Bh R<|xQ R<|aZ<|cI R h (λX=>?_) λX=>?_
 ·exact zI X R id
 refine Zc<|c2 _<|aS λK5 c5 Z=>aU<|lF B6 CA R R<|xL Bh R<|mM R<|aZ<|Zg<|BS X λo1 B a0 C=>?_
 have J1:∀(u2:Unit) (i5:NN),o1=.nrm u2→K5 ⟨[(1,.ptr 1 l 0 0)],[(1,some<|.box l 24 [qb d1.Nodes])],(i5 0),67⟩:=by
  intro u2 i5 e
  have h2:=a0 _ e
  refine c5 _<|aS λK7 c7 a1=>aU<|lF B6 CA R R<|xL Bh R<|mM R<|aZ<|Zg<|BS h2 λo2 E a2 a6=>?_
  have J2:∀(u4:Unit) (F:NN),o2=.nrm u4→K7 ⟨[],[],(F 0),67⟩:=by
   intro u4 F e
   have h3:=a2 _ e
   exact c7 _<|zI h3 R id
  refine Zu (λ(x5:Int) i8=>⟨[(1,.ptr 1 l 0 0),(51,qb d1.Nodes),(52,rL d1.Nodes),(53,rI x5)],[(1,some<|.box l 24 [qb d1.Nodes])],(i8 0),67⟩) (AH [(i5 0)]) E wk ?_
  intro x5 i8 v1 a7 I
  have h4:Ch d1 x5=some v1:=a7;unfold Ch at h4
  refine aU<|xS R<|aZ<|aT λa8=>cI R h4 (λh5=>?_) λh5=>?_
  ·refine Zc<|a8 _<|aT λaa=>Zg<|aU<|AE h5 λj ab h6=>xI Bh R ab<|xB ((Ai j)) C0 R<|sS R (BI (cs:=EC) 7 R Gq R R)<|Zj R R (A5 (ds:=(Ai j)) R GY iL R iL R R R R)<|aZ<|aT λac=>AE h6 λr1 ad h7=>?_
   refine rP 5 [pO 57<|.agg [qb d1.Nodes],pO 58<|.ptr 7 (i8 0) 0 1,pO 59<|rI j.Kind,pO 60<|.agg<|Ai j,pO 61<|.r<|.sl<|r1.map<|Ab .i64] BM R (by exact⟨oB [(1,.ptr 1 l 0 0)] [(1,some<|.box l 24 [qb d1.Nodes])]<|Dm R Bz (.inl R) R R,oB [(7,.ptr 7 (i8 0) 0 0)] [(7,some<|.box (i8 0) 54<|Ai j)]<|fB R CP (.inl R) (λ_=>R) R,oB [(58,.ptr 7 (i8 0) 0 1)] [(7,some<|.box (i8 0) 54<|Ai j)]<|AY (a:=rI j.Kind) R AI (.inl R) R R,oB [(7,.ptr 7 (i8 0) 0 0)] [(7,some<|.box (i8 0) 54<|Ai j)]<|Dm R C0 (.inl R) R R,oD (λ_=>[(60,.agg<|Ai j)]) (λ_=>[]) λG1 e h' n=>Cb (r:=.r<|.sl<|r1.map<|Ab .i64) (caps:=[]) (bs:=(Ho j)) R (.inl R) R ⟨.inl ⟨(.inl R),R⟩,Za⟩ λ_=>gP<|ad,Za⟩) λG1 n1=>?_
   refine BZ [1,7,51,52,53,54,55,56,57,58,59,60,61] [1,7] ?_
   refine AE h7 λe1 ae h8=>cL (fY<|ae) R<|mA R<|aZ<|ac _<|aT λaf=>aG [1,8,51,52,53] [1] ?_
   refine aR<|mM R<|xU R<|aZ<|af _<|cI R h8 (λh9=>?_) λh9=>?_
   ·exact aU<|mM R<|mA R<|aZ<|Zl<|yI (a6 _<|xH I h9) R
   exact Zc<|aa _<|aR<|AE h9 λx8 ag ah=>xA R ag<|mM R<|Zh<|Zr ah (AH [n1]) wk
  exact Zm<|a1 _ _ wk<|J2 _ (AH [(i8 0)])<|xH I h5
 refine Zu (λ(x2:Int) U=>⟨[(1,.ptr 1 l 0 0),(14,qb d1.Nodes),(15,rL d1.Nodes),(16,rI x2)],[(1,some<|.box l 24 [qb d1.Nodes])],(U 0),67⟩) (AH [(l+1)]) B wk ?_
 intro x2 U v2 ai m
 have J:CL d1 x2=some v2:=ai;unfold CL at J
 refine aU<|xS R<|aZ<|aT λaj=>cI R J (λq=>?_) λq=>?_
 ·refine Zc<|aj _<|aT λak=>Zg<|aU<|mM R<|AE q λV al an=>xI Bh R al<|xB ((Ai V)) C0 R<|sS R (BI (cs:=EC) 4 R Gq R R)<|mA R<|Zj R R (A5 (ds:=(Ai V)) R GY iL R iL R R R R)<|aZ<|aT λao=>aU<|xC C0 R<|AE an λe2 aq ar=>cL (lT<|aq) R<|mA R<|aZ<|aU<|mM R<|xU R<|aZ<|cI R ar (λw=>?_) λw=>?_
  ·refine aT λau=>aF [5] ?_
   exact aR<|mM R<|mA R<|aZ<|au _<|Zl<|yI (C _<|xH m w) R
  refine Zc<|ao _<|aT λav=>aG [1,3,4,14,15,16] [1,4] ?_
  refine Zx BM (by kernel_rfl) ?_
  refine qP R (AM R iL)<|qP R (A4 R iL iL)<|qP R (AM R iL)<|qO R (fB R Da iL fR R)<|qO R (AY (a:=rI V.ID) R AI (iR R) R R)<|qO R (DJ R (iR R) iL)<|qP R (Bd R iL<|iR R)<|qP R (AM R iL)<|qO R (AM R iL)<|qO R (Bk R (iR R) iL)<|qO R (AM R<|iR R)<|qT R (fB R Da iL fR R)<|qT R (AY (a:=rI V.ID) R AI (iR R) R R)<|qT R (fB R B6 iL fR R)<|qT R (AY (a:=qb d1.Nodes) R CA (iR R) R R)<|qT R (AM R iL)<|AE w λb0 M aw=>qT R (CX R (iR R) iL<|Ag M)<|AE aw λax O ay=>qT R (A9 R Bh.slice (iR R) (iR R) (λ_=>R)<|Ag O)<|qT R (BL R Da<|iR R)<|qT R (Bs (d:=.int .i64 ax.ID) R AI (iR R) R)<|qT R (FT R (iR R)<|iR R)<|qO R (Bd R (iR R)<|iR R)<|qP R (Cp R iL<|iR R)<|AQ.nil<|av _<|cI R ay (λA=>?_) λA=>?_
  ·exact zI (C _<|xH m A) R id
  exact Zc<|ak _<|aR<|AE A λb4 T az=>xA R T<|mM R<|Zh<|Zr az (AH [((U 0)+1)]) wk
 exact Zm<|Z _ _ wk<|J1 _ (AH [(U 0)])<|xH m q
theorem QB{d1 i r}(h:HE d1 i=some r):Aa prog 25 [.agg [qb d1.Nodes],rI i] (rI r):=by
 unfold HE at h
 refine mF func25 ntmps25 R λA=>aU<|sS R (A6 (cs:=[qb d1.Nodes]) 2 R iL R R)<|mA R<|aZ<|aT λm=>aU<|xC Bz R<|mM R<|E4 h λB C j q=>cL (Qe<|j) R<|mM R<|xX R<|xX R<|mA R<|mA R<|aZ<|aT λw=>aF [5,6] ?_
 refine aR<|mM R<|aZ<|w _<|cI R q (λl=>?_) λl=>?_
 ·exact aU<|mM R<|mA R<|aZ<|Zl<|yI l R
 exact Zc<|m _<|zI l R id
theorem dZ{B r}(h:PG B=some r):Aa prog 152 [qe B] (qe r):=by
 unfold PG at h
 refine mF func152 ntmps152 R λn0=>aU<|mA R<|aZ<|aU<|mM R<|xL Bb R<|AE h λa1 C h1=>sS R (XH 8 R Bb (f:=AN.row) (z0:=(AN.mk 0 0 [])) jX iL iL C)<|mA R<|aZ<|aS λK3 c3 M=>aU<|mM R<|xL Bb R<|mM R<|aZ<|Zg<|BV h1 λo1 E O=>?_
 have J1:∀(w:List AN) (J:NN),o1=w→K3 ⟨[(3,.own 8<|J 0)],[(8,some<|.arr (J 0) 37 3<|w.map AN.row)],(J 1),29⟩:=by
  intro w J e
  have h2:=O _ e
  exact c3 _<|aU<|mM R<|mA R<|aZ<|Zl<|Cg (P:=prog) (λ(r:(List AN))=>qe r) h2 iL<|.t<|.one<|.own R
 refine Cs (λ(A:Int) (m:List AN) j=>⟨[(3,.own 8<|j 0),(9,qe B),(10,rL B),(11,rI A)],[(8,some<|.arr (j 0) 37 3<|m.map AN.row)],(j 1),29⟩) (AH [n0,(n0+1)]) E wk ?_
 intro A m j v1 T U
 have h3:JC B A m=some v1:=T;unfold JC at h3
 refine aU<|xS R<|aZ<|aT λc7=>cI R h3 (λV=>?_) λV=>?_
 ·refine Zc<|c7 _<|aT λc8=>Zg<|aU<|mM R<|AE V λl X h5=>xI Bb R X<|xB ((Bg l)) Fr R<|sS R (BI (cs:=JJ) 5 R JD R R)<|mA R<|Zj R R (A5 (ds:=(Bg l)) R IA iL R iL R R R R)<|aZ<|AE h5 λF Z h6=>?_
  refine GJ 10 [pO 16<|.own 8<|j 0,pO 17<|rI A,pO 18<|.ptr 5 (j 1) 0 0,pO 19<|rI l.Char,pO 20<|.ptr 5 (j 1) 0 1,pO 21<|rI l.Ref,pO 22<|.ptr 5 (j 1) 0 2,pO 23<|qa l.Attrs,⟨some 24,(λq=>.own 24<|q 8),some (24,(λq=>some<|.arr (q 8) 71 2<|F.map AG.row)),[8]⟩,⟨some 25,(λq=>.agg [rI l.Char,rI l.Ref,.own 24<|q 8]),none,[8]⟩] BM (by kernel_rfl) (by exact⟨λ_ _ h=>⟨R,λ_ _ e=>by cases e⟩,λ_ _ h=>⟨R,λ_ _ e=>by cases e⟩,λ_ _ h=>⟨R,λ_ _ e=>by cases e⟩,λ_ _ h=>⟨R,λ_ _ e=>by cases e⟩,λ_ _ h=>⟨R,λ_ _ e=>by cases e⟩,λ_ _ h=>⟨R,λ_ _ e=>by cases e⟩,λ_ _ h=>⟨R,λ_ _ e=>by cases e⟩,λ_ _ h=>⟨R,λ_ _ e=>by cases e⟩,λ_ _ h=>⟨by simp only[h 8 R],λ_ _ e=>by cases e;simp only[h 8 R]⟩,λ_ _ h=>⟨by simp only[h 8 R],λ_ _ e=>by cases e⟩,Za⟩) R (by exact⟨oB [(3,.own 8<|j 0)] [(8,some<|.arr (j 0) 37 3<|m.map AN.row)]<|AM R<|.inl R,oB [(4,rI A)] []<|AM R<|.inl R,oB [(5,.ptr 5 (j 1) 0 0)] [(5,some<|.box (j 1) 37<|Bg l)]<|fB R Fh (.inl R) (λ_=>R) R,oB [(18,.ptr 5 (j 1) 0 0)] [(5,some<|.box (j 1) 37<|Bg l)]<|AY (a:=rI l.Char) R AI (.inl R) R R,oB [(5,.ptr 5 (j 1) 0 0)] [(5,some<|.box (j 1) 37<|Bg l)]<|fB R Cm (.inl R) (λ_=>R) R,oB [(20,.ptr 5 (j 1) 0 1)] [(5,some<|.box (j 1) 37<|Bg l)]<|AY (a:=rI l.Ref) R AI (.inl R) R R,oB [(5,.ptr 5 (j 1) 0 0)] [(5,some<|.box (j 1) 37<|Bg l)]<|fB R H9 (.inl R) (λ_=>R) R,oB [(22,.ptr 5 (j 1) 0 2)] [(5,some<|.box (j 1) 37<|Bg l)]<|AY (a:=qa l.Attrs) R CR (.inl R) R R,oM (λ_=>[(23,qa l.Attrs)]) (λ_=>[]) R λq e h' n=>Lz 24 (f:=AG.row) R BH (.inl R) (.inl ⟨(.inl R),λ_=>R⟩) Z,oC (λq=>[(19,rI l.Char),(21,rI l.Ref),(24,.own 24<|q 8)]) (λq=>[(24,some<|.arr (q 8) 71 2<|F.map AG.row)]) λq e h'=>Bu R Kb (q:=[(0,_),(1,_),(2,_)]) (by exact⟨R,R,R,(.inl R),R,R,R,(.inl R),R,R,R,(.inl R),Za⟩) (cs:=[rI l.Char,rI l.Ref,.own 24<|q 8])<|by rfl,Za⟩) λq n1=>?_
  refine BZ [3,4,5,9,10,11,12,13,14,15,16,17,18,19,20,21,22,23,24,25] [5,8,24] ?_
  refine AE h6 λx5 I h7=>sQ R (Gv R Bb.slice iL R iL λ_=>I) ?_
  refine AS.weak (by exact Am.frz (e':=[(3,.own 8<|j 0),(4,rI A),(5,.ptr 5 (j 1) 0 0),(9,qe B),(10,rL B),(11,rI A),(12,rB<|(decide<|A<(B.length:Int))),(13,rI A),(14,.rop (AN.row l) 0),(15,.agg<|Bg l),(16,.own 8<|j 0),(17,rI A),(18,.ptr 5 (j 1) 0 0),(19,rI l.Char),(20,.ptr 5 (j 1) 0 1),(21,rI l.Ref),(22,.ptr 5 (j 1) 0 2),(23,qa l.Attrs),(24,qa F),(25,.agg [rI l.Char,rI l.Ref,qa F]),(26,.ptr 8 (j 0) A.toNat 0)]) (h':=[(5,some<|.box (j 1) 37<|Bg l),(8,some<|.arr (j 0) 37 3<|m.map AN.row)]) 24 R ⟨jL,jL,jL,jL,jL,jL,jL,jL,jL,jL,jL,jL,jL,jL,jL,jL,jL,jL,.inl<|.inr<|.inr ⟨R,R⟩,.inr ⟨_,_,R,R,⟨.inl R,.inl R,.inr<|.inr ⟨R,R⟩,Za⟩⟩,jL,Za⟩ ⟨R,.inl R,R,.inl R,Za⟩) ?_
  refine Zj R R (UM (v:=(AN.mk l.Char l.Ref F)) R IA iL R I iL R R R R)<|aZ<|c8 _<|aG [3,9,10,11] [8] ?_
  exact aR<|AE h7 λx6 a0 h8=>xA R a0<|mM R<|Zh<|ZJ h8 (AH [(j 0),n1]) wk
 exact Zm<|M _ _ wk<|J1 _ (AH [(j 0),(j 1)])<|xH U V
theorem ln{n1 r}(h:N8 n1=some r):Aa prog 130 (Ho n1) (.agg<|Ai r):=by
 unfold N8 at h
 refine mF func130 ntmps130 R λj=>aU<|sS R (A6 (cs:=(Ai n1)) 1 R iL R R)<|sS R (BI (cs:=EC) 2 R Gq R R)<|aZ<|aU<|lF Ji CR R R<|AE h λI J h1=>sS R (Lz 8 (f:=AG.row) R BH iL (.inl ⟨iL,λ_=>R⟩) J)<|sQ R (fB R Ji iL fR R)<|Zj R R (A5 (ds:=[rI n1.ID,rI n1.Kind,.own 8<|j+2,qe n1.Flow,rI n1.Grid.Rows,rI n1.Grid.Cols,qc n1.Grid.Cells,qd n1.Grid.Merges,qf n1.Draw]) R KJ iL R iL R R R R)<|aZ<|aU<|lF Dk D0 R R<|AE h1 λB M h2=>sS R (Cb (r:=qe B) (caps:=[]) (bs:=[qe n1.Flow]) R iL R ⟨.inl ⟨iL,R⟩,Za⟩ λ_=>dZ<|M)<|sQ R (fB R Dk iL fR R)<|Zj R R (A5 (ds:=[rI n1.ID,rI n1.Kind,.own 8<|j+2,qe B,rI n1.Grid.Rows,rI n1.Grid.Cols,qc n1.Grid.Cells,qd n1.Grid.Merges,qf n1.Draw]) R pm iL R iL R R R R)<|aZ<|aT λc4=>aG [1,2] [1,2,8] ?_
 refine aR<|lF Ga HM R R<|AE h2 λO T h3=>sS R (Lz 16 (f:=Aw.row) R EB iL (.inl ⟨iL,λ_=>R⟩) T)<|sQ R (fB R Ga iL fR R)<|Zj R R (A5 (ds:=[rI n1.ID,rI n1.Kind,.own 8<|j+2,qe B,rI n1.Grid.Rows,rI n1.Grid.Cols,qc n1.Grid.Cells,qd n1.Grid.Merges,.own 16<|j+3]) R ey iL R iL R R R R)<|aZ<|c4 _<|aU<|sQ R (fB R DS iL fR R)<|sQ R (GH (ds:=(B7 n1.Grid)) R GM iL R R R)<|sS R (BI (cs:=QX) 3 R nr R R)<|Zj R R (A5 (ds:=(B7 n1.Grid)) R Xz iL R iL R R R R)<|aZ<|aU<|lF EP Ei R R<|AE h3 λl3 U h4=>sS R (Lz 22 (f:=Ap.row) R Cz iL (.inl ⟨iL,λ_=>R⟩) U)<|sQ R (fB R EP iL fR R)<|Zj R R (A5 (ds:=[rI n1.Grid.Rows,rI n1.Grid.Cols,qc n1.Grid.Cells,.own 22<|j+5]) R pV iL R iL R R R R)<|aZ<|aT λc7=>aG [1,2,3] [1,2,3,8,16,22] ?_
 refine aR<|lF DX Dc R R<|AE h4 λF V h5=>sS R (Lz 26 (f:=An.row) R Bx iL (.inl ⟨iL,λ_=>R⟩) V)<|sQ R (fB R DX iL fR R)<|Zj R R (A5 (ds:=[rI n1.Grid.Rows,rI n1.Grid.Cols,.own 26<|j+6,.own 22<|j+5]) R ZT iL R iL R R R R)<|aZ<|c7 _<|aS λK8 c8 X=>aU<|lF DX Dc R R<|sQ R (MY R Bx.slice iL R)<|mM R<|aZ<|Zg<|BV h5 λo1 C Z=>?_
 have J1:∀(g4:Av) (w:NN),o1=g4→K8 ⟨[(1,.ptr 1 j 0 0),(2,.ptr 2 (j+1) 0 0),(3,.ptr 3 (j+4) 0 0)],[(1,some<|.box j 54 [rI n1.ID,rI n1.Kind,.own 8<|j+2,qe B,rI n1.Grid.Rows,rI n1.Grid.Cols,qc n1.Grid.Cells,qd n1.Grid.Merges,.own 16<|j+3]),(2,some<|.box (j+1) 54 EC),(3,some<|.box (j+4) 51 [rI g4.Rows,rI g4.Cols,.own 26<|w 0,.own 22<|w 1]),(8,some<|.arr (j+2) 71 2<|I.map AG.row),(16,some<|.arr (j+3) 146 8<|O.map Aw.row),(22,some<|.arr (w 1) 109 4<|g4.Merges.map Ap.row),(26,some<|.arr (w 0) 107 5<|g4.Cells.map An.row)],(w 2),48⟩:=by
  intro g4 w e
  have h6:=Z _ e
  refine c8 _<|aU<|xC GM R<|sQ R (fB R DS iL fR R)<|Zj R R (A5 (ds:=[rI n1.ID,rI n1.Kind,.own 8<|j+2,qe B,rI g4.Rows,rI g4.Cols,.own 26<|w 0,.own 22<|w 1,.own 16<|j+3]) R Xz iL R iL R R R R)<|aZ<|aU<|xC C0 R<|Zj R R (A5 (ds:=[rI n1.ID,rI n1.Kind,.own 8<|j+2,qe B,rI g4.Rows,rI g4.Cols,.own 26<|w 0,.own 22<|w 1,.own 16<|j+3]) R GY iL R iL R R R R)<|aZ ?_
  exact Zl<|Cg (P:=prog) (λ(r:AO)=>.agg<|Ai r) h6 iL<|.a C0 R R R<|.agg<|by exact⟨.closed _ R,.closed _ R,.own R,.closed _ R,.closed _ R,.closed _ R,.own R,.own R,.own R,Za⟩
 refine Cs (λ(q:Int) (g2:Av) l=>⟨[(1,.ptr 1 j 0 0),(2,.ptr 2 (j+1) 0 0),(3,.ptr 3 (j+4) 0 0),(29,.own 26<|l 0),(30,rL F),(31,rI q)],[(1,some<|.box j 54 [rI n1.ID,rI n1.Kind,.own 8<|j+2,qe B,rI n1.Grid.Rows,rI n1.Grid.Cols,qc n1.Grid.Cells,qd n1.Grid.Merges,.own 16<|j+3]),(2,some<|.box (j+1) 54 EC),(3,some<|.box (j+4) 51 [rI g2.Rows,rI g2.Cols,.own 26<|l 0,.own 22<|l 1]),(8,some<|.arr (j+2) 71 2<|I.map AG.row),(16,some<|.arr (j+3) 146 8<|O.map Aw.row),(22,some<|.arr (l 1) 109 4<|g2.Merges.map Ap.row),(26,some<|.arr (l 0) 107 5<|g2.Cells.map An.row)],(l 2),48⟩) (AH [(j+6),(j+5),(j+7)]) C wk ?_
 intro q g2 l v1 a0 a1
 have h7:KV F q g2=some v1:=a0;unfold KV at h7
 refine aU<|xS R<|aZ<|aT λa2=>cI R h7 (λh8=>?_) λh8=>?_
 ·refine Zc<|a2 _<|aT λa6=>Zg<|aU<|mM R<|AE h8 λm A h9=>sQ R (Gv R Bx.slice iL R iL λ_=>A)<|sQ R (YQ (cs:=(BP m)) R EM iL fR (λ_=>A) R)<|sS R (BI (cs:=HS) 5 R G8 R R)<|mA R<|Zj R R (A5 (ds:=(BP m)) R HV iL R iL R R R R)<|aZ<|AE h9 λl5 a7 a8=>?_
  refine GJ 6 [pO 36<|.ptr 3 (j+4) 0 2,pO 37<|.own 26<|l 0,pO 38<|rI q,pO 39<|.ptr 5 (l 2) 0 4,pO 40<|qa m.Attrs,⟨some 41,(λE=>.own 41<|E 5),some (41,(λE=>some<|.arr (E 5) 71 2<|l5.map AG.row)),[5]⟩] BM (by kernel_rfl) (by exact⟨λ_ _ h=>⟨R,λ_ _ e=>by cases e⟩,λ_ _ h=>⟨R,λ_ _ e=>by cases e⟩,λ_ _ h=>⟨R,λ_ _ e=>by cases e⟩,λ_ _ h=>⟨R,λ_ _ e=>by cases e⟩,λ_ _ h=>⟨R,λ_ _ e=>by cases e⟩,λ_ _ h=>⟨by simp only[h 5 R],λ_ _ e=>by cases e;simp only[h 5 R]⟩,Za⟩) R (by exact⟨oB [(3,.ptr 3 (j+4) 0 0)] [(3,some<|.box (j+4) 51 [rI g2.Rows,rI g2.Cols,.own 26<|l 0,.own 22<|l 1])]<|fB R DX (.inl R) (λ_=>R) R,oB [(36,.ptr 3 (j+4) 0 2)] [(3,some<|.box (j+4) 51 [rI g2.Rows,rI g2.Cols,.own 26<|l 0,.own 22<|l 1])]<|AY (a:=.own 26<|l 0) R Dc (.inl R) R R,oB [(4,rI q)] []<|AM R<|.inl R,oB [(5,.ptr 5 (l 2) 0 0)] [(5,some<|.box (l 2) 107<|BP m)]<|fB R GX (.inl R) (λ_=>R) R,oB [(39,.ptr 5 (l 2) 0 4)] [(5,some<|.box (l 2) 107<|BP m)]<|AY (a:=qa m.Attrs) R CR (.inl R) R R,oM (λ_=>[(40,qa m.Attrs)]) (λ_=>[]) R λE e h' n=>Lz 41 (f:=AG.row) R BH (.inl R) (.inl ⟨(.inl R),λ_=>R⟩) a7,Za⟩) λE n2=>?_
  refine BZ [1,2,3,4,5,29,30,31,32,33,34,35,36,37,38,39,40,41] [1,2,3,5,8,16,22,26,41] ?_
  refine sQ R (Gv R Bx.slice iL R iL λ_=>A)<|sQ R (IJ (ob:=.arr _ _ _ _) R GX iL fR R) ?_
  refine AS.weak (by exact Am.frz (e':=[(1,.ptr 1 j 0 0),(2,.ptr 2 (j+1) 0 0),(3,.ptr 3 (j+4) 0 0),(4,rI q),(5,.ptr 5 (l 2) 0 0),(29,.own 26<|l 0),(30,rL F),(31,rI q),(32,rB<|(decide<|q<(F.length:Int))),(33,rI q),(34,.ptr 26 (l 0) q.toNat 0),(35,.agg<|BP m),(36,.ptr 3 (j+4) 0 2),(37,.own 26<|l 0),(38,rI q),(39,.ptr 5 (l 2) 0 4),(40,qa m.Attrs),(41,qa l5),(42,.ptr 26 (l 0) q.toNat 0),(43,.ptr 26 (l 0) q.toNat 4)]) (h':=[(1,some<|.box j 54 [rI n1.ID,rI n1.Kind,.own 8<|j+2,qe B,rI n1.Grid.Rows,rI n1.Grid.Cols,qc n1.Grid.Cells,qd n1.Grid.Merges,.own 16<|j+3]),(2,some<|.box (j+1) 54 EC),(3,some<|.box (j+4) 51 [rI g2.Rows,rI g2.Cols,.own 26<|l 0,.own 22<|l 1]),(5,some<|.box (l 2) 107<|BP m),(8,some<|.arr (j+2) 71 2<|I.map AG.row),(16,some<|.arr (j+3) 146 8<|O.map Aw.row),(22,some<|.arr (l 1) 109 4<|g2.Merges.map Ap.row),(26,some<|.arr (l 0) 107 5<|g2.Cells.map An.row)]) 41 R ⟨jL,jL,jL,jL,jL,jL,jL,jL,jL,jL,jL,jL,jL,jL,jL,jL,jL,.inl<|.inr<|.inr ⟨R,R⟩,jL,jL,Za⟩ ⟨R,.inl R,R,.inl R,R,.inl R,R,.inl R,R,.inl R,R,.inl R,R,.inl R,R,.inl R,Za⟩) ?_
  refine Zj R R (TK (v:=(An.mk m.Row m.Col m.Text m.Ref l5)) R KJ iL R A iL R R R R)<|aZ<|a6 _<|aG [1,2,3,29,30,31] [1,2,3,8,16,22,26] ?_
  exact aR<|AE a8 λx5 aa ab=>xA R aa<|mM R<|Zh<|ZJ ab (AH [(l 0),(l 1),n2]) wk
 exact Zm<|X _ _ wk<|J1 _ (AH [(l 0),(l 1),(l 2)])<|xH a1 h8
theorem pZ{d1 r}(h:PY d1=some r):Aa prog 96 [.agg [qb d1.Nodes]] (.agg [qb r.Nodes]):=by
 unfold PY at h
 refine mF func96 ntmps96 R λj=>aU<|sS R (A6 (cs:=[qb d1.Nodes]) 1 R iL R R)<|sS R (BI (cs:=[cZ]) 2 R MK R R)<|aZ<|aT λc2=>aR<|lF B6 CA R R<|xL Bh R<|AE h λl1 F h1=>sS R (XH 9 R Bh (f:=AO.row) (z0:=(AO.mk 0 0 [] [] (Av.mk 0 0 [] []) [])) eG iL iL F) ?_
 refine sQ R (Bu R Qo (q:=[(0,_)]) (by exact⟨R,R,R,iL,Za⟩) (cs:=[.own 9<|j+2])<|by rfl) ?_
 refine sS R (BI (cs:=[cZ]) 3 R MK R R)<|Zj R R (A5 (ds:=[.own 9<|j+2]) R Kr iL R iL R R R R)<|aZ<|c2 _<|aS λK3 c3 I=>aU<|lF B6 CA R R<|xL Bh R<|mM R<|aZ<|Zg<|BV h1 λo1 A J=>?_
 have J1:∀(m:AR) (B:NN),o1=m→K3 ⟨[(2,.ptr 2 (j+1) 0 0),(3,.ptr 3 (j+3) 0 0)],[(2,some<|.box (j+1) 24 [cZ]),(3,some<|.box (j+3) 24 [.own 9<|B 0]),(9,some<|.arr (B 0) 54 9<|m.Nodes.map AO.row)],(B 1),27⟩:=by
  intro m B e
  have h2:=J _ e
  refine c3 _<|aU<|xC Bz R<|Zj R R (A5 (ds:=[.own 9<|B 0]) R Kr iL R iL R R R R)<|aZ ?_
  exact Zl<|Cg (P:=prog) (λ(r:AR)=>.agg [qb r.Nodes]) h2 iL<|.a Bz R R R<|.agg<|by exact⟨.own R,Za⟩
 refine Cs (λ(C:Int) (q:AR) l=>⟨[(2,.ptr 2 (j+1) 0 0),(3,.ptr 3 (j+3) 0 0),(12,qb d1.Nodes),(13,rL d1.Nodes),(14,rI C)],[(2,some<|.box (j+1) 24 [cZ]),(3,some<|.box (j+3) 24 [.own 9<|l 0]),(9,some<|.arr (l 0) 54 9<|q.Nodes.map AO.row)],(l 1),27⟩) (AH [(j+2),(j+4)]) A wk ?_
 intro C q l v1 M O
 have h3:Ii d1 C q=some v1:=M;unfold Ii at h3
 refine aU<|xS R<|aZ<|aT λc7=>cI R h3 (λT=>?_) λT=>?_
 ·refine Zc<|c7 _<|aT λc8=>Zg<|aU<|mM R<|AE T λw U h5=>xI Bh R U<|xB ((Ai w)) C0 R<|sS R (BI (cs:=EC) 5 R Gq R R)<|mA R<|Zj R R (A5 (ds:=(Ai w)) R GY iL R iL R R R R)<|aZ<|AE h5 λV X h6=>?_
  refine rP 5 [pO 19<|.ptr 3 (j+3) 0 0,pO 20<|.own 9<|l 0,pO 21<|rI C,pO 22<|.agg<|Ai w,pO 23<|.agg<|Ai V] BM R (by exact⟨oB [(3,.ptr 3 (j+3) 0 0)] [(3,some<|.box (j+3) 24 [.own 9<|l 0])]<|fB R B6 (.inl R) (λ_=>R) R,oB [(19,.ptr 3 (j+3) 0 0)] [(3,some<|.box (j+3) 24 [.own 9<|l 0])]<|AY (a:=.own 9<|l 0) R CA (.inl R) R R,oB [(4,rI C)] []<|AM R<|.inl R,oB [(5,.ptr 5 (l 1) 0 0)] [(5,some<|.box (l 1) 54<|Ai w)]<|Dm R C0 (.inl R) R R,oD (λ_=>[(22,.agg<|Ai w)]) (λ_=>[]) λG1 e h' n=>Cb (r:=.agg<|Ai V) (caps:=[]) (bs:=(Ho w)) R (.inl R) R ⟨.inl ⟨(.inl R),R⟩,Za⟩ λ_=>ln<|X,Za⟩) λG1 n1=>?_
  refine BZ [2,3,4,5,12,13,14,15,16,17,18,19,20,21,22,23] [2,3,5,9] ?_
  refine AE h6 λx5 E h7=>sQ R (Gv R Bh.slice iL R iL λ_=>E)<|Zj R R (UM (v:=V) R GY iL R E iL R R R R)<|aZ<|c8 _<|aG [2,3,12,13,14] [2,3,9] ?_
  exact aR<|AE h7 λx6 Z h8=>xA R Z<|mM R<|Zh<|ZJ h8 (AH [(l 0),n1]) wk
 exact Zm<|I _ _ wk<|J1 _ (AH [(l 0),(l 1)])<|xH O T
theorem eT{d1 r}(h:QQ d1=some r):BC prog 57 1 [.agg [qb d1.Nodes]] [] (λm h'=>∃(i:Nat→Nat),m=.fn 97 [.ptr 1000 (i 0) 0 0]∧h'=[(1000,some<|.box (i 0) 24 [qb r.Nodes])]):=by
 unfold QQ at h
 refine D7 func57 R R ntmps57 (Zs R) λj=>aU<|sS R (A6 (cs:=[qb d1.Nodes]) 1000 R iL R R)<|mA R<|aZ<|aU<|xC Bz R<|AE h λl q w=>sS R (Cb (r:=.agg [qb l.Nodes]) (caps:=[]) (bs:=[.agg [qb d1.Nodes]]) R iL R ⟨.inl ⟨iL,R⟩,Za⟩ λ_=>pZ<|q)<|Zj R R (A5 (ds:=[qb l.Nodes]) R Kr iL R iL R R R R)<|aZ<|aT λA=>aR ?_
 refine sQ R (KX (bs:=[.ptr 1000 j 0 0]) R<|by exact⟨iL,Za⟩) ?_
 refine mA R<|oZ A ?_
 exact Zl<|B8.mk (s':=⟨[(2,.fn 97 [.ptr 1000 j 0 0])],[(1000,some<|.box j 24 [qb l.Nodes])],(j+1),6⟩) wk<|CM (λ(r:AR) m h'=>∃(i:Nat→Nat),m=.fn 97 [.ptr 1000 (i 0) 0 0]∧h'=[(1000,some<|.box (i 0) 24 [qb r.Nodes])]) w<|by exact⟨.fn 97 [.ptr 1000 j 0 0],[(1000,some<|.box j 24 [qb l.Nodes])],R,⟨.inr R,Za⟩,R,R,AH [j],R,R⟩
theorem ea{B:List (List RV)→Option Bool}{m:List (List RV)}{v1:Aq}{r:Bool × (List<|List RV)}{l:Nat}{j:Nat}{q:E8}(h:HO B m v1=some r)(C:q.P=prog∧q.A=B):BC prog 99 2 [.agg<|FX v1,.ptr 1000 l 0 0] [(1000,some<|.box l 121 [.yld 1001 j]),(1001,some<|.cal j q m)] (λw h'=>∃(i:Nat→Nat),w=rB r.1∧h'=[(1000,some<|.box l 121 [.yld 1001 j]),(1001,some<|.cal j q r.2)]):=by
 unfold HO at h
 refine D7 func99 R R ntmps99 (Zs R) λE=>aU<|sS R (A6 (cs:=(FX v1)) 2 R iL R R)<|mA R<|aZ<|aT λF=>qM<|D4.step R R R (DD (AY (a:=.yld 1001 j) R gb (.inl R) R R) _)<|D4.step R R R (DD (fB R KS (.inl R) fR R) _)<|D4.step R R R (DD (AY (a:=rI v1.id) R AI (.inl R) R R) _)<|D4.step R R R (DD (fB R fx (.inl R) fR R) _)<|D4.step R R R (DD (AY (a:=rI v1.parent) R AI (.inl R) R R) _)<|AE h λc1 A I=>?_
 refine D4.stepC (W:=q) (y:=[.int .i64 v1.id,.int .i64 v1.parent]) C.1 R R R R (.inl R) ⟨(.inl R),(.inl R),Za⟩ R R (by rw[C.2];exact A) ?_
 refine D4.step R R R (DD (EL R<|.inl R) _)<|D4.nil<|F _ ?_
 exact Zl<|B8.mk (s':=⟨[(3,rB c1)],[(1000,some<|.box l 121 [.yld 1001 j]),(1001,some<|.cal j q<|m++[[.int .i64 v1.id,.int .i64 v1.parent]])],(E+1),10⟩) wk<|CM (λ(r:Bool × (List<|List RV)) w h'=>∃(i:Nat→Nat),w=rB r.1∧h'=[(1000,some<|.box l 121 [.yld 1001 j]),(1001,some<|.cal j q r.2)]) I<|by exact⟨rB c1,[(1000,some<|.box l 121 [.yld 1001 j]),(1001,some<|.cal j q<|m++[[.int .i64 v1.id,.int .i64 v1.parent]])],R,⟨.inr R,.inr R,Za⟩,R,R,AH [],R,R⟩
theorem VY{m b c r}(h:F9 m b c=some r):Aa prog 132 [.agg<|B7 m,rI b,rI c] (.agg<|A8 r):=by
 unfold F9 at h
 refine mF func132 ntmps132 R λj=>aU<|sS R (A6 (cs:=(B7 m)) 3 R iL R R)<|sS R (BI (cs:=FP) 6 R Gw R R)<|aZ<|aT λc2=>aR<|mM R<|mM R ?_
 refine sQ R (Bu R Wv (q:=[(0,_),(1,_),(2,_),(3,_)]) (by exact⟨R,R,R,iL,R,R,R,iL,R,R,R,iL,R,R,R,iL,Za⟩) (cs:=[rI b,rI c,rI 1,rI 1])<|by rfl) ?_
 refine sS R (BI (cs:=FP) 7 R Gw R R)<|Zj R R (A5 (ds:=[rI b,rI c,rI 1,rI 1]) R F0 iL R iL R R R R)<|aZ<|c2 _<|aS λK3 c3 B=>aU<|lF EP Ei R R<|xL Cz R<|mM R<|aZ<|Zg<|BS h λo1 q C E=>?_
 have J1:∀(u2:Unit) (i5:NN),o1=.nrm u2→K3 ⟨[(6,.ptr 6 (j+1) 0 0),(7,.ptr 7 (j+2) 0 0)],[(6,some<|.box (j+1) 109 FP),(7,some<|.box (j+2) 109 [rI b,rI c,rI 1,rI 1])],(i5 0),51⟩:=by
  intro u2 i5 e
  have h1:=C _ e
  exact c3 _<|aU<|xC DW R<|Zj R R (A5 (ds:=[rI b,rI c,rI 1,rI 1]) R F0 iL R iL R R R R)<|aZ<|Zl<|Cg (P:=prog) (λ(r:Ap)=>.agg<|A8 r) h1 iL<|.a DW R R R<|.g (cs:=[.int .i64 b,.int .i64 c,.int .i64 1,.int .i64 1]) R R
 refine Zu (λ(F:Int) A=>⟨[(1,rI b),(2,rI c),(6,.ptr 6 (j+1) 0 0),(7,.ptr 7 (j+2) 0 0),(14,qd m.Merges),(15,rL m.Merges),(16,rI F)],[(6,some<|.box (j+1) 109 FP),(7,some<|.box (j+2) 109 [rI b,rI c,rI 1,rI 1])],(A 0),51⟩) (AH [(j+3)]) q wk ?_
 intro F A v1 I w
 have h2:JA m b c F=some v1:=I;unfold JA at h2
 refine aU<|xS R<|aZ<|aT λc7=>cI R h2 (λJ=>?_) λJ=>?_
 ·refine Zc<|c7 _<|aT λc8=>Zg<|aU<|AE J λl M h4=>xI Cz R M<|xB ((A8 l)) DW R<|sS R (BI (cs:=FP) 9 R Gw R R)<|Zj R R (A5 (ds:=(A8 l)) R F0 iL R iL R R R R)<|aZ<|aT λO=>aR<|mM R<|lF Cu AI R R<|sQ R (DT R iL iL)<|mM R<|vM R<|vF Cu AI R R<|AE h4 λx5 T h5=>vQ R (CX R (iR R) (iR R)<|Ag T)<|vF G0 AI R R<|vQ R (CO R (iR R)<|iR R)<|xN R<|mM R<|vM R<|vF DQ AI R R<|vQ R (DT R (iR R)<|iR R)<|xN R<|mM R<|vM R<|vF DQ AI R R<|AE h5 λx6 U h6=>vQ R (CX R (iR R) (iR R)<|Ag U)<|vF Gr AI R R<|vQ R (CO R (iR R)<|iR R)<|xN R<|aZ<|O _<|cI R h6 (λV=>?_) λV=>?_
  ·refine aT λX=>aG [6,9] [6,9] ?_
   exact aR<|xC DW R<|Zj R R (A5 (ds:=(A8 l)) R F0 iL R iL R R R R)<|aZ<|X _<|Zl<|Cg (P:=prog) (λ(r:Ap)=>.agg<|A8 r) (E _<|xH w V) iL<|.a DW R R R<|.g (cs:=[.int .i64 l.Row,.int .i64 l.Col,.int .i64 l.H,.int .i64 l.W]) R R
  refine Zc<|c8 _<|aG [1,2,6,7,14,15,16] [6,7] ?_
  exact aR<|AE V λx7 Z h8=>xA R Z<|mM R<|Zh<|Zr h8 (AH [((A 0)+1)]) wk
 exact Zm<|B _ _ wk<|J1 _ (AH [(A 0)])<|xH w J
theorem Sx{c1:List AG}{w:AG}{A:AG}{r:(List AG)}{j:Nat}{l:Nat}(h:KK c1 w A=some r):BC prog 109 2 [.agg<|CS w,.agg<|CS A,.ptr 1000 j 0 0] [(1000,some<|.box j 35 [.own 1001 l]),(1001,some<|.arr l 71 2<|c1.map AG.row)] (λq h'=>∃(i:Nat→Nat),q=.tup []∧h'=[(1000,some<|.box j 35 [.own 1001<|i 0]),(1001,some<|.arr (i 0) 71 2<|r.map AG.row)]):=by
 unfold KK at h
 refine D7 func109 R R ntmps109 (Zs R) λm=>aU<|sS R (A6 (cs:=(CS w)) 3 R iL R R)<|sS R (A6 (cs:=(CS A)) 4 R iL R R)<|aZ<|Zg<|aU<|lF Ek BK R R<|sQ R (EZ R iL iL)<|mA R<|aZ<|cI R h (λB=>?_) λB=>?_
 ·refine aR<|sQ R (AY (a:=.own 1001 l) R CR iL R R)<|xC En R<|sS R (Bj 11 R BH (f:=AG.row) (l:=([w]:List AG)) ⟨R,⟨_,iL,R⟩,Za⟩ R (λ_=>R) R)<|AE B λI C M=>sS R (Cj R BH iL R (.inr<|.inl ⟨_,_,iL,R⟩) C)<|Zj R R (A5 (ds:=[.own 1001<|m+3]) R KJ iL R iL R R R R)<|Zh ?_
  exact B8.mk (s':=⟨[],[(1000,some<|.box j 35 [.own 1001<|m+3]),(1001,some<|.arr (m+3) 71 2<|I.map AG.row)],(m+4),21⟩) wk<|CM (λ(r:(List AG)) q h'=>∃(i:Nat→Nat),q=.tup []∧h'=[(1000,some<|.box j 35 [.own 1001<|i 0]),(1001,some<|.arr (i 0) 71 2<|r.map AG.row)]) M<|by exact⟨.tup [],[(1000,some<|.box j 35 [.own 1001<|m+3]),(1001,some<|.arr (m+3) 71 2<|I.map AG.row)],⟨_,R,Za⟩,⟨.inr R,.inr R,Za⟩,R,R,AH [(m+3)],R,R⟩
 refine aU<|lF JQ BK R R<|sQ R (D1 R iL iL)<|mA R<|aZ<|cI R B (λE=>?_) λE=>?_
 ·refine aG [2,4] [4,1000,1001] ?_
  refine aR<|sQ R (AY (a:=.own 1001 l) R CR iL R R)<|xC En R<|sS R (Bj 19 R BH (f:=AG.row) (l:=([A]:List AG)) ⟨R,⟨_,iL,R⟩,Za⟩ R (λ_=>R) R)<|AE E λJ F O=>sS R (Cj R BH iL R (.inr<|.inl ⟨_,_,iL,R⟩) F)<|Zj R R (A5 (ds:=[.own 1001<|m+3]) R KJ iL R iL R R R R)<|Zh ?_
  exact B8.mk (s':=⟨[],[(1000,some<|.box j 35 [.own 1001<|m+3]),(1001,some<|.arr (m+3) 71 2<|J.map AG.row)],(m+4),21⟩) wk<|CM (λ(r:(List AG)) q h'=>∃(i:Nat→Nat),q=.tup []∧h'=[(1000,some<|.box j 35 [.own 1001<|i 0]),(1001,some<|.arr (i 0) 71 2<|r.map AG.row)]) O<|by exact⟨.tup [],[(1000,some<|.box j 35 [.own 1001<|m+3]),(1001,some<|.arr (m+3) 71 2<|J.map AG.row)],⟨_,R,Za⟩,⟨.inr R,.inr R,Za⟩,R,R,AH [(m+3)],R,R⟩
 refine Zc ?_
 exact B8.mk (s':=⟨[],[(1000,some<|.box j 35 [.own 1001 l]),(1001,some<|.arr l 71 2<|c1.map AG.row)],(m+2),21⟩) wk<|CM (λ(r:(List AG)) q h'=>∃(i:Nat→Nat),q=.tup []∧h'=[(1000,some<|.box j 35 [.own 1001<|i 0]),(1001,some<|.arr (i 0) 71 2<|r.map AG.row)]) E<|by exact⟨.tup [],[(1000,some<|.box j 35 [.own 1001 l]),(1001,some<|.arr l 71 2<|c1.map AG.row)],⟨_,R,Za⟩,⟨.inr R,.inr R,Za⟩,R,R,AH [l],R,R⟩
theorem pv{c1:List AG}{B:List AG}{b1:List AG}{r:(List AG)}{j:Nat}{l:Nat}(h:Pb c1 B b1=some r):BC prog 108 2 [qa B,qa b1,.fn 109 [.ptr 1000 j 0 0]] [(1000,some<|.box j 35 [.own 1001 l]),(1001,some<|.arr l 71 2<|c1.map AG.row)] (λC h'=>∃(i:Nat→Nat),C=.tup []∧h'=[(1000,some<|.box j 35 [.own 1001<|i 0]),(1001,some<|.arr (i 0) 71 2<|r.map AG.row)]):=by
 unfold Pb at h
 refine D7 func108 R R ntmps108 (Zs R) λn0=>aU<|mA R<|mA R<|aZ<|Zg<|BS h λo4 w au E=>Jn (λ(F:Int) (I:Int) (o2:List AG) m=>⟨[(0,qa B),(1,qa b1),(2,.fn 109 [.ptr 1000 j 0 0]),(6,rI F),(7,rI I)],[(1000,some<|.box j 35 [.own 1001<|m 0]),(1001,some<|.arr (m 0) 71 2<|o2.map AG.row)],(m 1),92⟩) (AH [l,n0]) w wk ?_
 intro F I o2 m v1 J M
 have h1:Ot B b1 F I o2=some v1:=J;unfold Ot at h1
 refine aT λC2=>aU<|mM R<|mM R<|xL BH R<|xS R<|mM R<|vM R<|vM R<|vQ R (DK R BH.slice<|iR R)<|vQ R (CO R (iR R)<|iR R)<|xO R<|aZ<|cI R h1 (λO=>?_) λO=>?_
 ·refine Zc<|C2 _<|Zg<|Zg<|aT λC4=>?_
  refine Zx BM (by kernel_rfl) ?_
  refine qP R (AM R iL)<|qP R (AM R iL)<|qP R (DK R BH.slice iL)<|qP R (A4 R iL iL)<|qP R (AM R iL)<|qO R (AM R iL)<|qO R (AM R iL)<|qO R (DK R BH.slice<|iR R)<|qO R (CO R (iR R)<|iR R)<|qO R (AM R<|iR R)<|qT R (AM R iL)<|qT R (AM R iL)<|AE O λx1 T h3=>qT R (A9 R BH.slice (iR R) (iR R) (λ_=>R)<|Ag T)<|qT R (BL R Ek<|iR R)<|qT R (Bs (d:=.str x1.Name) R BK (iR R) R)<|qT R (AM R iL)<|qT R (AM R iL)<|AE h3 λx2 U h4=>qT R (A9 R BH.slice (iR R) (iR R) (λ_=>R)<|Ag U)<|qT R (BL R Ek<|iR R)<|qT R (Bs (d:=.str x2.Name) R BK (iR R) R)<|qT R (OX R (iR R)<|iR R)<|qO R (Bd R (iR R)<|iR R)<|qP R (Cp R iL<|iR R)<|qP R (EL R iL)<|AQ.nil<|C4 _<|cI R h4 (λV=>?_) λV=>?_
  ·refine aT λC5=>aG [0,1,2,6,7] [1000,1001] ?_
   refine aR<|mM R<|mM R<|mM R<|AE V λx3 X h6=>xI BH R X<|xB ((CS x3)) En R ?_
   refine sQ R (Bu R QY (q:=[]) (by exact Za) (cs:=[.r<|.str [],.r<|.str []])<|by rfl) ?_
   refine AE h6 λw1 Z h7=>?_
   refine Zy [1000,1001] (hc:=[(1000,some<|.box j 35 [.own 1001<|m 0]),(1001,some<|.arr (m 0) 71 2<|o2.map AG.row)]) (bs:=[.agg<|CS x3,.agg [.r<|.str [],.r<|.str []]]) (caps:=[.ptr 1000 j 0 0]) R R R R iL R ⟨.inl ⟨iL,R⟩,.inl ⟨iL,R⟩,Za⟩ ⟨R,R,R,R,R,R,Za⟩ (by decide) (Sx Z) ?_
   intro i8 n1
   refine BZ [0,1,2,6,7,56,57,58,59,60,61,62] [1000,1001] ?_
   exact aZ<|C5 _<|aR<|mM R<|AE h7 λi9 a0 h8=>xA R a0<|mA R<|Zh<|Fl.mk h8 (AH [(i8 0),n1]) wk
  refine aT λC6=>aG [0,1,2,6,7] [1000,1001] ?_
  refine Zx BM (by kernel_rfl) ?_
  refine qP R (AM R iL)<|qP R (AM R iL)<|qP R (DK R BH.slice iL)<|qP R (A4 R iL iL)<|qP R (AM R iL)<|qO R (AM R iL)<|qO R (AM R iL)<|AE V λx4 a2 h9=>qO R (A9 R BH.slice (iR R) (iR R) (λ_=>R)<|Ag a2)<|qO R (BL R Ek<|iR R)<|qO R (Bs (d:=.str x4.Name) R BK (iR R) R)<|qO R (AM R iL)<|qO R (AM R iL)<|AE h9 λx5 a6 a7=>qO R (A9 R BH.slice (iR R) (iR R) (λ_=>R)<|Ag a6)<|qO R (BL R Ek<|iR R)<|qO R (Bs (d:=.str x5.Name) R BK (iR R) R)<|qO R (OX R (iR R)<|iR R)<|qP R (Cp R iL<|iR R)<|qP R (EL R iL)<|AQ.nil<|C6 _<|cI R a7 (λq=>?_) λq=>?_
  ·refine aT λC7=>aR<|mM R ?_
   refine sQ R (Bu R QY (q:=[]) (by exact Za) (cs:=[.r<|.str [],.r<|.str []])<|by rfl) ?_
   refine mM R<|mM R<|AE q λx6 a8 aa=>xI BH R a8<|xB ((CS x6)) En R<|AE aa λw2 ab ac=>?_
   refine Zy [1000,1001] (hc:=[(1000,some<|.box j 35 [.own 1001<|m 0]),(1001,some<|.arr (m 0) 71 2<|o2.map AG.row)]) (bs:=[.agg [.r<|.str [],.r<|.str []],.agg<|CS x6]) (caps:=[.ptr 1000 j 0 0]) R R R R iL R ⟨.inl ⟨iL,R⟩,.inl ⟨iL,R⟩,Za⟩ ⟨R,R,R,R,R,R,Za⟩ (by decide) (Sx ab) ?_
   intro ad n2
   refine BZ [0,1,2,6,7,65,66,67,68,69,70,82,83,84,85,86,87,88,89] [1000,1001] ?_
   refine aZ<|C7 _<|aG [0,1,2,6,7] [1000,1001] ?_
   exact aR<|mM R<|AE ac λj4 ae af=>xA R ae<|mA R<|Zh<|Fl.mk af (AH [(ad 0),n2]) wk
  refine aT λC8=>?_
  refine Mr 9 BM (by kernel_rfl) R R ?_
  refine ZB R R R (AM R iL)<|ZB R R R (AM R iL)<|ZB R R R (AM R iL)<|AE q λx7 ag ah=>ZB R R R (A9 R BH.slice iL iL (λ_=>R) λ_=>ag)<|ZB R R R (CN (cs:=(CS x7)) R En iL R R)<|ZB R R R (AM R iL)<|ZB R R R (AM R iL)<|AE ah λx8 ai aj=>ZB R R R (A9 R BH.slice iL iL (λ_=>R) λ_=>ai)<|ZB R R R (CN (cs:=(CS x8)) R En iL R R)<|AT.nil<|AE aj λw3 ak al=>?_
  refine Zy [1000,1001] (hc:=[(1000,some<|.box j 35 [.own 1001<|m 0]),(1001,some<|.arr (m 0) 71 2<|o2.map AG.row)]) (bs:=[.agg<|CS x7,.agg<|CS x8]) (caps:=[.ptr 1000 j 0 0]) R R R R iL R ⟨.inl ⟨iL,R⟩,.inl ⟨iL,R⟩,Za⟩ ⟨R,R,R,R,R,R,Za⟩ (by decide) (Sx ak) ?_
  intro an n3
  refine BZ [0,1,2,6,7,18,19,20,21,22,23,24,25,26,27,65,66,67,68,69,70,82] [1000,1001] ?_
  refine aZ<|C8 _<|aG [0,1,2,6,7] [1000,1001] ?_
  exact aR<|mM R<|AE al λav A ao=>xA R A<|mM R<|AE ao λj5 aq ar=>xA R aq<|mA R<|mA R<|Zh<|Fl.mk ar (AH [(an 0),n3]) wk
 refine Zm ?_
 exact B8.mk (s':=⟨[],[(1000,some<|.box j 35 [.own 1001<|m 0]),(1001,some<|.arr (m 0) 71 2<|o2.map AG.row)],(m 1),92⟩) wk<|CM (λ(r:(List AG)) C h'=>∃(i:Nat→Nat),C=.tup []∧h'=[(1000,some<|.box j 35 [.own 1001<|i 0]),(1001,some<|.arr (i 0) 71 2<|r.map AG.row)]) (E _<|xH M O)<|by exact⟨.tup [],[(1000,some<|.box j 35 [.own 1001<|m 0]),(1001,some<|.arr (m 0) 71 2<|o2.map AG.row)],⟨_,R,Za⟩,⟨.inr R,.inr R,Za⟩,R,R,AH [(m 0)],R,R⟩
theorem ot{l c r}(h:MM l c=some r):Aa prog 70 [qa l,qa c] (qa r):=by
 unfold MM at h
 refine mF func70 ntmps70 R λj=>aU<|mA R<|aZ<|aU<|sS R (BI (cs:=[cZ]) 5 R UD R R)<|aZ<|aT λq=>aR<|mM R<|mM R ?_
 refine sQ R (KX (bs:=[.ptr 5 j 0 0]) R<|by exact⟨iL,Za⟩) ?_
 refine AS.weak (Zv (Ue 5 0 3050 71 2 (by decide) R R<|by decide)<|by exact Am.cv (e':=[(0,qa l),(1,qa c),(4,cZ),(5,.ptr 5 j 0 0),(6,qa l),(7,qa c),(8,.fn 109 [.ptr 5 j 0 0])]) (h':=[(5,some<|.box j 35 [.own 3050<|j+1]),(3050,some<|.arr (j+1) 71 2<|([]:List AG).map AG.row)]) ⟨jL,jL,jL,jL,jL,jL,jL,Za⟩ ⟨.inl R,.inl R,Za⟩ nL) ?_
 refine AE h λB m w=>?_
 refine Zy [5,3050] (hc:=[(1000,some<|.box j 35 [.own 1001<|j+1]),(1001,some<|.arr (j+1) 71 2<|([]:List AG).map AG.row)]) (bs:=[qa l,qa c,.fn 109 [.ptr 1000 j 0 0]]) (caps:=[]) R R R R iL R ⟨.inl ⟨iL,R⟩,.inl ⟨iL,R⟩,.inl ⟨iL,R⟩,Za⟩ ⟨R,R,R,R,R,R,Za⟩ (by decide) (pv m) ?_
 intro A C
 refine BZ [0,1,4,5,6,7,8,9] [5,3050] ?_
 exact aZ<|q _<|aU<|sQ R (AY (a:=.own 3050<|A 0) R CR iL R R)<|mA R<|aZ<|Zl<|Cg (P:=prog) (λ(r:(List AG))=>qa r) w iL<|.t<|.one<|.own R
theorem bZ{A:List (Int × AC)}{m2:List (Int × (List AG))}{E:Int}{C:Int}{r:Bool}{q:Nat}{j:Nat}{w:Nat}{m:Nat}(h:M8 A m2 E C=some r):BC prog 176 3 [.ptr 1000 q 0 0,rI E,rI C] [(1000,some<|.box q 197 [.mref 1001 j,.mref 1002 m]),(1001,some<|.mb j w 167<|AK AC.row A),(1002,some<|.md m<|AK (λ(l:List AG)=>RV.sl<|l.map AG.row) m2)] (λF h'=>∃(i:Nat→Nat),F=rB r∧h'=[(1000,some<|.box q 197 [.mref 1001 j,.mref 1002 m]),(1001,some<|.mb j w 167<|AK AC.row A),(1002,some<|.md m<|AK (λ(l:List AG)=>RV.sl<|l.map AG.row) m2)]):=by
 unfold M8 at h
 refine D7 func176 R R ntmps176 (Zs R) λn0=>aU<|mA R<|aZ<|aS λK2 c2 U=>Zg<|BS h λo1 O V T=>?_
 have J1:∀(u2:Unit) (X:NN),o1=.nrm u2→K2 ⟨[],[(1000,some<|.box q 197 [.mref 1001 j,.mref 1002 m]),(1001,some<|.mb j w 167<|AK AC.row A),(1002,some<|.md m<|AK (λ(l:List AG)=>RV.sl<|l.map AG.row) m2)],(X 0),29⟩:=by
  intro u2 X e
  have h1:=V _ e
  refine c2 _<|aU<|mA R<|aZ ?_
  exact Zl<|B8.mk (s':=⟨[(6,rB false)],[(1000,some<|.box q 197 [.mref 1001 j,.mref 1002 m]),(1001,some<|.mb j w 167<|AK AC.row A),(1002,some<|.md m<|AK (λ(l:List AG)=>RV.sl<|l.map AG.row) m2)],(X 0),29⟩) wk<|CM (λ(r:Bool) F h'=>∃(i:Nat→Nat),F=rB r∧h'=[(1000,some<|.box q 197 [.mref 1001 j,.mref 1002 m]),(1001,some<|.mb j w 167<|AK AC.row A),(1002,some<|.md m<|AK (λ(l:List AG)=>RV.sl<|l.map AG.row) m2)]) h1<|by exact⟨rB false,[(1000,some<|.box q 197 [.mref 1001 j,.mref 1002 m]),(1001,some<|.mb j w 167<|AK AC.row A),(1002,some<|.md m<|AK (λ(l:List AG)=>RV.sl<|l.map AG.row) m2)],R,⟨.inr R,.inr R,.inr R,Za⟩,R,R,AH [],R,R⟩
 refine Zu (λ(B:Int) M=>⟨[(0,.ptr 1000 q 0 0),(1,rI B),(2,rI C)],[(1000,some<|.box q 197 [.mref 1001 j,.mref 1002 m]),(1001,some<|.mb j w 167<|AK AC.row A),(1002,some<|.md m<|AK (λ(l:List AG)=>RV.sl<|l.map AG.row) m2)],(M 0),29⟩) (AH [n0]) O wk ?_
 intro B M v1 Z I
 have h2:G9 A C B=some v1:=Z;unfold G9 at h2
 refine aT λc4=>aU<|mM R<|sQ R (Bk R iL iL)<|aZ<|cI R h2 (λh3=>?_) λh3=>?_
 ·refine Zc<|c4 _<|Zg<|aT λc6=>aU<|mM R<|mM R<|xQ R<|aZ<|cI R h3 (λh4=>?_) λh4=>?_
  ·refine aU<|mA R<|aZ ?_
   exact Zl<|B8.mk (s':=⟨[(6,rB true)],[(1000,some<|.box q 197 [.mref 1001 j,.mref 1002 m]),(1001,some<|.mb j w 167<|AK AC.row A),(1002,some<|.md m<|AK (λ(l:List AG)=>RV.sl<|l.map AG.row) m2)],(M 0),29⟩) wk<|CM (λ(r:Bool) F h'=>∃(i:Nat→Nat),F=rB r∧h'=[(1000,some<|.box q 197 [.mref 1001 j,.mref 1002 m]),(1001,some<|.mb j w 167<|AK AC.row A),(1002,some<|.md m<|AK (λ(l:List AG)=>RV.sl<|l.map AG.row) m2)]) (T _<|xH I h4)<|by exact⟨rB true,[(1000,some<|.box q 197 [.mref 1001 j,.mref 1002 m]),(1001,some<|.mb j w 167<|AK AC.row A),(1002,some<|.md m<|AK (λ(l:List AG)=>RV.sl<|l.map AG.row) m2)],R,⟨.inr R,.inr R,.inr R,Za⟩,R,R,AH [],R,R⟩
  refine Zc<|c6 _<|aU<|mM R<|sQ R (EQ (ob:=.box _ _ _) R iL fR R)<|lF Tn Sq R R<|mM R<|sQ R (dP true R underlying194 underlying3 (GC pG) (.inl R) (.inl R) R)<|mM R<|xX R<|xX R<|mA R<|mA R<|aZ<|aT λa0=>aT λa1=>aG [0,2,7,8] [1000,1001,1002] ?_
  refine aR<|mM R<|sQ R (BE R iL)<|aZ<|a1 _<|cI R h4 (λh5=>?_) λh5=>?_
  ·refine aU<|mA R<|aZ ?_
   exact Zl<|B8.mk (s':=⟨[(6,rB false)],[(1000,some<|.box q 197 [.mref 1001 j,.mref 1002 m]),(1001,some<|.mb j w 167<|AK AC.row A),(1002,some<|.md m<|AK (λ(l:List AG)=>RV.sl<|l.map AG.row) m2)],(M 0),29⟩) wk<|CM (λ(r:Bool) F h'=>∃(i:Nat→Nat),F=rB r∧h'=[(1000,some<|.box q 197 [.mref 1001 j,.mref 1002 m]),(1001,some<|.mb j w 167<|AK AC.row A),(1002,some<|.md m<|AK (λ(l:List AG)=>RV.sl<|l.map AG.row) m2)]) (T _<|xH I h5)<|by exact⟨rB false,[(1000,some<|.box q 197 [.mref 1001 j,.mref 1002 m]),(1001,some<|.mb j w 167<|AK AC.row A),(1002,some<|.md m<|AK (λ(l:List AG)=>RV.sl<|l.map AG.row) m2)],R,⟨.inr R,.inr R,.inr R,Za⟩,R,R,AH [],R,R⟩
  exact Zc<|a0 _<|aR<|mM R<|AE h5 λx1 J h6=>sQ R (Md R (.inl rfl) R R λ_=>J)<|sQ R (Q5 R Lj (.inl rfl) R R λ_=>J)<|sQ R (TT (a:=x1) (d:=.int .i64 x1.Parent) R AI (.inl rfl) R R (λ_=>J) R)<|mA R<|Zh<|Zr h6 (AH [(M 0)]) wk
 exact Zm<|U _ _ wk<|J1 _ (AH [(M 0)])<|xH I h3
theorem oh{w r}(h:Lm w=some r):BC prog 164 3 [qf w] [] (λZ h'=>∃(i:Nat→Nat),Z=.ptr 1000 (i 0) 0 0∧h'=[(1000,some<|.box (i 0) 197 [.mref 1001<|i 1,.mref 1002<|i 3]),(1001,some<|.mb (i 1) (i 2) 167<|AK AC.row r.1),(1002,some<|.md (i 3)<|AK (λ(l:List AG)=>RV.sl<|l.map AG.row) r.2)]):=by
 unfold Lm at h
 refine D7 func164 R R ntmps164 (Zs R) λj=>aU<|mA R<|aZ<|aT λc2=>aR<|sS R (dI AC.row 1001 167 R)<|sS R (Ld (λ(l:List AG)=>RV.sl<|l.map AG.row) 1002 R) ?_
 refine sQ R (Bu R g8 (q:=[(0,_),(1,_)]) (by exact⟨R,R,R,iL,R,R,R,iL,Za⟩) (cs:=[.mref 1001 j,.mref 1002<|j+1])<|by rfl) ?_
 refine sS R (A6 (cs:=[.mref 1001 j,.mref 1002<|j+1]) 1000 R iL R R)<|mA R<|aZ<|c2 _<|aS λK3 c3 a0=>aU<|mM R<|xL EB R<|mM R<|aZ<|Zg<|IU h λo1 I a1=>?_
 have J1:∀(J:List (Int × AC)) (M:List (Int × (List AG))) (B:NN),o1=(J,M)→K3 ⟨[(3,.ptr 1000 (j+2) 0 0)],[(1000,some<|.box (j+2) 197 [.mref 1001 j,.mref 1002<|j+1]),(1001,some<|.mb j (B 0) 167<|AK AC.row J),(1002,some<|.md (j+1)<|AK (λ(l:List AG)=>RV.sl<|l.map AG.row) M)],(B 1),64⟩:=by
  intro J M B e
  have h1:=a1 _ _ e
  refine c3 _<|aU<|mM R<|mA R<|aZ ?_
  exact Zl<|B8.mk (s':=⟨[(2,.ptr 1000 (j+2) 0 0)],[(1000,some<|.box (j+2) 197 [.mref 1001 j,.mref 1002<|j+1]),(1001,some<|.mb j (B 0) 167<|AK AC.row J),(1002,some<|.md (j+1)<|AK (λ(l:List AG)=>RV.sl<|l.map AG.row) M)],(B 1),64⟩) wk<|CM (λ(r:(List<|Int × AC) × (List<|Int × (List AG))) Z h'=>∃(i:Nat→Nat),Z=.ptr 1000 (i 0) 0 0∧h'=[(1000,some<|.box (i 0) 197 [.mref 1001<|i 1,.mref 1002<|i 3]),(1001,some<|.mb (i 1) (i 2) 167<|AK AC.row r.1),(1002,some<|.md (i 3)<|AK (λ(l:List AG)=>RV.sl<|l.map AG.row) r.2)]) h1<|by exact⟨.ptr 1000 (j+2) 0 0,[(1000,some<|.box (j+2) 197 [.mref 1001 j,.mref 1002<|j+1]),(1001,some<|.mb j (B 0) 167<|AK AC.row J),(1002,some<|.md (j+1)<|AK (λ(l:List AG)=>RV.sl<|l.map AG.row) M)],R,⟨.inr R,.inr R,.inr R,Za⟩,R,R,AH [(j+2),j,(B 0),(j+1)],R,R⟩
 refine Jn (λ(O:Int) (T:List (Int × AC)) (A:List (Int × (List AG))) q=>⟨[(3,.ptr 1000 (j+2) 0 0),(10,qf w),(11,rL w),(12,rI O)],[(1000,some<|.box (j+2) 197 [.mref 1001 j,.mref 1002<|j+1]),(1001,some<|.mb j (q 0) 167<|AK AC.row T),(1002,some<|.md (j+1)<|AK (λ(l:List AG)=>RV.sl<|l.map AG.row) A)],(q 1),64⟩) (AH [j,(j+3)]) I wk ?_
 intro O T A q v1 a2 a6
 have h2:Iu w O T A=some v1:=a2;unfold Iu at h2
 refine aU<|xS R<|aZ<|aT λc7=>cI R h2 (λh3=>?_) λh3=>?_
 ·refine Zc<|c7 _<|aS λK8 c8 C=>Zg<|IU h3 λp1 a7 a8=>?_
  have J2:∀(m9:List (Int × AC)) (E:List (Int × (List AG))) (U:NN),p1=(m9,E)→K8 ⟨[(3,.ptr 1000 (j+2) 0 0),(10,qf w),(11,rL w),(12,rI O)],[(1000,some<|.box (j+2) 197 [.mref 1001 j,.mref 1002<|j+1]),(1001,some<|.mb j (U 0) 167<|AK AC.row m9),(1002,some<|.md (j+1)<|AK (λ(l:List AG)=>RV.sl<|l.map AG.row) E)],(U 1),64⟩:=by
   intro m9 E U e
   have h4:=a8 _ _ e
   exact c8 _<|aR<|AE h4 λx4 aa h5=>xA R aa<|mM R<|Zh<|Fl.mk h5 (AH [(U 0),(U 1)]) wk
  refine aU<|AE a7 λm ab h6=>xI EB R ab<|xB ((Bl m)) HL R<|sS R (BI (cs:=QK) 5 R Rh R R)<|Zj R R (A5 (ds:=(Bl m)) R Qn iL R iL R R R R)<|aZ<|Zg<|aU<|lF Fp AI R R<|xQ R<|mA R<|aZ<|cI R h6 (λh7=>?_) λh7=>?_
  ·refine AE h7 λr1 ac h8=>?_
   refine rP 20 [pO 20<|.ptr 1000 (j+2) 0 0,pO 21<|.ptr 1000 (j+2) 0 0,pO 22<|.ptr 1000 (j+2) 0 1,pO 23<|.mref 1002<|j+1,pO 24<|.ptr 5 (q 1) 0 3,pO 25<|rI m.Item,pO 26<|.ptr 1000 (j+2) 0 0,pO 27<|.ptr 1000 (j+2) 0 0,pO 28<|.ptr 1000 (j+2) 0 1,pO 29<|.mref 1002<|j+1,pO 30<|.ptr 5 (q 1) 0 3,pO 31<|rI m.Item,pO 32<|.r<|.sl<|((AU A m.Item).getD []).map AG.row,pO 33<|.ptr 5 (q 1) 0 6,pO 34<|rS m.Name,pO 35<|.ptr 5 (q 1) 0 7,pO 36<|rS m.Value,pO 37<|.agg [rS m.Name,rS m.Value],⟨some 38,(λ_=>.r<|.sl<|[(AG.mk m.Name m.Value)].map AG.row),some (38,(λ_=>none)),[]⟩,pO 39<|qa r1] BM R (by exact⟨oB [(3,.ptr 1000 (j+2) 0 0)] [(1000,some<|.box (j+2) 197 [.mref 1001 j,.mref 1002<|j+1])]<|AM R<|.inl R,oB [(20,.ptr 1000 (j+2) 0 0)] [(1000,some<|.box (j+2) 197 [.mref 1001 j,.mref 1002<|j+1])]<|EQ (ob:=.box _ _ _) R (.inl R) (λ_=>R) R,oB [(21,.ptr 1000 (j+2) 0 0)] [(1000,some<|.box (j+2) 197 [.mref 1001 j,.mref 1002<|j+1])]<|fB R TH (.inl R) (λ_=>R) R,oB [(22,.ptr 1000 (j+2) 0 1)] [(1000,some<|.box (j+2) 197 [.mref 1001 j,.mref 1002<|j+1])]<|AY (a:=.mref 1002<|j+1) R UH (.inl R) R R,oB [(5,.ptr 5 (q 1) 0 0)] [(5,some<|.box (q 1) 146<|Bl m)]<|fB R Fa (.inl R) (λ_=>R) R,oB [(24,.ptr 5 (q 1) 0 3)] [(5,some<|.box (q 1) 146<|Bl m)]<|AY (a:=rI m.Item) R AI (.inl R) R R,oB [(3,.ptr 1000 (j+2) 0 0)] [(1000,some<|.box (j+2) 197 [.mref 1001 j,.mref 1002<|j+1])]<|AM R<|.inl R,oB [(26,.ptr 1000 (j+2) 0 0)] [(1000,some<|.box (j+2) 197 [.mref 1001 j,.mref 1002<|j+1])]<|EQ (ob:=.box _ _ _) R (.inl R) (λ_=>R) R,oB [(27,.ptr 1000 (j+2) 0 0)] [(1000,some<|.box (j+2) 197 [.mref 1001 j,.mref 1002<|j+1])]<|fB R TH (.inl R) (λ_=>R) R,oB [(28,.ptr 1000 (j+2) 0 1)] [(1000,some<|.box (j+2) 197 [.mref 1001 j,.mref 1002<|j+1])]<|AY (a:=.mref 1002<|j+1) R UH (.inl R) R R,oB [(5,.ptr 5 (q 1) 0 0)] [(5,some<|.box (q 1) 146<|Bl m)]<|fB R Fa (.inl R) (λ_=>R) R,oB [(30,.ptr 5 (q 1) 0 3)] [(5,some<|.box (q 1) 146<|Bl m)]<|AY (a:=rI m.Item) R AI (.inl R) R R,oB [(29,.mref 1002<|j+1),(31,rI m.Item)] [(1002,some<|.md (j+1)<|AK (λ(l:List AG)=>RV.sl<|l.map AG.row) A)]<|IT (rd:=(λ(l:List AG)=>RV.sl<|l.map AG.row)) false (.slice none 0 0) [] R underlying195 underlying3 (GC UD) (λ_ _=>.snil) (.inl R) (.inl R) R,oB [(5,.ptr 5 (q 1) 0 0)] [(5,some<|.box (q 1) 146<|Bl m)]<|fB R MB (.inl R) (λ_=>R) R,oB [(33,.ptr 5 (q 1) 0 6)] [(5,some<|.box (q 1) 146<|Bl m)]<|AY (a:=rS m.Name) R BK (.inl R) R R,oB [(5,.ptr 5 (q 1) 0 0)] [(5,some<|.box (q 1) 146<|Bl m)]<|fB R JI (.inl R) (λ_=>R) R,oB [(35,.ptr 5 (q 1) 0 7)] [(5,some<|.box (q 1) 146<|Bl m)]<|AY (a:=rS m.Value) R BK (.inl R) R R,oB [(34,rS m.Name),(36,rS m.Value)] []<|Bu R QY (q:=[(0,_),(1,_)]) (by exact⟨R,R,R,(.inl R),R,R,R,(.inl R),Za⟩) (cs:=[rS m.Name,rS m.Value])<|by rfl,Uj R R (by intro d h;cases h;rfl) R (λ_=>[(37,.agg [rS m.Name,rS m.Value])]) (λ_=>[]) (λD X hr=>⟨Tq hr 17 R R (by kernel_rfl) R R,Za⟩) (λD X hr=>Za) λX e h' n=>Fy.frz<|Bc.toN<|Bj 38 R BH (f:=AG.row) (l:=([(AG.mk m.Name m.Value)]:List AG)) ⟨R,⟨_,(.inl R),R⟩,Za⟩ R (λ_=>R) R,oD (λ_=>[(32,.r<|.sl<|((AU A m.Item).getD []).map AG.row),(38,.r<|.sl<|[(AG.mk m.Name m.Value)].map AG.row)]) (λ_=>[]) λX e h' n=>Cb (r:=qa r1) (caps:=[]) (bs:=[.r<|.sl<|((AU A m.Item).getD []).map AG.row,.r<|.sl<|[(AG.mk m.Name m.Value)].map AG.row]) R (.inl R) R ⟨.inl ⟨(.inl R),R⟩,.inl ⟨(.inl R),R⟩,Za⟩ λ_=>ot<|ac,Za⟩) λX n1=>?_
   refine BZ [3,5,10,11,12,13,14,15,16,17,18,19,20,21,22,23,24,25,26,27,28,29,30,31,32,33,34,35,36,37,38,39] [5,1000,1001,1002] ?_
   exact Zj R R (Je (rd:=(λ(l:List AG)=>RV.sl<|l.map AG.row)) (a:=r1) (.inl rfl) underlying195 underlying3 (.inl rfl) (.inl rfl) (.inl rfl) R)<|Zh<|C _ _ wk<|J2 _ _ (AH [(q 0),n1]) (Zf h8).symm
  refine aT λad=>aR<|mM R<|lF HQ AI R R<|lF Fa AI R R<|AE h7 λr2 ae h9=>?_
  refine Zy [1000,1001,1002] (hc:=[(1000,some<|.box (j+2) 197 [.mref 1001 j,.mref 1002<|j+1]),(1001,some<|.mb j (q 0) 167<|AK AC.row T),(1002,some<|.md (j+1)<|AK (λ(l:List AG)=>RV.sl<|l.map AG.row) A)]) (bs:=[.ptr 1000 (j+2) 0 0,rI m.Parent,rI m.Item]) (caps:=[]) R R R R iL R ⟨.inl ⟨iL,R⟩,.inl ⟨iL,R⟩,.inl ⟨iL,R⟩,Za⟩ ⟨R,R,R,R,R,R,R,R,R,Za⟩ (by decide) (bZ ae) ?_
  intro i7 V
  refine BZ [3,5,10,11,12,13,14,15,16,17,18,19,41,42,43,44,45,46] [5,1000,1001,1002] ?_
  refine sQ R (BE R iL)<|mA R<|aZ<|ad _<|cI R h9 (λF=>?_) λF=>?_
  ·refine aG [3,5,10,11,12] [5,1000,1001,1002] ?_
   refine Ry [] [0,1,2,3,4,5,6,7,8,9,10,11,12] [13] 14 BM (by kernel_rfl) R R R R R ?_
   refine F5.nil<|ZG R R R (AM R iL)<|ZG R R R (EQ (ob:=.box _ _ _) R iL fR R)<|ZG R R R (fB R Tn iL fR R)<|ZG R R R (AY (a:=.mref 1001 j) R Sq iL R R)<|ZG R R R (fB R Fa iL fR R)<|ZG R R R (AY (a:=rI m.Item) R AI iL R R)<|ZG R R R (fB R Fa iL fR R)<|ZG R R R (AY (a:=rI m.Item) R AI iL R R)<|ZG R R R (fB R HQ iL fR R)<|ZG R R R (AY (a:=rI m.Parent) R AI iL R R)<|ZG R R R (fB R MV iL fR R)<|ZG R R R (AY (a:=rS m.Place) R BK iL R R) ?_
   refine ZG R R R (Bu R RD (q:=[(0,_),(1,_),(2,_)]) (by exact⟨R,R,R,iL,R,R,R,iL,R,R,R,iL,Za⟩) (cs:=[rI m.Item,rI m.Parent,rS m.Place,cZ])<|by rfl) ?_
   refine AF.nil<|AA.step R R R (dG (cs:=[rI m.Item,rI m.Parent,rS m.Place,cZ]) 61 R iL R R)<|AA.nil ?_
   refine AS.weak (by exact Am.cv (e':=[(3,.ptr 1000 (j+2) 0 0),(5,.ptr 5 (q 1) 0 0),(10,qf w),(11,rL w),(12,rI O),(48,.ptr 1000 (j+2) 0 0),(49,.ptr 1000 (j+2) 0 0),(50,.ptr 1000 (j+2) 0 0),(51,.mref 1001 j),(52,.ptr 5 (q 1) 0 3),(53,rI m.Item),(54,.ptr 5 (q 1) 0 3),(55,rI m.Item),(56,.ptr 5 (q 1) 0 4),(57,rI m.Parent),(58,.ptr 5 (q 1) 0 5),(59,rS m.Place),(60,.agg [rI m.Item,rI m.Parent,rS m.Place,cZ]),(61,.ptr 61 V 0 0)]) (h':=[(5,some<|.box (q 1) 146<|Bl m),(61,some<|.box V 167 [rI m.Item,rI m.Parent,rS m.Place,.r<|.sl []]),(1000,some<|.box (j+2) 197 [.mref 1001 j,.mref 1002<|j+1]),(1001,some<|.mb j (q 0) 167<|AK AC.row T),(1002,some<|.md (j+1)<|AK (λ(l:List AG)=>RV.sl<|l.map AG.row) A)]) ⟨jL,jL,jL,jL,jL,jL,jL,jL,jL,jL,jL,jL,jL,jL,jL,jL,jL,jL,jL,Za⟩ ⟨.inl R,.inr<|.inr ⟨_,_,_,_,R,R,⟨.inl R,.inl R,.inl R,.inr<|.inr ⟨R,R⟩,Za⟩⟩,.inl R,.inl R,.inl R,Za⟩ nL) ?_
   exact Zj R R (iu (a:=(AC.mk m.Item m.Parent m.Place [])) (.inl rfl) underlying194 underlying3 (.inl rfl) (.inl rfl) (.inl rfl) R R)<|Zh<|C _ _ wk<|J2 _ _ (AH [(V+1),(V+2)]) (Zf F).symm
  exact Zc<|C _ _ wk<|J2 _ _ (AH [(q 0),V]) (Zf F).symm
 exact Zm<|a0 _ _ wk<|J1 _ _ (AH [(q 0),(q 1)])<|xH a6 h3
theorem Uy{j r}(h:Nu j=some r):Aa prog 179 [rS j] (rB r):=by
 unfold Nu at h
 exact mF func179 ntmps179 R λl=>aU<|mA R<|aZ<|aU<|mM R<|mM R<|sQ R (D1 R iL iL)<|mA R<|aZ<|Zl<|yB h R
theorem pl{O T r}(h:OW O T=some r):Aa prog 168 [rS O,rS T] (rI r):=by
 unfold OW at h
 refine mF func168 ntmps168 R λn0=>aU<|mA R<|aZ<|aU<|mM R<|AE h λm j U=>cL (Uy<|j) R<|mA R<|aZ<|aU<|mM R<|AE U λq l V=>cL (Uy<|l) R<|mA R<|aZ<|aT λX=>aU<|mM R<|aZ<|cI R V (λw=>?_) λw=>?_
 ·refine aT λZ=>aT λc7=>aF [6] ?_
  refine aR<|mM R<|aZ<|c7 _<|cI R w (λA=>?_) λA=>?_
  ·exact zI A R id
  exact Zc<|Z _<|zI A R id
 refine Zc<|X _<|aT λB=>aU<|mM R<|aZ<|cI R w (λC=>?_) λC=>?_
 ·exact zI C R id
 refine Zc<|B _<|aT λE=>aT λF=>aF [0,1] ?_
 refine aR<|mM R<|mM R<|sQ R (OX R iL iL)<|aZ<|F _<|cI R C (λI=>?_) λI=>?_
 ·exact zI I R id
 refine Zc<|E _<|aT λJ=>aU<|mM R<|mM R<|sQ R (ge R iL iL)<|aZ<|cI R I (λM=>?_) λM=>?_
 ·exact zI M R id
 exact Zc<|J _<|zI M R id
theorem hZ{l b1 r}(h:Kn l b1=some r):Aa prog 167 [.agg<|CT l,.agg<|CT b1] (rI r):=by
 unfold Kn at h
 refine mF func167 ntmps167 R λj=>aU<|sS R (A6 (cs:=(CT l)) 2 R iL R R)<|sS R (A6 (cs:=(CT b1)) 3 R iL R R)<|mA R<|aZ<|aT λB=>AE h λm q C=>?_
 refine rP 9 [pO 5<|.ptr 2 j 0 2,pO 6<|rS l.Place,pO 7<|.ptr 3 (j+1) 0 2,pO 8<|rS b1.Place,pO 9<|rI m,pO 10<|.ptr 2 j 0 0,pO 11<|rI l.Item,pO 12<|.ptr 3 (j+1) 0 0,pO 13<|rI b1.Item] BM R (by exact⟨oB [(2,.ptr 2 j 0 0)] [(2,some<|.box j 167<|CT l)]<|fB R H5 (.inl R) (λ_=>R) R,oB [(5,.ptr 2 j 0 2)] [(2,some<|.box j 167<|CT l)]<|AY (a:=rS l.Place) R BK (.inl R) R R,oB [(3,.ptr 3 (j+1) 0 0)] [(3,some<|.box (j+1) 167<|CT b1)]<|fB R H5 (.inl R) (λ_=>R) R,oB [(7,.ptr 3 (j+1) 0 2)] [(3,some<|.box (j+1) 167<|CT b1)]<|AY (a:=rS b1.Place) R BK (.inl R) R R,oD (λ_=>[(6,rS l.Place),(8,rS b1.Place)]) (λ_=>[]) λE e M n=>DU (r:=rI m) (caps:=[]) (bs:=[rS l.Place,rS b1.Place]) R (.inl R) R ⟨⟨_,(.inl R),.d R⟩,⟨_,(.inl R),.d R⟩,Za⟩ (λ_=>pl<|q) R,oB [(2,.ptr 2 j 0 0)] [(2,some<|.box j 167<|CT l)]<|fB R Et (.inl R) (λ_=>R) R,oB [(10,.ptr 2 j 0 0)] [(2,some<|.box j 167<|CT l)]<|AY (a:=rI l.Item) R AI (.inl R) R R,oB [(3,.ptr 3 (j+1) 0 0)] [(3,some<|.box (j+1) 167<|CT b1)]<|fB R Et (.inl R) (λ_=>R) R,oB [(12,.ptr 3 (j+1) 0 0)] [(3,some<|.box (j+1) 167<|CT b1)]<|AY (a:=rI b1.Item) R AI (.inl R) R R,Za⟩) λE O=>?_
 refine BZ [0,1,2,3,4,5,6,7,8,9,10,11,12,13] [2,3] ?_
 exact AE C λF w I=>cL (ML<|w) R<|sS R (Bj 15 R Bi (f:=(Ab .i64)) (l:=([m,F]:List Int)) ⟨R,⟨_,iL,R⟩,R,⟨_,iL,R⟩,Za⟩ R (λ_=>R) R)<|AE I λT A J=>cL (TP<|A) R<|mA R<|aZ<|B _<|Zl<|yI J R
theorem Zo{self:(List<|Int × (List AC))→(List AC)→(List<|Int × Bool)→Int→Option ((List<|Int × (List AC)) × (List AC) × (List<|Int × Bool))}(O:∀ {T:List (Int × (List AC))} {c1:List AC} {m2:List (Int × Bool)} {E:Int} {r:(List<|Int × (List AC)) × (List AC) × (List<|Int × Bool)} {A:Nat} {q:Nat} {C:Nat} {j:Nat} {F:Nat} {m:Nat} {B:Nat} {w:Nat},self T c1 m2 E=some r→BC prog 165 7 [rI E,.ptr 1000 A 0 0,.ptr 1002 j 0 0,.ptr 1004 m 0 0,.ptr 1006 w 0 0] [(1000,some<|.box A 193 [.mref 1001 q]),(1001,some<|.mr q C 167 4 none<|AK (λ(l:List AC)=>l.map AC.row) T),(1002,some<|.box j 162 [.own 1003 F]),(1003,some<|.arr F 167 4<|c1.map AC.row),(1004,some<|.box m 94 [.mref 1005 B]),(1005,some<|.md B<|AK RV.bool m2),(1006,some<|.box w 199 [.fn 165 [.ptr 1000 A 0 0,.ptr 1002 j 0 0,.ptr 1004 m 0 0,.ptr 1006 w 0 0]])] (λX h'=>∃(i:Nat→Nat),X=.tup []∧h'=[(1000,some<|.box A 193 [.mref 1001 q]),(1001,some<|.mr q C 167 4 none<|AK (λ(l:List AC)=>l.map AC.row) r.1),(1002,some<|.box j 162 [.own 1003<|i 0]),(1003,some<|.arr (i 0) 167 4<|r.2.1.map AC.row),(1004,some<|.box m 94 [.mref 1005 B]),(1005,some<|.md B<|AK RV.bool r.2.2),(1006,some<|.box w 199 [.fn 165 [.ptr 1000 A 0 0,.ptr 1002 j 0 0,.ptr 1004 m 0 0,.ptr 1006 w 0 0]])])){T:List (Int × (List AC))}{c1:List AC}{m2:List (Int × Bool)}{E:Int}{r:(List<|Int × (List AC)) × (List AC) × (List<|Int × Bool)}{A:Nat}{q:Nat}{C:Nat}{j:Nat}{F:Nat}{m:Nat}{B:Nat}{w:Nat}(h:Jb self T c1 m2 E=some r):BC prog 165 7 [rI E,.ptr 1000 A 0 0,.ptr 1002 j 0 0,.ptr 1004 m 0 0,.ptr 1006 w 0 0] [(1000,some<|.box A 193 [.mref 1001 q]),(1001,some<|.mr q C 167 4 none<|AK (λ(l:List AC)=>l.map AC.row) T),(1002,some<|.box j 162 [.own 1003 F]),(1003,some<|.arr F 167 4<|c1.map AC.row),(1004,some<|.box m 94 [.mref 1005 B]),(1005,some<|.md B<|AK RV.bool m2),(1006,some<|.box w 199 [.fn 165 [.ptr 1000 A 0 0,.ptr 1002 j 0 0,.ptr 1004 m 0 0,.ptr 1006 w 0 0]])] (λX h'=>∃(i:Nat→Nat),X=.tup []∧h'=[(1000,some<|.box A 193 [.mref 1001 q]),(1001,some<|.mr q C 167 4 none<|AK (λ(l:List AC)=>l.map AC.row) r.1),(1002,some<|.box j 162 [.own 1003<|i 0]),(1003,some<|.arr (i 0) 167 4<|r.2.1.map AC.row),(1004,some<|.box m 94 [.mref 1005 B]),(1005,some<|.md B<|AK RV.bool r.2.2),(1006,some<|.box w 199 [.fn 165 [.ptr 1000 A 0 0,.ptr 1002 j 0 0,.ptr 1004 m 0 0,.ptr 1006 w 0 0]])]):=by
 unfold Jb at h
 refine D7 func165 R R ntmps165 (Zs R) λn0=>aT λC1=>aR<|sQ R (AY (a:=.mref 1001 q) R Qx iL R R)<|mM R<|sQ R (SR R underlying193 underlying3 (GC Qd) (.inl R) (.inl R) R)<|AE h λw1 a1 h1=>?_
 refine Zy [1001] (hc:=[(1000,some<|.mr q C 167 4 none<|AK (λ(l:List AC)=>l.map AC.row) T)]) (bs:=[.fo 1000 q C E,.fn 167 []]) (caps:=[]) R R R R iL R ⟨.inl ⟨iL,R⟩,.inl ⟨iL,R⟩,Za⟩ ⟨R,R,R,Za⟩ (by decide) ((qX (row:=AC.row) XY (by decide) (λ_=>R) ⟨_,func167,R,R⟩ λ_ _ _ h=>hZ h) a1) ?_
 intro i1 n1
 refine BZ [0,1,2,3,4,8,9,10,11] [1000,1001,1002,1003,1004,1005,1006] ?_
 refine aZ<|C1 _<|aU<|sQ R (AY (a:=.mref 1001 q) R Qx iL R R)<|mM R<|sQ R (SR R underlying193 underlying3 (GC Qd) (.inl R) (.inl R) R)<|sQ R (ZH R BX.slice (.inl rfl) R)<|mM R<|aZ<|Zg<|BS h1 λo4 Z ac a2=>Rx (λ(x2:Int) (o2:List AC) (U:List (Int × (List AC))) (V:List (Int × Bool)) J=>⟨[(2,.ptr 1002 j 0 0),(3,.ptr 1004 m 0 0),(4,.ptr 1006 w 0 0),(14,.fo 1001 q C E),(15,rI<|(((AU w1 E).getD []).length:Int)),(16,rI x2)],[(1000,some<|.box A 193 [.mref 1001 q]),(1001,some<|.mr q C 167 4 none<|AK (λ(l:List AC)=>l.map AC.row) U),(1002,some<|.box j 162 [.own 1003<|J 0]),(1003,some<|.arr (J 0) 167 4<|o2.map AC.row),(1004,some<|.box m 94 [.mref 1005 B]),(1005,some<|.md B<|AK RV.bool V),(1006,some<|.box w 199 [.fn 165 [.ptr 1000 A 0 0,.ptr 1002 j 0 0,.ptr 1004 m 0 0,.ptr 1006 w 0 0]])],(J 1),32⟩) (AH [F,n1]) Z wk ?_
 intro x2 o2 U V J v1 a6 a7
 have h2:GL E self w1 x2 o2 U V=some v1:=a6;unfold GL at h2
 refine aU<|xS R<|aZ<|aT λC4=>cI R h2 (λh3=>?_) λh3=>?_
 ·refine Zc<|C4 _<|aT λC5=>Zg<|aU<|AE h3 λM a0 h4=>sQ R (gV (f:=AC.row) R BX.slice (.inl rfl) R (.inl rfl) λ_=>a0)<|sQ R (iP (f:=AC.row) (cs:=(CT M)) R Gz (.inl rfl) R (λ_=>a0) R)<|sS R (BI (cs:=ME) 7 R PI R R)<|Zj R R (A5 (ds:=(CT M)) R Lu iL R iL R R R R)<|aZ<|aT λC7=>AE h4 λl1 a8 h5=>?_
  refine GJ 8 [pO 20<|.mref 1005 B,pO 21<|.ptr 7 (J 1) 0 0,pO 22<|rI M.Item,pO 23<|.own 1003<|J 0,pO 24<|.agg<|CT M,⟨some 25,(λI=>.own 25<|I 5),some (25,(λI=>some<|.arr (I 5) 167 4<|[M].map AC.row)),[5]⟩,⟨some 26,(λI=>.own 1003<|I 6),some (1003,(λI=>some<|.arr (I 6) 167 4<|l1.map AC.row)),[6]⟩,⟨none,(λ_=>.any),some (1002,(λI=>some<|.box j 162 [.own 1003<|I 6])),[6]⟩] BM (by kernel_rfl) (by exact⟨λ_ _ h=>⟨R,λ_ _ e=>by cases e⟩,λ_ _ h=>⟨R,λ_ _ e=>by cases e⟩,λ_ _ h=>⟨R,λ_ _ e=>by cases e⟩,λ_ _ h=>⟨R,λ_ _ e=>by cases e⟩,λ_ _ h=>⟨R,λ_ _ e=>by cases e⟩,λ_ _ h=>⟨by simp only[h 5 R],λ_ _ e=>by cases e;simp only[h 5 R]⟩,λ_ _ h=>⟨by simp only[h 6 R],λ_ _ e=>by cases e;simp only[h 6 R]⟩,λ_ _ h=>⟨R,λ_ _ e=>by cases e;simp only[h 6 R]⟩,Za⟩) R (by exact⟨oB [(3,.ptr 1004 m 0 0)] [(1004,some<|.box m 94 [.mref 1005 B])]<|AY (a:=.mref 1005 B) R JT (.inl R) R R,oB [(7,.ptr 7 (J 1) 0 0)] [(7,some<|.box (J 1) 167<|CT M)]<|fB R Et (.inl R) (λ_=>R) R,oB [(21,.ptr 7 (J 1) 0 0)] [(7,some<|.box (J 1) 167<|CT M)]<|AY (a:=rI M.Item) R AI (.inl R) R R,oB [(2,.ptr 1002 j 0 0)] [(1002,some<|.box j 162 [.own 1003<|J 0])]<|AY (a:=.own 1003<|J 0) R UP (.inl R) R R,oB [(7,.ptr 7 (J 1) 0 0)] [(7,some<|.box (J 1) 167<|CT M)]<|Dm R Gz (.inl R) R R,oM (λ_=>[(24,.agg<|CT M)]) (λ_=>[]) R λI e h' n=>Bj 25 R BX (f:=AC.row) (l:=([M]:List AC)) ⟨R,⟨_,(.inl R),R⟩,Za⟩ R (λ_=>R) R,oM (λI=>[(23,.own 1003<|J 0),(25,.own 25<|I 5)]) (λI=>[(25,some<|.arr (I 5) 167 4<|[M].map AC.row),(1003,some<|.arr (J 0) 167 4<|o2.map AC.row)]) R λI e h' n=>Cj R BX (.inl R) R (.inr<|.inl ⟨_,_,(.inl R),R⟩) a8,oM (λI=>[(2,.ptr 1002 j 0 0),(26,.own 1003<|I 6)]) (λI=>[(1002,some<|.box j 162 [.own 1003<|J 0]),(1003,some<|.arr (I 6) 167 4<|l1.map AC.row)]) R λI e h' n=>A5 (ds:=[.own 1003<|I 6]) R Vq (.inl R) R (.inl R) R R R R,Za⟩) λI n2=>?_
  refine BZ [2,3,4,7,14,15,16,17,18,19,20,21,22,24,25,26] [7,25,1000,1001,1002,1003,1004,1005,1006] ?_
  refine Zj R R (Je (rd:=RV.bool) (a:=true) (.inl rfl) underlying94 underlying3 (.inl rfl) (.inl rfl) (.inl rfl) R)<|aZ<|C7 _<|aG [2,3,4,7,14,15,16] [7,1000,1001,1002,1003,1004,1005,1006] ?_
  refine aR<|sQ R (AY (a:=.fn 165 [.ptr 1000 A 0 0,.ptr 1002 j 0 0,.ptr 1004 m 0 0,.ptr 1006 w 0 0]) R YE iL R R)<|lF Et AI R R<|Ih h5 λw2 w3 w4 aa h6=>?_
  refine Zy [1000,1001,1002,1003,1004,1005,1006] (hc:=[(1000,some<|.box A 193 [.mref 1001 q]),(1001,some<|.mr q C 167 4 none<|AK (λ(l:List AC)=>l.map AC.row) U),(1002,some<|.box j 162 [.own 1003<|I 6]),(1003,some<|.arr (I 6) 167 4<|l1.map AC.row),(1004,some<|.box m 94 [.mref 1005 B]),(1005,some<|.md B<|AK RV.bool<|Ah V M.Item true),(1006,some<|.box w 199 [.fn 165 [.ptr 1000 A 0 0,.ptr 1002 j 0 0,.ptr 1004 m 0 0,.ptr 1006 w 0 0]])]) (bs:=[rI M.Item]) (caps:=[.ptr 1000 A 0 0,.ptr 1002 j 0 0,.ptr 1004 m 0 0,.ptr 1006 w 0 0]) R R R R iL R ⟨.inl ⟨iL,R⟩,Za⟩ ⟨R,R,R,R,R,R,R,R,R,R,R,R,R,R,R,R,R,R,R,R,R,Za⟩ (by decide) (O aa) ?_
  intro i6 n3
  refine BZ [2,3,4,7,14,15,16,27,28,29,30] [7,1000,1001,1002,1003,1004,1005,1006] ?_
  exact aZ<|C5 _<|aR<|AE h6 λx5 ab h7=>xA R ab<|mM R<|Zh<|KB.mk h7 (AH [(i6 0),n3]) wk
 refine Zm ?_
 exact B8.mk (s':=⟨[],[(1000,some<|.box A 193 [.mref 1001 q]),(1001,some<|.mr q C 167 4 none<|AK (λ(l:List AC)=>l.map AC.row) U),(1002,some<|.box j 162 [.own 1003<|J 0]),(1003,some<|.arr (J 0) 167 4<|o2.map AC.row),(1004,some<|.box m 94 [.mref 1005 B]),(1005,some<|.md B<|AK RV.bool V),(1006,some<|.box w 199 [.fn 165 [.ptr 1000 A 0 0,.ptr 1002 j 0 0,.ptr 1004 m 0 0,.ptr 1006 w 0 0]])],(J 1),32⟩) wk<|CM (λ(r:(List<|Int × (List AC)) × (List AC) × (List<|Int × Bool)) X h'=>∃(i:Nat→Nat),X=.tup []∧h'=[(1000,some<|.box A 193 [.mref 1001 q]),(1001,some<|.mr q C 167 4 none<|AK (λ(l:List AC)=>l.map AC.row) r.1),(1002,some<|.box j 162 [.own 1003<|i 0]),(1003,some<|.arr (i 0) 167 4<|r.2.1.map AC.row),(1004,some<|.box m 94 [.mref 1005 B]),(1005,some<|.md B<|AK RV.bool r.2.2),(1006,some<|.box w 199 [.fn 165 [.ptr 1000 A 0 0,.ptr 1002 j 0 0,.ptr 1004 m 0 0,.ptr 1006 w 0 0]])]) (a2 _<|xH a7 h3)<|by exact⟨.tup [],[(1000,some<|.box A 193 [.mref 1001 q]),(1001,some<|.mr q C 167 4 none<|AK (λ(l:List AC)=>l.map AC.row) U),(1002,some<|.box j 162 [.own 1003<|J 0]),(1003,some<|.arr (J 0) 167 4<|o2.map AC.row),(1004,some<|.box m 94 [.mref 1005 B]),(1005,some<|.md B<|AK RV.bool V),(1006,some<|.box w 199 [.fn 165 [.ptr 1000 A 0 0,.ptr 1002 j 0 0,.ptr 1004 m 0 0,.ptr 1006 w 0 0]])],⟨_,R,Za⟩,⟨.inr R,.inr R,.inr R,.inr R,.inr R,.inr R,.inr R,Za⟩,R,R,AH [(J 0)],R,R⟩
theorem nE(n:Nat):∀ {I:List (Int × (List AC))} {c1:List AC} {m2:List (Int × Bool)} {j:Int} {r:(List<|Int × (List AC)) × (List AC) × (List<|Int × Bool)} {m:Nat} {B:Nat} {E:Nat} {q:Nat} {F:Nat} {w:Nat} {C:Nat} {A:Nat},Dp n I c1 m2 j=some r→BC prog 165 7 [rI j,.ptr 1000 m 0 0,.ptr 1002 q 0 0,.ptr 1004 w 0 0,.ptr 1006 A 0 0] [(1000,some<|.box m 193 [.mref 1001 B]),(1001,some<|.mr B E 167 4 none<|AK (λ(l:List AC)=>l.map AC.row) I),(1002,some<|.box q 162 [.own 1003 F]),(1003,some<|.arr F 167 4<|c1.map AC.row),(1004,some<|.box w 94 [.mref 1005 C]),(1005,some<|.md C<|AK RV.bool m2),(1006,some<|.box A 199 [.fn 165 [.ptr 1000 m 0 0,.ptr 1002 q 0 0,.ptr 1004 w 0 0,.ptr 1006 A 0 0]])] (λJ h'=>∃(i:Nat→Nat),J=.tup []∧h'=[(1000,some<|.box m 193 [.mref 1001 B]),(1001,some<|.mr B E 167 4 none<|AK (λ(l:List AC)=>l.map AC.row) r.1),(1002,some<|.box q 162 [.own 1003<|i 0]),(1003,some<|.arr (i 0) 167 4<|r.2.1.map AC.row),(1004,some<|.box w 94 [.mref 1005 C]),(1005,some<|.md C<|AK RV.bool r.2.2),(1006,some<|.box A 199 [.fn 165 [.ptr 1000 m 0 0,.ptr 1002 q 0 0,.ptr 1004 w 0 0,.ptr 1006 A 0 0]])]):=by
 induction n with
 | zero=>intro I c1 m2 j r m B E q F w C A h;exact absurd (show(none:Option ((List<|Int × (List AC)) × (List AC) × (List<|Int × Bool)))=some r from h)<|by simp
 | succ n M=>intro I c1 m2 j r m B E q F w C A h;exact Zo (self:=λI c1 m2 j=>Dp n I c1 m2 j) (λO=>M O) h
theorem kN{I:List (Int × (List AC))}{c1:List AC}{m2:List (Int × Bool)}{C:Int}{r:(List<|Int × (List AC)) × (List AC) × (List<|Int × Bool)}{j:Nat}{A:Nat}{E:Nat}{m:Nat}{F:Nat}{q:Nat}{B:Nat}{w:Nat}(h:Oq I c1 m2 C=some r):BC prog 165 7 [rI C,.ptr 1000 j 0 0,.ptr 1002 m 0 0,.ptr 1004 q 0 0,.ptr 1006 w 0 0] [(1000,some<|.box j 193 [.mref 1001 A]),(1001,some<|.mr A E 167 4 none<|AK (λ(l:List AC)=>l.map AC.row) I),(1002,some<|.box m 162 [.own 1003 F]),(1003,some<|.arr F 167 4<|c1.map AC.row),(1004,some<|.box q 94 [.mref 1005 B]),(1005,some<|.md B<|AK RV.bool m2),(1006,some<|.box w 199 [.fn 165 [.ptr 1000 j 0 0,.ptr 1002 m 0 0,.ptr 1004 q 0 0,.ptr 1006 w 0 0]])] (λM h'=>∃(i:Nat→Nat),M=.tup []∧h'=[(1000,some<|.box j 193 [.mref 1001 A]),(1001,some<|.mr A E 167 4 none<|AK (λ(l:List AC)=>l.map AC.row) r.1),(1002,some<|.box m 162 [.own 1003<|i 0]),(1003,some<|.arr (i 0) 167 4<|r.2.1.map AC.row),(1004,some<|.box q 94 [.mref 1005 B]),(1005,some<|.md B<|AK RV.bool r.2.2),(1006,some<|.box w 199 [.fn 165 [.ptr 1000 j 0 0,.ptr 1002 m 0 0,.ptr 1004 q 0 0,.ptr 1006 w 0 0]])]):=by
 unfold Oq at h
 by_cases J:∃n r,Dp n I c1 m2 C=some r
 ·rw[tW J] at h;exact nE _ h
 ·rw[uM J] at h;cases h
theorem fS{j b1 r}(h:Pd j b1=some r):Aa prog 169 [.agg<|CT j,.agg<|CT b1] (rI r):=by
 unfold Pd at h
 exact mF func169 ntmps169 R λq=>aU<|sS R (A6 (cs:=(CT j)) 2 R iL R R)<|sS R (A6 (cs:=(CT b1)) 3 R iL R R)<|mA R<|aZ<|aU<|lF Et AI R R<|lF Et AI R R<|AE h λw l m=>cL (ML<|l) R<|mA R<|aZ<|Zl<|yI m R
theorem gG{l1 r}(h:Nv l1=some r):Aa prog 153 [qf l1] (qg r):=by
 unfold Nv at h
 refine mF func153 ntmps153 R λn0=>aU<|mA R<|aZ<|aT λc2=>aR<|mM R<|E4 h λw1 B af h1=>?_
 refine Zy [14,8225,8226] (hc:=[]) (bs:=[qf l1]) (caps:=[]) R R R R iL R ⟨.inl ⟨iL,R⟩,Za⟩ Za (by decide) (oh af) ?_
 intro m A
 refine BZ [0,2,13,14] [14,8225,8226] ?_
 refine mA R<|aZ<|c2 _<|aT λc3=>aR ?_
 refine sS R (nI AC.row 15 167 4 R<|by decide) ?_
 refine sS R (BI (cs:=[.cst<|.map none]) 4 R mt R R)<|Zj R R (A5 (ds:=[.mref 15 A]) R oz iL R iL R R R R)<|aZ<|c3 _<|aU<|mA R<|aZ<|aT λc5=>aU<|mM R<|sQ R (EQ (ob:=.box _ _ _) R iL fR R)<|lF Tn Sq R R<|sS R (Zi (ob:=.mb (m 1) (m 2) 167<|AK AC.row w1) 20 R underlying194 (.inl rfl) R (TY _ _ _ _ _) R)<|aZ ?_
 refine AW.weak (s':=⟨[(3,.ptr 14 (m 0) 0 0),(4,.ptr 4 (A+1) 0 0),(5,.own 5005<|A+3),(20,.ptr 20 (A+2) 0 0)],[(4,some<|.box (A+1) 193 [.mref 15 A]),(14,some<|.box (m 0) 197 [.mref 8225<|m 1,.mref 8226<|m 3]),(15,some<|.mr A A 167 4 none<|AK (λ(l:List AC)=>l.map AC.row) ([]:List (Int × (List AC)))),(20,some (.mj (A+2) 8225 (m 1) ((w1.map (·.1)).length) [])),(5005,some<|.arr (A+3) 167 4<|([]:List AC).map AC.row),(8225,some<|.mb (m 1) (m 2) 167<|AK AC.row w1),(8226,some<|.md (m 3)<|AK (λ(l:List AG)=>RV.sl<|l.map AG.row) B)],(A+4),80⟩) (Zv (Zv (GI 5 5005 167 4 (by decide) R) (by exact Am.cv (e':=[(0,qf l1),(2,cZ),(3,.ptr 14 (m 0) 0 0),(4,.ptr 4 (A+1) 0 0),(5,.own 5005<|A+3),(13,qf l1),(14,.ptr 14 (m 0) 0 0),(15,.mref 15 A),(16,.ptr 14 (m 0) 0 0),(17,.ptr 14 (m 0) 0 0),(18,.ptr 14 (m 0) 0 0),(19,.mref 8225<|m 1),(20,.ptr 20 (A+2) 0 0)]) (h':=[(4,some<|.box (A+1) 193 [.mref 15 A]),(14,some<|.box (m 0) 197 [.mref 8225<|m 1,.mref 8226<|m 3]),(15,some<|.mr A A 167 4 none<|AK (λ(l:List AC)=>l.map AC.row) ([]:List (Int × (List AC)))),(20,some (.mj (A+2) 8225 (m 1) ((w1.map (·.1)).length) [])),(5005,some<|.arr (A+3) 167 4<|([]:List AC).map AC.row),(8225,some<|.mb (m 1) (m 2) 167<|AK AC.row w1),(8226,some<|.md (m 3)<|AK (λ(l:List AG)=>RV.sl<|l.map AG.row) B)]) ⟨jL,jL,jL,jL,jL,jL,jL,jL,jL,jL,jL,jL,jL,Za⟩ ⟨.inl R,.inl R,.inl R,.inl R,.inl R,.inl R,.inl R,Za⟩ nL)) wk) ?_
 refine qB (mid:=8225) (mg:=(m 1)) (key:=λ(a:(List AC) × (List<|Int × AC) × (List<|Int × (List AC)))=>a.2.1.map (·.1)) (F:=λ(a:(List AC) × (List<|Int × AC) × (List<|Int × (List AC))) (q:Int)=>Hl B a.1 a.2.1 a.2.2 q) (st0:=([],w1,[])) 20 (λ(a:(List AC) × (List<|Int × AC) × (List<|Int × (List AC))) w=>[(3,.ptr 14 (m 0) 0 0),(4,.ptr 4 (A+1) 0 0),(5,.own 5005<|w 0),(20,.ptr 20 (A+2) 0 0)]) (λ(a:(List AC) × (List<|Int × AC) × (List<|Int × (List AC))) w=>[(4,some<|.box (A+1) 193 [.mref 15 A]),(14,some<|.box (m 0) 197 [.mref 8225<|m 1,.mref 8226<|m 3]),(15,some<|.mr A (w 1) 167 4 none<|AK (λ(l:List AC)=>l.map AC.row) a.2.2),(5005,some<|.arr (w 0) 167 4<|a.1.map AC.row),(8225,some<|.mb (m 1) (m 2) 167<|AK AC.row a.2.1),(8226,some<|.md (m 3)<|AK (λ(l:List AG)=>RV.sl<|l.map AG.row) B)]) (λw=>w 2) h1 ⟨(AH [(A+3),A,(A+4)]),wk⟩ R R R R R R R R (λ_ _=>.inl R) (λ_ _=>R) (λ_ _=>R) (λ_ _=>⟨_,R,R,TY _ _ _ _ _⟩) R (λ_ _=>R) ?_ ?_
 ·intro a0 q j1 ag ah w ai aj a7 ak
  obtain⟨J,C,X⟩:=a0
  have h2:Hl B J C X q=some ah:=ai;unfold Hl at h2
  refine aG [3,4,5,20] [4,14,15,20,5005,8225,8226] ?_
  refine Zg<|aU<|sQ R (mE R (.inl R) R R ak aj a7)<|xX R<|xX R<|mA R<|mA R<|aZ<|aU<|mM R<|mM R<|sQ R (EQ (ob:=.box _ _ _) R iL fR R)<|lF TH UH R R<|mM R<|sQ R (IT (rd:=(λ(l:List AG)=>RV.sl<|l.map AG.row)) false (.slice none 0 0) [] R underlying195 underlying3 (GC UD) (λ_ _=>.snil) (.inl R) (.inl R) R)<|AE h2 λj E h3=>sQ R (Md R (.inl rfl) R R λ_=>E)<|sQ R (Q5 R Ks (.inl rfl) R R λ_=>E)<|Zj R R (Z5 (a:=j) (a':=(AC.mk j.Item j.Parent j.Place<|(AU B q).getD [])) R KJ (.inl rfl) R R E (.inl rfl) R R)<|aZ<|aT λc9=>aG [3,4,5,7,20] [4,14,15,20,5005,8225,8226] ?_
  refine AE h3 λl2 al h4=>?_
  refine GJ 16 [pO 35<|.mref 15 A,pO 36<|.pk 8225 (m 1) (m 2) (Au C q) 0,pO 37<|.pk 8225 (m 1) (m 2) (Au C q) 0,pO 38<|.pk 8225 (m 1) (m 2) (Au C q) 1,pO 39<|rI<|((AC.mk j.Item j.Parent j.Place<|(AU B q).getD []).Parent),pO 40<|.mref 15 A,pO 41<|.pk 8225 (m 1) (m 2) (Au C q) 0,pO 42<|.pk 8225 (m 1) (m 2) (Au C q) 0,pO 43<|.pk 8225 (m 1) (m 2) (Au C q) 1,pO 44<|rI<|((AC.mk j.Item j.Parent j.Place<|(AU B q).getD []).Parent),pO 45<|.fo 15 A (w 1)<|(AC.mk j.Item j.Parent j.Place<|(AU B q).getD []).Parent,pO 46<|.pk 8225 (m 1) (m 2) (Au C q) 0,pO 47<|.pk 8225 (m 1) (m 2) (Au C q) 0,pO 48<|.agg [rI<|((AC.mk j.Item j.Parent j.Place<|(AU B q).getD []).Item),rI<|((AC.mk j.Item j.Parent j.Place<|(AU B q).getD []).Parent),.r<|.str<|(AC.mk j.Item j.Parent j.Place<|(AU B q).getD []).Place,.r<|.sl<|((AC.mk j.Item j.Parent j.Place<|(AU B q).getD []).Attrs).map AG.row],⟨some 49,(λI=>.own 49<|I 14),some (49,(λI=>some<|.arr (I 14) 167 4<|[(AC.mk j.Item j.Parent j.Place<|(AU B q).getD [])].map AC.row)),[14]⟩,⟨some 50,(λI=>.fo 15 A (I 15)<|(AC.mk j.Item j.Parent j.Place<|(AU B q).getD []).Parent),some (15,(λI=>some<|.mr A (I 15) 167 4 (some (Au X<|(AC.mk j.Item j.Parent j.Place<|(AU B q).getD []).Parent,(AU X<|(AC.mk j.Item j.Parent j.Place<|(AU B q).getD []).Parent).isNone))<|AK (λ(l:List AC)=>l.map AC.row)<|Ah X ((AC.mk j.Item j.Parent j.Place<|(AU B q).getD []).Parent) l2)),[15]⟩] BM (by kernel_rfl) (by exact⟨λ_ _ h=>⟨R,λ_ _ e=>by cases e⟩,λ_ _ h=>⟨R,λ_ _ e=>by cases e⟩,λ_ _ h=>⟨R,λ_ _ e=>by cases e⟩,λ_ _ h=>⟨R,λ_ _ e=>by cases e⟩,λ_ _ h=>⟨R,λ_ _ e=>by cases e⟩,λ_ _ h=>⟨R,λ_ _ e=>by cases e⟩,λ_ _ h=>⟨R,λ_ _ e=>by cases e⟩,λ_ _ h=>⟨R,λ_ _ e=>by cases e⟩,λ_ _ h=>⟨R,λ_ _ e=>by cases e⟩,λ_ _ h=>⟨R,λ_ _ e=>by cases e⟩,λ_ _ h=>⟨R,λ_ _ e=>by cases e⟩,λ_ _ h=>⟨R,λ_ _ e=>by cases e⟩,λ_ _ h=>⟨R,λ_ _ e=>by cases e⟩,λ_ _ h=>⟨R,λ_ _ e=>by cases e⟩,λ_ _ h=>⟨by simp only[h 14 R],λ_ _ e=>by cases e;simp only[h 14 R]⟩,λ_ _ h=>⟨by simp only[h 15 R],λ_ _ e=>by cases e;simp only[h 15 R]⟩,Za⟩) R (by exact⟨oB [(4,.ptr 4 (A+1) 0 0)] [(4,some<|.box (A+1) 193 [.mref 15 A])]<|AY (a:=.mref 15 A) R Qx (.inl R) R R,oB [(7,.pk 8225 (m 1) (m 2) (Au C q) 0)] [(8225,some<|.mb (m 1) (m 2) 167<|AK AC.row<|Ah C q<|AC.mk j.Item j.Parent j.Place<|(AU B q).getD [])]<|AM R<|.inl R,oB [(36,.pk 8225 (m 1) (m 2) (Au C q) 0)] [(8225,some<|.mb (m 1) (m 2) 167<|AK AC.row<|Ah C q<|AC.mk j.Item j.Parent j.Place<|(AU B q).getD [])]<|Md R (.inl R) R (by rw[HY E]) λ_=>HT _ _ _,oB [(37,.pk 8225 (m 1) (m 2) (Au C q) 0)] [(8225,some<|.mb (m 1) (m 2) 167<|AK AC.row<|Ah C q<|AC.mk j.Item j.Parent j.Place<|(AU B q).getD [])]<|Q5 R Lj (.inl R) R (by rw[HY E]) λ_=>HT _ _ _,oB [(38,.pk 8225 (m 1) (m 2) (Au C q) 1)] [(8225,some<|.mb (m 1) (m 2) 167<|AK AC.row<|Ah C q<|AC.mk j.Item j.Parent j.Place<|(AU B q).getD [])]<|TT (a:=(AC.mk j.Item j.Parent j.Place<|(AU B q).getD [])) (d:=.int .i64<|(AC.mk j.Item j.Parent j.Place<|(AU B q).getD []).Parent) R AI (.inl R) R (by rw[HY E]) (λ_=>HT _ _ _) R,oB [(4,.ptr 4 (A+1) 0 0)] [(4,some<|.box (A+1) 193 [.mref 15 A])]<|AY (a:=.mref 15 A) R Qx (.inl R) R R,oB [(7,.pk 8225 (m 1) (m 2) (Au C q) 0)] [(8225,some<|.mb (m 1) (m 2) 167<|AK AC.row<|Ah C q<|AC.mk j.Item j.Parent j.Place<|(AU B q).getD [])]<|AM R<|.inl R,oB [(41,.pk 8225 (m 1) (m 2) (Au C q) 0)] [(8225,some<|.mb (m 1) (m 2) 167<|AK AC.row<|Ah C q<|AC.mk j.Item j.Parent j.Place<|(AU B q).getD [])]<|Md R (.inl R) R (by rw[HY E]) λ_=>HT _ _ _,oB [(42,.pk 8225 (m 1) (m 2) (Au C q) 0)] [(8225,some<|.mb (m 1) (m 2) 167<|AK AC.row<|Ah C q<|AC.mk j.Item j.Parent j.Place<|(AU B q).getD [])]<|Q5 R Lj (.inl R) R (by rw[HY E]) λ_=>HT _ _ _,oB [(43,.pk 8225 (m 1) (m 2) (Au C q) 1)] [(8225,some<|.mb (m 1) (m 2) 167<|AK AC.row<|Ah C q<|AC.mk j.Item j.Parent j.Place<|(AU B q).getD [])]<|TT (a:=(AC.mk j.Item j.Parent j.Place<|(AU B q).getD [])) (d:=.int .i64<|(AC.mk j.Item j.Parent j.Place<|(AU B q).getD []).Parent) R AI (.inl R) R (by rw[HY E]) (λ_=>HT _ _ _) R,oB [(40,.mref 15 A),(44,rI<|((AC.mk j.Item j.Parent j.Place<|(AU B q).getD []).Parent))] [(15,some<|.mr A (w 1) 167 4 none<|AK (λ(l:List AC)=>l.map AC.row) X)]<|SR R underlying193 underlying3 (GC Qd) (.inl R) (.inl R) R,oB [(7,.pk 8225 (m 1) (m 2) (Au C q) 0)] [(8225,some<|.mb (m 1) (m 2) 167<|AK AC.row<|Ah C q<|AC.mk j.Item j.Parent j.Place<|(AU B q).getD [])]<|AM R<|.inl R,oB [(46,.pk 8225 (m 1) (m 2) (Au C q) 0)] [(8225,some<|.mb (m 1) (m 2) 167<|AK AC.row<|Ah C q<|AC.mk j.Item j.Parent j.Place<|(AU B q).getD [])]<|Md R (.inl R) R (by rw[HY E]) λ_=>HT _ _ _,oB [(47,.pk 8225 (m 1) (m 2) (Au C q) 0)] [(8225,some<|.mb (m 1) (m 2) 167<|AK AC.row<|Ah C q<|AC.mk j.Item j.Parent j.Place<|(AU B q).getD [])]<|U7 (a:=(AC.mk j.Item j.Parent j.Place<|(AU B q).getD [])) (cs:=[rI<|((AC.mk j.Item j.Parent j.Place<|(AU B q).getD []).Item),rI<|((AC.mk j.Item j.Parent j.Place<|(AU B q).getD []).Parent),.r<|.str<|(AC.mk j.Item j.Parent j.Place<|(AU B q).getD []).Place,.r<|.sl<|((AC.mk j.Item j.Parent j.Place<|(AU B q).getD []).Attrs).map AG.row]) R Gz (.inl R) R (by rw[HY E]) (λ_=>HT _ _ _) R R,oM (λ_=>[(48,.agg [rI<|((AC.mk j.Item j.Parent j.Place<|(AU B q).getD []).Item),rI<|((AC.mk j.Item j.Parent j.Place<|(AU B q).getD []).Parent),.r<|.str<|(AC.mk j.Item j.Parent j.Place<|(AU B q).getD []).Place,.r<|.sl<|((AC.mk j.Item j.Parent j.Place<|(AU B q).getD []).Attrs).map AG.row])]) (λ_=>[]) R λI e h' n=>Bj 49 R BX (f:=AC.row) (l:=([(AC.mk j.Item j.Parent j.Place<|(AU B q).getD [])]:List AC)) ⟨R,⟨_,(.inl R),R⟩,Za⟩ R (λ_=>R) R,oM (λI=>[(45,.fo 15 A (w 1)<|(AC.mk j.Item j.Parent j.Place<|(AU B q).getD []).Parent),(49,.own 49<|I 14)]) (λI=>[(15,some<|.mr A (w 1) 167 4 none<|AK (λ(l:List AC)=>l.map AC.row) X),(49,some<|.arr (I 14) 167 4<|[(AC.mk j.Item j.Parent j.Place<|(AU B q).getD [])].map AC.row)]) R λI e h' n=>ZN (ys:=[(AC.mk j.Item j.Parent j.Place<|(AU B q).getD [])]) R BX (.inl R) R (.inr<|.inl ⟨_,_,_,(.inl R),R⟩) R al,Za⟩) λI n2=>?_
  refine BZ [3,4,5,7,20,35,36,37,38,39,40,41,42,43,44,46,47,48,49,50] [4,14,15,20,49,5005,8225,8226] ?_
  refine Zj R R (kh (.inl rfl) underlying193 underlying3 (.inl rfl) (.inl rfl) (.inl rfl) R)<|aZ<|c9 _<|aG [3,4,5,7,20] [4,14,15,20,5005,8225,8226] ?_
  refine aR<|mM R<|mM R ?_
  refine sQ R (Md R (.inl rfl) R (by rw[HY E]) λ_=>HT _ _ _) ?_
  refine sQ R (U7 (a:=(AC.mk j.Item j.Parent j.Place<|(AU B q).getD [])) (cs:=[rI<|((AC.mk j.Item j.Parent j.Place<|(AU B q).getD []).Item),rI<|((AC.mk j.Item j.Parent j.Place<|(AU B q).getD []).Parent),.r<|.str<|(AC.mk j.Item j.Parent j.Place<|(AU B q).getD []).Place,.r<|.sl<|((AC.mk j.Item j.Parent j.Place<|(AU B q).getD []).Attrs).map AG.row]) R Gz (.inl rfl) R (by rw[HY E]) (λ_=>HT _ _ _) R R) ?_
  refine sS R (Bj 55 R BX (f:=AC.row) (l:=([(AC.mk j.Item j.Parent j.Place<|(AU B q).getD [])]:List AC)) ⟨R,⟨_,iL,R⟩,Za⟩ R (λ_=>R) R)<|AE h4 λa8 a1 h5=>sS R (Cj R BX iL R (.inr<|.inl ⟨_,_,iL,R⟩) a1)<|mA R<|Zh ?_
  show Exit.normal=Exit.normal∧∃i':Nat→Nat,Am _ _
  have aa:=Zf h5;subst aa
  exact⟨R,(AH [(n2+1),(I 15),(n2+2)]),(Zv (show Am _ ⟨[(3,.ptr 14 (m 0) 0 0),(4,.ptr 4 (A+1) 0 0),(5,.own 5005<|n2+1),(20,.ptr 20 (A+2) 0 0)],[(4,some<|.box (A+1) 193 [.mref 15 A]),(14,some<|.box (m 0) 197 [.mref 8225<|m 1,.mref 8226<|m 3]),(15,some<|.mr A (I 15) 167 4 none<|AK (λ(l:List AC)=>l.map AC.row)<|Ah X ((AC.mk j.Item j.Parent j.Place<|(AU B q).getD []).Parent) l2),(20,some (.mj (A+2) 8225 (m 1) ((w1.map (·.1)).length)<|ag++[j1])),(5005,some<|.arr (n2+1) 167 4<|a8.map AC.row),(8225,some<|.mb (m 1) (m 2) 167<|AK AC.row<|Ah C q<|AC.mk j.Item j.Parent j.Place<|(AU B q).getD []),(8226,some<|.md (m 3)<|AK (λ(l:List AG)=>RV.sl<|l.map AG.row) B)],(n2+2),80⟩ from wk) wk)⟩
 intro a0 w an
 obtain⟨J,C,X⟩:=a0
 have h6:=iz an
 refine c5 _<|aU<|sS R (BI (cs:=[cZ]) 8 R Qd R R)<|aZ<|aU<|sS R (Ld RV.bool 57 R)<|sS R (BI (cs:=[.cst<|.map none]) 9 R Xb R R)<|Zj R R (A5 (ds:=[.mref 57<|(w 2)+1]) R Ye iL R iL R R R R)<|aZ<|aU<|sS R (BI (cs:=[.cst<|.nilFunc]) 10 R fg R R)<|aZ<|aT λao=>aR ?_
 refine sQ R (KX (bs:=[.ptr 4 (A+1) 0 0,.ptr 8 (w 2) 0 0,.ptr 9 ((w 2)+2) 0 0,.ptr 10 ((w 2)+3) 0 0]) R<|by exact⟨iL,iL,iL,iL,Za⟩) ?_
 refine Zj R R (A5 (ds:=[.fn 165 [.ptr 4 (A+1) 0 0,.ptr 8 (w 2) 0 0,.ptr 9 ((w 2)+2) 0 0,.ptr 10 ((w 2)+3) 0 0]]) R dV iL R iL R R R R)<|aZ<|ao _<|aT λaq=>aR<|sQ R (AY (a:=.fn 165 [.ptr 4 (A+1) 0 0,.ptr 8 (w 2) 0 0,.ptr 9 ((w 2)+2) 0 0,.ptr 10 ((w 2)+3) 0 0]) R YE iL R R) ?_
 refine AS.weak (Zv (Ue 8 0 3080 167 4 (by decide) R R<|by decide)<|by exact Am.cv (e':=[(3,.ptr 14 (m 0) 0 0),(4,.ptr 4 (A+1) 0 0),(5,.own 5005<|w 0),(8,.ptr 8 (w 2) 0 0),(9,.ptr 9 ((w 2)+2) 0 0),(10,.ptr 10 ((w 2)+3) 0 0),(57,.mref 57<|(w 2)+1),(58,.fn 165 [.ptr 4 (A+1) 0 0,.ptr 8 (w 2) 0 0,.ptr 9 ((w 2)+2) 0 0,.ptr 10 ((w 2)+3) 0 0]),(59,.fn 165 [.ptr 4 (A+1) 0 0,.ptr 8 (w 2) 0 0,.ptr 9 ((w 2)+2) 0 0,.ptr 10 ((w 2)+3) 0 0])]) (h':=[(4,some<|.box (A+1) 193 [.mref 15 A]),(8,some<|.box (w 2) 162 [.own 3080<|(w 2)+4]),(9,some<|.box ((w 2)+2) 94 [.mref 57<|(w 2)+1]),(10,some<|.box ((w 2)+3) 199 [.fn 165 [.ptr 4 (A+1) 0 0,.ptr 8 (w 2) 0 0,.ptr 9 ((w 2)+2) 0 0,.ptr 10 ((w 2)+3) 0 0]]),(14,some<|.box (m 0) 197 [.mref 8225<|m 1,.mref 8226<|m 3]),(15,some<|.mr A (w 1) 167 4 none<|AK (λ(l:List AC)=>l.map AC.row) X),(57,some<|.md ((w 2)+1)<|AK RV.bool ([]:List (Int × Bool))),(3080,some<|.arr ((w 2)+4) 167 4<|([]:List AC).map AC.row),(5005,some<|.arr (w 0) 167 4<|J.map AC.row),(8225,some<|.mb (m 1) (m 2) 167<|AK AC.row C),(8226,some<|.md (m 3)<|AK (λ(l:List AG)=>RV.sl<|l.map AG.row) B)]) ⟨jL,jL,jL,jL,jL,jL,jL,jL,jL,Za⟩ ⟨.inl R,.inl R,.inl R,.inl R,.inl R,.inl R,.inl R,.inl R,.inl R,.inl R,.inl R,Za⟩ nL) ?_
 refine Ih h6 λw3 w4 w5 ar h7=>?_
 refine Zy [4,15,8,3080,9,57,10] (hc:=[(1000,some<|.box (A+1) 193 [.mref 1001 A]),(1001,some<|.mr A (w 1) 167 4 none<|AK (λ(l:List AC)=>l.map AC.row) X),(1002,some<|.box (w 2) 162 [.own 1003<|(w 2)+4]),(1003,some<|.arr ((w 2)+4) 167 4<|([]:List AC).map AC.row),(1004,some<|.box ((w 2)+2) 94 [.mref 1005<|(w 2)+1]),(1005,some<|.md ((w 2)+1)<|AK RV.bool ([]:List (Int × Bool))),(1006,some<|.box ((w 2)+3) 199 [.fn 165 [.ptr 1000 (A+1) 0 0,.ptr 1002 (w 2) 0 0,.ptr 1004 ((w 2)+2) 0 0,.ptr 1006 ((w 2)+3) 0 0]])]) (bs:=[rI 0]) (caps:=[.ptr 1000 (A+1) 0 0,.ptr 1002 (w 2) 0 0,.ptr 1004 ((w 2)+2) 0 0,.ptr 1006 ((w 2)+3) 0 0]) R R R R iL R ⟨.inl ⟨iL,R⟩,Za⟩ ⟨R,R,R,R,R,R,R,R,R,R,R,R,R,R,R,R,R,R,R,R,R,Za⟩ (by decide) (kN ar) ?_
 intro i6 n3
 refine BZ [3,4,5,8,9,10,57,58,59,60] [4,8,9,10,14,15,57,3080,5005,8225,8226] ?_
 refine aZ<|aq _<|aT λau=>aR<|mM R<|AE h7 λw6 av h8=>?_
 refine Zy [5005] (hc:=[(1000,some<|.arr (w 0) 167 4<|J.map AC.row)]) (bs:=[.own 1000<|w 0,.fn 169 []]) (caps:=[]) R R R R iL R ⟨.inl ⟨iL,R⟩,.inl ⟨iL,R⟩,Za⟩ ⟨R,R,R,Za⟩ (by decide) ((qj (row:=AC.row) XY (by decide) (λ_=>R) ⟨_,func169,R,R⟩ λ_ _ _ h=>fS h) av) ?_
 intro i7 n4
 refine BZ [3,4,5,8,9,10,57,58,59,60,61,62] [4,8,9,10,14,15,57,3080,5005,8225,8226] ?_
 refine aZ<|au _<|aS λaw ax ab=>aT λay=>aG [5,8,9] [8,9,57,3080,5005] ?_
 refine aR<|mM R<|sQ R (MY R BX.slice iL R)<|mM R<|aZ<|ay _<|Zg<|BV h8 λo1 ac az=>?_
 have J1:∀(O:List AC) (T:NN),o1=O→aw ⟨[(8,.ptr 8 (w 2) 0 0)],[(8,some<|.box (w 2) 162 [.own 3080<|T 0]),(3080,some<|.arr (T 0) 167 4<|O.map AC.row)],(T 1),80⟩:=by
  intro O T e
  have h9:=az _ e
  exact ax _<|aU<|sQ R (AY (a:=.own 3080<|T 0) R UP iL R R)<|mA R<|aZ<|Zl<|Cg (P:=prog) (λ(r:(List AC))=>qg r) h9 iL<|.t<|.one<|.own R
 refine Cs (λ(x3:Int) (U:List AC) F=>⟨[(8,.ptr 8 (w 2) 0 0),(9,.ptr 9 ((w 2)+2) 0 0),(63,.own 5005<|w 0),(64,rL w6),(65,rI x3)],[(8,some<|.box (w 2) 162 [.own 3080<|F 0]),(9,some<|.box ((w 2)+2) 94 [.mref 57<|(w 2)+1]),(57,some<|.md ((w 2)+1)<|AK RV.bool w5),(3080,some<|.arr (F 0) 167 4<|U.map AC.row),(5005,some<|.arr (w 0) 167 4<|w6.map AC.row)],(F 1),80⟩) (AH [(i6 0),n4]) ac wk ?_
 intro x3 U F v1 b0 b4
 have ad:IE w5 w6 x3 U=some v1:=b0;unfold IE at ad
 refine aU<|xS R<|aZ<|aT λb5=>cI R ad (λa2=>?_) λa2=>?_
 ·refine Zc<|b5 _<|aS λb6 b7 Z=>Zg<|BV a2 λp1 b8 b9=>?_
  have J2:∀(V:List AC) (M:NN),p1=V→b6 ⟨[(8,.ptr 8 (w 2) 0 0),(9,.ptr 9 ((w 2)+2) 0 0),(63,.own 5005<|w 0),(64,rL w6),(65,rI x3)],[(8,some<|.box (w 2) 162 [.own 3080<|M 0]),(9,some<|.box ((w 2)+2) 94 [.mref 57<|(w 2)+1]),(57,some<|.md ((w 2)+1)<|AK RV.bool w5),(3080,some<|.arr (M 0) 167 4<|V.map AC.row),(5005,some<|.arr (w 0) 167 4<|w6.map AC.row)],(M 1),80⟩:=by
   intro V M e
   have ba:=b9 _ e
   exact b7 _<|aR<|AE ba λx5 bb bc=>xA R bb<|mM R<|Zh<|ZJ bc (AH [(M 0),(M 1)]) wk
  refine aU<|AE b8 λx6 ae bd=>sQ R (Gv R BX.slice iL R iL λ_=>ae)<|sQ R (YQ (cs:=(CT x6)) R Gz iL fR (λ_=>ae) R)<|sS R (BI (cs:=ME) 12 R PI R R)<|Zj R R (A5 (ds:=(CT x6)) R Lu iL R iL R R R R)<|aZ<|aU<|sQ R (AY (a:=.mref 57<|(w 2)+1) R JT iL R R)<|lF Et AI R R<|sQ R (IT (rd:=RV.bool) false (.bool false) false R underlying94 underlying3 (GC NX) (λ_ _=>.bool _) (.inl R) (.inl R) R)<|sQ R (BE R iL)<|aZ<|cI R bd (λa6=>?_) λa6=>?_
  ·exact aR<|sQ R (AY (a:=.own 3080<|F 0) R UP iL R R)<|xC Gz R<|sS R (Bj 76 R BX (f:=AC.row) (l:=([x6]:List AC)) ⟨R,⟨_,iL,R⟩,Za⟩ R (λ_=>R) R)<|AE a6 λl3 be bf=>sS R (Cj R BX iL R (.inr<|.inl ⟨_,_,iL,R⟩) be)<|Zj R R (A5 (ds:=[.own 3080<|(F 1)+2]) R Vq iL R iL R R R R)<|Zh<|Z _ _ wk<|J2 _ (AH [((F 1)+2),((F 1)+3)]) (Zf bf).symm
  exact Zc<|Z _ _ wk<|J2 _ (AH [(F 0),((F 1)+1)]) (Zf a6).symm
 exact Zm<|ab _ _ wk<|J1 _ (AH [(F 0),(F 1)])<|xH b4 a2
theorem jS{i r}(h:O5 i=some r):Aa prog 154 [qg i] (rI r):=by
 unfold O5 at h
 refine mF func154 ntmps154 R λq=>aU<|mA R<|aZ<|aU<|sS R (Ld RV.bool 6 R)<|Zj R R (Je (rd:=RV.bool) (a:=true) (.inr R) underlying94 underlying3 (.inl rfl) (.inl rfl) (.inl rfl) R)<|mM R<|mA R<|aZ<|aS λK3 c3 w=>aU<|mM R<|xL BX R<|mM R<|aZ<|Zg<|BS h λo1 j A B=>?_
 have J1:∀(U:Unit) (V:NN),o1=.nrm U→K3 ⟨[(0,qg i)],[],(V 0),27⟩:=by
  intro U V e
  have h1:=A _ e
  exact c3 _<|aU<|mM R<|xL BX R<|mA R<|aZ<|Zl<|yI h1 R
 refine Cs (λ(C:Int) (m2:List (Int × Bool)) m=>⟨[(0,qg i),(3,.mref 6 q),(8,qg i),(9,rL i),(10,rI C)],[(6,some<|.md q<|AK RV.bool m2)],(m 0),27⟩) (AH [(q+1)]) j wk ?_
 intro C m2 m v1 E l
 have X:Ja i C m2=some v1:=E;unfold Ja at X
 refine aU<|xS R<|aZ<|aT λc7=>cI R X (λF=>?_) λF=>?_
 ·refine Zc<|c7 _<|aT λc8=>Zg<|aU<|mM R<|AE F λZ I h4=>xI BX R I<|xB ((CT Z)) Gz R<|sS R (BI (cs:=ME) 5 R PI R R)<|mA R<|Zj R R (A5 (ds:=(CT Z)) R Lu iL R iL R R R R)<|aZ<|aT λJ=>aU<|mM R<|lF Lj AI R R<|sQ R (IT (rd:=RV.bool) false (.bool false) false R underlying94 underlying3 (GC NX) (λ_ _=>.bool _) (.inl R) (.inl R) R)<|sQ R (BE R iL)<|aZ<|cI R h4 (λM=>?_) λM=>?_
  ·refine aT λO=>aF [4] ?_
   exact aR<|mM R<|mA R<|aZ<|O _<|Zl<|yI (B _<|xH l M) R
  refine Zc<|J _<|aG [0,3,5,8,9,10] [5,6] ?_
  exact aR<|mM R<|lF Et AI R R<|Zj R R (Je (rd:=RV.bool) (a:=true) (.inl rfl) underlying94 underlying3 (.inl rfl) (.inl rfl) (.inl rfl) R)<|aZ<|c8 _<|aR<|AE M λx5 T h6=>xA R T<|mM R<|Zh<|ZJ h6 (AH [((m 0)+1)]) wk
 exact Zm<|w _ _ wk<|J1 _ (AH [(m 0)])<|xH l F
theorem NA{j n r}(h:It j n=some r):Aa prog 29 [qa j,rS n] (rS r):=by
 unfold It at h
 refine mF func29 ntmps29 R λZ=>aU<|mA R<|aZ<|aS λK2 c2 w=>aU<|mM R<|xL BH R<|mM R<|aZ<|Zg<|BS h λo1 l A B=>?_
 have J1:∀(T:Unit) (U:NN),o1=.nrm T→K2 ⟨[],[],(U 0),20⟩:=by
  intro T U e
  have h1:=A _ e
  exact c2 _<|aU<|mA R<|aZ<|Zl<|Cg (P:=prog) (λ(r:(List UInt8))=>rS r) h1 iL<|.t<|.d R
 refine Zu (λ(C:Int) q=>⟨[(1,rS n),(7,qa j),(8,rL j),(9,rI C)],[],(q 0),20⟩) (AH [Z]) l wk ?_
 intro C q v1 E m
 have V:Ng j n C=some v1:=E;unfold Ng at V
 refine aU<|xS R<|aZ<|aT λc6=>cI R V (λF=>?_) λF=>?_
 ·refine Zc<|c6 _<|aT λc7=>Zg<|aU<|AE F λX I h4=>xI BH R I<|xB ((CS X)) En R<|sS R (BI (cs:=[.r<|.str [],.r<|.str []]) 6 R X0 R R)<|Zj R R (A5 (ds:=(CS X)) R VG iL R iL R R R R)<|aZ<|aU<|lF Ek BK R R<|mM R<|sQ R (EZ R iL iL)<|aZ<|cI R h4 (λJ=>?_) λJ=>?_
  ·refine aT λM=>aG [6] [6] ?_
   exact aR<|lF JQ BK R R<|mA R<|aZ<|M _<|Zl<|Cg (P:=prog) (λ(r:(List UInt8))=>rS r) (B _<|xH m J) iL<|.t<|.d R
  exact Zc<|c7 _<|aR<|AE J λx5 O h6=>xA R O<|mM R<|Zh<|Zr h6 (AH [((q 0)+1)]) wk
 exact Zm<|w _ _ wk<|J1 _ (AH [(q 0)])<|xH m F
theorem p9{j r}(h:RG j=some r):Aa prog 155 [rS j] (.tup [rI r.1,.ifc r.2]):=by
 unfold RG at h
 exact Aa.atoiS nM R R R ⟨_,func155,R,R⟩ h
theorem mu{n1 r}(h:strconv_Itoa n1=some r):Aa prog 156 [rI n1] (rS r):=by
 unfold strconv_Itoa at h
 exact Aa.itoaS (g:=XZ) io R (by kernel_rfl) R ⟨_,func156,R,R⟩ h
theorem oL{d1 n1 r}(h:Gh d1 n1=some r):Aa prog 133 [.agg [qb d1.Nodes],.agg<|Ai n1] (.r<|.sl<|r.map<|Ab .i64):=by
 unfold Gh at h
 refine mF func133 ntmps133 R λj=>aU<|sS R (A6 (cs:=[qb d1.Nodes]) 2 R iL R R)<|sS R (A6 (cs:=(Ai n1)) 3 R iL R R)<|mA R<|aZ<|aU<|mA R<|aZ<|aU<|lF Ga HM R R<|AE h λJ U h1=>sS R (Cb (r:=qg J) (caps:=[]) (bs:=[qf n1.Draw]) R iL R ⟨.inl ⟨iL,R⟩,Za⟩ λ_=>gG<|U)<|mA R<|aZ<|aS λK4 c4 V=>aT λc5=>aR<|mM R<|mM R<|AE h1 λr1 X h2=>cL (jS<|X) R<|AE h2 λA Z h3=>?_
 refine sQ R (Tl R BX.slice iL (by exact R) (by exact⟨_,iL⟩) (λ_=>R) λ_=>Z) ?_
 refine xL BX R<|mM R<|aZ<|c5 _<|Zg<|BV h3 λo1 M a0=>?_
 have J1:∀(m:List Int) (O:NN),o1=m→K4 ⟨[(5,.own 5005<|O 0)],[(5005,some<|.arr (O 0) 3 1<|m.map<|Ab .i64)],(O 1),64⟩:=by
  intro m O e
  have h4:=a0 _ e
  exact c4 _<|aU<|mM R<|mA R<|aZ<|Zl<|Cg (P:=prog) (λ(r:(List Int))=>.r<|.sl<|r.map<|Ab .i64) h4 iL<|.t<|.one<|.own R
 refine Cs (λ(T:Int) (q:List Int) l=>⟨[(2,.ptr 2 j 0 0),(5,.own 5005<|l 0),(20,qg A),(21,rL A),(22,rI T)],[(2,some<|.box j 24 [qb d1.Nodes]),(5005,some<|.arr (l 0) 3 1<|q.map<|Ab .i64)],(l 1),64⟩) (AH [(j+2),(j+3)]) M (Zv (Zv (GI 5 5005 3 1 (by decide) R)<|by exact Am.cv (e':=[(0,.agg [qb d1.Nodes]),(1,.agg<|Ai n1),(2,.ptr 2 j 0 0),(3,.ptr 3 (j+1) 0 0),(4,cZ),(5,.own 5005<|j+2),(6,qg J),(14,.ptr 3 (j+1) 0 8),(15,qf n1.Draw),(16,qg J),(17,qg J),(18,qg J),(19,rI r1),(20,qg A),(21,rL A),(22,rI 0)]) (h':=[(2,some<|.box j 24 [qb d1.Nodes]),(3,some<|.box (j+1) 54<|Ai n1),(5005,some<|.arr (j+2) 3 1<|([]:List Int).map<|Ab .i64)]) ⟨jL,jL,jL,jL,jL,jL,jL,jL,jL,jL,jL,jL,jL,jL,jL,jL,Za⟩ ⟨.inl R,.inl R,.inl R,Za⟩ nL) wk) ?_
 intro T q l v1 a1 a2
 have h5:IS d1 A T q=some v1:=a1;unfold IS at h5
 refine aU<|xS R<|aZ<|aT λc8=>cI R h5 (λh6=>?_) λh6=>?_
 ·refine Zc<|c8 _<|aS λK9 c9 B=>Zg<|BV h6 λp1 a6 a7=>?_
  have J2:∀(w:List Int) (I:NN),p1=w→K9 ⟨[(2,.ptr 2 j 0 0),(5,.own 5005<|I 0),(20,qg A),(21,rL A),(22,rI T)],[(2,some<|.box j 24 [qb d1.Nodes]),(5005,some<|.arr (I 0) 3 1<|w.map<|Ab .i64)],(I 1),64⟩:=by
   intro w I e
   have h7:=a7 _ e
   exact c9 _<|aR<|AE h7 λx4 a8 h8=>xA R a8<|mM R<|Zh<|ZJ h8 (AH [(I 0),(I 1)]) wk
  refine aU<|AE a6 λx5 aa h9=>xI BX R aa<|xB ((CT x5)) Gz R<|sS R (BI (cs:=ME) 8 R PI R R)<|Zj R R (A5 (ds:=(CT x5)) R Lu iL R iL R R R R)<|aZ<|aU<|lF Ks CR R R<|AE h9 λs1 ab ac=>cL (NA<|ab) R<|mA R<|aZ<|aU<|mM R<|E4 ac λr2 r3 ad ae=>cL (p9<|ad) R<|mM R<|xX R<|xX R<|mA R<|mA R<|aZ<|aT λaf=>aT λag=>aG [2,5,9,10,11,20,21,22] [2,5005] ?_
  refine aR<|mM R<|sQ R (p6 R fZ iL)<|mM R<|vM R<|AE ae λr4 ah ai=>vL (λhg=>mu<|Ag ah hg) R<|vM R<|vQ R (D1 R (iR R)<|iR R)<|xO R<|aZ<|ag _<|cI R ai (λC=>?_) λC=>?_
  ·exact Zm<|B _ _ wk<|J2 _ (AH [(l 0),((l 1)+1)]) (Zf C).symm
  refine Zc<|af _<|aU<|xC Bz R<|mM R<|E4 C λr5 r6 aj ak=>cL (Qe<|aj) R<|mM R<|xX R<|xX R<|mA R<|mA R<|aZ<|aT λal=>aG [2,5,10,12,13,20,21,22] [2,5005] ?_
  refine aR<|mM R<|mM R<|vF B6 CA R R<|vM R<|AE ak λx6 an ao=>vQ R (A9 R Bh.slice (iR R) (iR R) (λ_=>R)<|Ag an)<|vQ R (BL R CP<|iR R)<|vQ R (Bs (d:=.int .i64 x6.Kind) R AI (iR R) R)<|vQ R (A4 R (iR R) iL)<|xN R<|aZ<|al _<|cI R ao (λE=>?_) λE=>?_
  ·exact aR<|mM R<|mM R<|sS R (Bj 60 R Bi (f:=(Ab .i64)) (l:=([r2]:List Int)) ⟨R,⟨_,iL,R⟩,Za⟩ R (λ_=>R) R)<|AE E λar F aq=>sS R (Cj R Bi iL R (.inr<|.inl ⟨_,_,iL,R⟩) F)<|mA R<|Zh<|B _ _ wk<|J2 _ (AH [((l 1)+2),((l 1)+3)]) (Zf aq).symm
  exact Zc<|B _ _ wk<|J2 _ (AH [(l 0),((l 1)+1)]) (Zf E).symm
 exact Zm<|V _ _ wk<|J1 _ (AH [(l 0),(l 1)])<|xH a2 h6
theorem pN{self:(List (List RV)→Option Bool)→(List<|Int × Bool)→(List<|List RV)→AR→Aq→Option (Bool × (List<|Int × Bool) × (List<|List RV))}(X:∀ {A1:List (List RV)→Option Bool} {m1:List (Int × Bool)} {M:List (List RV)} {E:AR} {v1:Aq} {r:Bool × (List<|Int × Bool) × (List<|List RV)} {m:Nat} {A:Nat} {q:Nat} {w:Nat} {B:Nat} {l:Nat} {j:Nat} {F:E8},self A1 m1 M E v1=some r→(F.P=prog∧F.A=A1)→BC prog 131 7 [.agg<|FX v1,.ptr 1000 m 0 0,.ptr 1002 q 0 0,.ptr 1005 l 0 0,.ptr 1006 j 0 0] [(1000,some<|.box m 94 [.mref 1001 A]),(1001,some<|.md A<|AK RV.bool m1),(1002,some<|.box q 134 [.fn 99 [.ptr 1003 w 0 0]]),(1003,some<|.box w 121 [.yld 1004 B]),(1004,some<|.cal B F M),(1005,some<|.box l 24 [qb E.Nodes]),(1006,some<|.box j 134 [.fn 131 [.ptr 1000 m 0 0,.ptr 1002 q 0 0,.ptr 1005 l 0 0,.ptr 1006 j 0 0]])] (λZ h'=>∃(i:Nat→Nat),Z=rB r.1∧h'=[(1000,some<|.box m 94 [.mref 1001 A]),(1001,some<|.md A<|AK RV.bool r.2.1),(1002,some<|.box q 134 [.fn 99 [.ptr 1003 w 0 0]]),(1003,some<|.box w 121 [.yld 1004 B]),(1004,some<|.cal B F r.2.2),(1005,some<|.box l 24 [qb E.Nodes]),(1006,some<|.box j 134 [.fn 131 [.ptr 1000 m 0 0,.ptr 1002 q 0 0,.ptr 1005 l 0 0,.ptr 1006 j 0 0]])])){A1:List (List RV)→Option Bool}{m1:List (Int × Bool)}{M:List (List RV)}{E:AR}{v1:Aq}{r:Bool × (List<|Int × Bool) × (List<|List RV)}{m:Nat}{A:Nat}{q:Nat}{w:Nat}{B:Nat}{l:Nat}{j:Nat}{F:E8}(h:Ru self A1 m1 M E v1=some r)(hW:(F.P=prog∧F.A=A1)):BC prog 131 7 [.agg<|FX v1,.ptr 1000 m 0 0,.ptr 1002 q 0 0,.ptr 1005 l 0 0,.ptr 1006 j 0 0] [(1000,some<|.box m 94 [.mref 1001 A]),(1001,some<|.md A<|AK RV.bool m1),(1002,some<|.box q 134 [.fn 99 [.ptr 1003 w 0 0]]),(1003,some<|.box w 121 [.yld 1004 B]),(1004,some<|.cal B F M),(1005,some<|.box l 24 [qb E.Nodes]),(1006,some<|.box j 134 [.fn 131 [.ptr 1000 m 0 0,.ptr 1002 q 0 0,.ptr 1005 l 0 0,.ptr 1006 j 0 0]])] (λZ h'=>∃(i:Nat→Nat),Z=rB r.1∧h'=[(1000,some<|.box m 94 [.mref 1001 A]),(1001,some<|.md A<|AK RV.bool r.2.1),(1002,some<|.box q 134 [.fn 99 [.ptr 1003 w 0 0]]),(1003,some<|.box w 121 [.yld 1004 B]),(1004,some<|.cal B F r.2.2),(1005,some<|.box l 24 [qb E.Nodes]),(1006,some<|.box j 134 [.fn 131 [.ptr 1000 m 0 0,.ptr 1002 q 0 0,.ptr 1005 l 0 0,.ptr 1006 j 0 0]])]):=by
 unfold Ru at h
 refine D7 func131 R R ntmps131 (Zs R) λV=>aU<|sS R (A6 (cs:=(FX v1)) 5 R iL R R)<|mA R<|aZ<|aT λc2=>aU<|sQ R (AY (a:=.mref 1001 A) R JT iL R R)<|lF KS AI R R<|sQ R (IT (rd:=RV.bool) false (.bool false) false R underlying94 underlying3 (GC NX) (λ_ _=>.bool _) (.inl R) (.inl R) R)<|aZ<|cI R h (λh1=>?_) λh1=>?_
 ·refine aT λc4=>aG [] [1000,1001,1002,1003,1004,1005,1006] ?_
  refine aR<|mA R<|oZ c4 ?_
  exact Zl<|B8.mk (s':=⟨[(6,rB true)],[(1000,some<|.box m 94 [.mref 1001 A]),(1001,some<|.md A<|AK RV.bool m1),(1002,some<|.box q 134 [.fn 99 [.ptr 1003 w 0 0]]),(1003,some<|.box w 121 [.yld 1004 B]),(1004,some<|.cal B F M),(1005,some<|.box l 24 [qb E.Nodes]),(1006,some<|.box j 134 [.fn 131 [.ptr 1000 m 0 0,.ptr 1002 q 0 0,.ptr 1005 l 0 0,.ptr 1006 j 0 0]])],(V+1),121⟩) wk<|CM (λ(r:Bool × (List<|Int × Bool) × (List<|List RV)) Z h'=>∃(i:Nat→Nat),Z=rB r.1∧h'=[(1000,some<|.box m 94 [.mref 1001 A]),(1001,some<|.md A<|AK RV.bool r.2.1),(1002,some<|.box q 134 [.fn 99 [.ptr 1003 w 0 0]]),(1003,some<|.box w 121 [.yld 1004 B]),(1004,some<|.cal B F r.2.2),(1005,some<|.box l 24 [qb E.Nodes]),(1006,some<|.box j 134 [.fn 131 [.ptr 1000 m 0 0,.ptr 1002 q 0 0,.ptr 1005 l 0 0,.ptr 1006 j 0 0]])]) h1<|by exact⟨rB true,[(1000,some<|.box m 94 [.mref 1001 A]),(1001,some<|.md A<|AK RV.bool m1),(1002,some<|.box q 134 [.fn 99 [.ptr 1003 w 0 0]]),(1003,some<|.box w 121 [.yld 1004 B]),(1004,some<|.cal B F M),(1005,some<|.box l 24 [qb E.Nodes]),(1006,some<|.box j 134 [.fn 131 [.ptr 1000 m 0 0,.ptr 1002 q 0 0,.ptr 1005 l 0 0,.ptr 1006 j 0 0]])],R,⟨.inr R,.inr R,.inr R,.inr R,.inr R,.inr R,.inr R,Za⟩,R,R,AH [],R,R⟩
 refine Zc<|c2 _<|aU<|sQ R (AY (a:=.mref 1001 A) R JT iL R R)<|lF KS AI R R<|Zj R R (Je (rd:=RV.bool) (a:=true) (.inl rfl) underlying94 underlying3 (.inl rfl) (.inl rfl) (.inl rfl) R)<|aZ<|aT λc6=>aT λc7=>aG [2,3,4,5] [5,1000,1001,1002,1003,1004,1005,1006] ?_
 refine aR<|sQ R (AY (a:=.fn 99 [.ptr 1003 w 0 0]) R OK iL R R)<|xC gI R<|E4 h1 λr1 w2 bg h2=>?_
 refine Zy [1003,1004] (hc:=[(1000,some<|.box w 121 [.yld 1001 B]),(1001,some<|.cal B F M)]) (bs:=[.agg<|FX v1]) (caps:=[.ptr 1000 w 0 0]) R R R R iL R ⟨.inl ⟨iL,R⟩,Za⟩ ⟨R,R,R,R,R,R,Za⟩ (by decide) (ea bg hW) ?_
 intro i1 n1
 refine BZ [2,3,4,5,24,25,26] [5,1000,1001,1002,1003,1004,1005,1006] ?_
 refine sQ R (BE R iL)<|aZ<|c7 _<|cI R h2 (λh3=>?_) λh3=>?_
 ·refine aU<|mA R<|aZ ?_
  exact Zl<|B8.mk (s':=⟨[(6,rB false)],[(1000,some<|.box m 94 [.mref 1001 A]),(1001,some<|.md A<|AK RV.bool<|Ah m1 v1.id true),(1002,some<|.box q 134 [.fn 99 [.ptr 1003 w 0 0]]),(1003,some<|.box w 121 [.yld 1004 B]),(1004,some<|.cal B F w2),(1005,some<|.box l 24 [qb E.Nodes]),(1006,some<|.box j 134 [.fn 131 [.ptr 1000 m 0 0,.ptr 1002 q 0 0,.ptr 1005 l 0 0,.ptr 1006 j 0 0]])],n1,121⟩) wk<|CM (λ(r:Bool × (List<|Int × Bool) × (List<|List RV)) Z h'=>∃(i:Nat→Nat),Z=rB r.1∧h'=[(1000,some<|.box m 94 [.mref 1001 A]),(1001,some<|.md A<|AK RV.bool r.2.1),(1002,some<|.box q 134 [.fn 99 [.ptr 1003 w 0 0]]),(1003,some<|.box w 121 [.yld 1004 B]),(1004,some<|.cal B F r.2.2),(1005,some<|.box l 24 [qb E.Nodes]),(1006,some<|.box j 134 [.fn 131 [.ptr 1000 m 0 0,.ptr 1002 q 0 0,.ptr 1005 l 0 0,.ptr 1006 j 0 0]])]) h3<|by exact⟨rB false,[(1000,some<|.box m 94 [.mref 1001 A]),(1001,some<|.md A<|AK RV.bool<|Ah m1 v1.id true),(1002,some<|.box q 134 [.fn 99 [.ptr 1003 w 0 0]]),(1003,some<|.box w 121 [.yld 1004 B]),(1004,some<|.cal B F w2),(1005,some<|.box l 24 [qb E.Nodes]),(1006,some<|.box j 134 [.fn 131 [.ptr 1000 m 0 0,.ptr 1002 q 0 0,.ptr 1005 l 0 0,.ptr 1006 j 0 0]])],R,⟨.inr R,.inr R,.inr R,.inr R,.inr R,.inr R,.inr R,Za⟩,R,R,AH [],R,R⟩
 refine Zc<|c6 _<|aU<|xC Bz R<|lF KS AI R R<|E4 h3 λr2 r3 bh h4=>cL (Qe<|bh) R<|mM R<|xX R<|xX R<|mA R<|mA R<|aZ<|aT λbi=>aG [3,4,5,7] [5,1000,1001,1002,1003,1004,1005,1006] ?_
 refine aR<|lF B6 CA R R<|mM R<|AE h4 λJ bj h5=>xI Bh R bj<|xB ((Ai J)) C0 R<|sS R (BI (cs:=EC) 9 R Gq R R)<|Zj R R (A5 (ds:=(Ai J)) R GY iL R iL R R R R)<|aZ<|bi _<|aS λbk bl au=>aU<|lF Dk D0 R R<|AE h5 λr4 bm h6=>sS R (Cb (r:=.r<|.sl<|r4.map<|Ab .i64) (caps:=[]) (bs:=[qe J.Flow]) R iL R ⟨.inl ⟨iL,R⟩,Za⟩ λ_=>hO<|bm)<|xL Bi R<|mM R<|aZ<|Zg<|SW h6 λo1 av bn bo=>?_
 have J1:∀(m5:List (Int × Bool)) (ac:List (List RV)) (i6:NN),o1=.nrm (m5,ac)→bk ⟨[(3,.ptr 1005 l 0 0),(4,.ptr 1006 j 0 0),(5,.ptr 5 V 0 0),(9,.ptr 9 n1 0 0)],[(5,some<|.box V 133<|FX v1),(9,some<|.box n1 54<|Ai J),(1000,some<|.box m 94 [.mref 1001 A]),(1001,some<|.md A<|AK RV.bool m5),(1002,some<|.box q 134 [.fn 99 [.ptr 1003 w 0 0]]),(1003,some<|.box w 121 [.yld 1004 B]),(1004,some<|.cal B F ac),(1005,some<|.box l 24 [qb E.Nodes]),(1006,some<|.box j 134 [.fn 131 [.ptr 1000 m 0 0,.ptr 1002 q 0 0,.ptr 1005 l 0 0,.ptr 1006 j 0 0]])],(i6 0),121⟩:=by
  intro m5 ac i6 e
  have h7:=bn _ _ e
  refine bl _<|aS λbp bq aw=>aU<|sQ R (fB R DS iL fR R)<|lF DX Dc R R<|xL Bx R<|mM R<|aZ<|Zg<|SW h7 λo2 ax br bs=>?_
  have J2:∀(m9:List (Int × Bool)) (ad:List (List RV)) (ae:NN),o2=.nrm (m9,ad)→bp ⟨[(3,.ptr 1005 l 0 0),(4,.ptr 1006 j 0 0),(5,.ptr 5 V 0 0),(9,.ptr 9 n1 0 0)],[(5,some<|.box V 133<|FX v1),(9,some<|.box n1 54<|Ai J),(1000,some<|.box m 94 [.mref 1001 A]),(1001,some<|.md A<|AK RV.bool m9),(1002,some<|.box q 134 [.fn 99 [.ptr 1003 w 0 0]]),(1003,some<|.box w 121 [.yld 1004 B]),(1004,some<|.cal B F ad),(1005,some<|.box l 24 [qb E.Nodes]),(1006,some<|.box j 134 [.fn 131 [.ptr 1000 m 0 0,.ptr 1002 q 0 0,.ptr 1005 l 0 0,.ptr 1006 j 0 0]])],(ae 0),121⟩:=by
   intro m9 ad ae e
   have h8:=br _ _ e
   refine bq _<|aS λbt bu ay=>aU<|xC Bz R<|xC C0 R<|AE h8 λr5 bv h9=>sS R (Cb (r:=.r<|.sl<|r5.map<|Ab .i64) (caps:=[]) (bs:=[.agg [qb E.Nodes],.agg<|Ai J]) R iL R ⟨.inl ⟨iL,R⟩,.inl ⟨iL,R⟩,Za⟩ λ_=>oL<|bv)<|xL Bi R<|mM R<|aZ<|Zg<|SW h9 λo3 az bw bx=>?_
   have J3:∀(a1:List (Int × Bool)) (O:List (List RV)) (i16:NN),o3=.nrm (a1,O)→bt ⟨[],[(1000,some<|.box m 94 [.mref 1001 A]),(1001,some<|.md A<|AK RV.bool a1),(1002,some<|.box q 134 [.fn 99 [.ptr 1003 w 0 0]]),(1003,some<|.box w 121 [.yld 1004 B]),(1004,some<|.cal B F O),(1005,some<|.box l 24 [qb E.Nodes]),(1006,some<|.box j 134 [.fn 131 [.ptr 1000 m 0 0,.ptr 1002 q 0 0,.ptr 1005 l 0 0,.ptr 1006 j 0 0]])],(i16 0),121⟩:=by
    intro a1 O i16 e
    have bz:=bw _ _ e
    refine bu _<|aU<|mA R<|aZ ?_
    exact Zl<|B8.mk (s':=⟨[(6,rB true)],[(1000,some<|.box m 94 [.mref 1001 A]),(1001,some<|.md A<|AK RV.bool a1),(1002,some<|.box q 134 [.fn 99 [.ptr 1003 w 0 0]]),(1003,some<|.box w 121 [.yld 1004 B]),(1004,some<|.cal B F O),(1005,some<|.box l 24 [qb E.Nodes]),(1006,some<|.box j 134 [.fn 131 [.ptr 1000 m 0 0,.ptr 1002 q 0 0,.ptr 1005 l 0 0,.ptr 1006 j 0 0]])],(i16 0),121⟩) wk<|CM (λ(r:Bool × (List<|Int × Bool) × (List<|List RV)) Z h'=>∃(i:Nat→Nat),Z=rB r.1∧h'=[(1000,some<|.box m 94 [.mref 1001 A]),(1001,some<|.md A<|AK RV.bool r.2.1),(1002,some<|.box q 134 [.fn 99 [.ptr 1003 w 0 0]]),(1003,some<|.box w 121 [.yld 1004 B]),(1004,some<|.cal B F r.2.2),(1005,some<|.box l 24 [qb E.Nodes]),(1006,some<|.box j 134 [.fn 131 [.ptr 1000 m 0 0,.ptr 1002 q 0 0,.ptr 1005 l 0 0,.ptr 1006 j 0 0]])]) bz<|by exact⟨rB true,[(1000,some<|.box m 94 [.mref 1001 A]),(1001,some<|.md A<|AK RV.bool a1),(1002,some<|.box q 134 [.fn 99 [.ptr 1003 w 0 0]]),(1003,some<|.box w 121 [.yld 1004 B]),(1004,some<|.cal B F O),(1005,some<|.box l 24 [qb E.Nodes]),(1006,some<|.box j 134 [.fn 131 [.ptr 1000 m 0 0,.ptr 1002 q 0 0,.ptr 1005 l 0 0,.ptr 1006 j 0 0]])],R,⟨.inr R,.inr R,.inr R,.inr R,.inr R,.inr R,.inr R,Za⟩,R,R,AH [],R,R⟩
   refine Jn (λ(x9:Int) (a6:List (Int × Bool)) (a0:List (List RV)) af=>⟨[(4,.ptr 1006 j 0 0),(5,.ptr 5 V 0 0),(105,.r<|.sl<|r5.map<|Ab .i64),(106,rL r5),(107,rI x9)],[(5,some<|.box V 133<|FX v1),(1000,some<|.box m 94 [.mref 1001 A]),(1001,some<|.md A<|AK RV.bool a6),(1002,some<|.box q 134 [.fn 99 [.ptr 1003 w 0 0]]),(1003,some<|.box w 121 [.yld 1004 B]),(1004,some<|.cal B F a0),(1005,some<|.box l 24 [qb E.Nodes]),(1006,some<|.box j 134 [.fn 131 [.ptr 1000 m 0 0,.ptr 1002 q 0 0,.ptr 1005 l 0 0,.ptr 1006 j 0 0]])],(af 0),121⟩) (AH [(ae 0)]) az wk ?_
   intro x9 a6 a0 af v2 c0 b0
   have b4:Sr A1 E v1 self r5 x9 a6 a0=some v2:=c0;unfold Sr at b4
   refine aU<|xS R<|aZ<|aT λc3=>cI R b4 (λag=>?_) λag=>?_
   ·refine Zc<|c3 _<|aT λc5=>Zg<|aU<|AE ag λah b5 c8=>xI Bi R b5<|xV (.int .i64 ah) AI R<|mA R<|aZ<|aT λc9=>aR<|sQ R (AY (a:=.fn 131 [.ptr 1000 m 0 0,.ptr 1002 q 0 0,.ptr 1005 l 0 0,.ptr 1006 j 0 0]) R OK iL R R)<|mM R<|lF KS AI R R<|lF TU Mm R R ?_
    refine sQ R (Bu R RR (q:=[(0,_),(1,_),(2,_)]) (by exact⟨R,R,R,iL,R,R,R,iL,R,R,R,iL,Za⟩) (cs:=[rI ah,rI v1.id,rB v1.visible])<|by rfl) ?_
    refine Ih c8 λr6 w3 w4 ca cb=>?_
    refine Zy [1000,1001,1002,1003,1004,1005,1006] (hc:=[(1000,some<|.box m 94 [.mref 1001 A]),(1001,some<|.md A<|AK RV.bool a6),(1002,some<|.box q 134 [.fn 99 [.ptr 1003 w 0 0]]),(1003,some<|.box w 121 [.yld 1004 B]),(1004,some<|.cal B F a0),(1005,some<|.box l 24 [qb E.Nodes]),(1006,some<|.box j 134 [.fn 131 [.ptr 1000 m 0 0,.ptr 1002 q 0 0,.ptr 1005 l 0 0,.ptr 1006 j 0 0]])]) (bs:=[.agg [rI ah,rI v1.id,rB v1.visible]]) (caps:=[.ptr 1000 m 0 0,.ptr 1002 q 0 0,.ptr 1005 l 0 0,.ptr 1006 j 0 0]) R R R R iL R ⟨.inl ⟨iL,R⟩,Za⟩ ⟨R,R,R,R,R,R,R,R,R,R,R,R,R,R,R,R,R,R,R,R,R,Za⟩ (by decide) (X ca hW) ?_
    intro d3 n2
    refine BZ [4,5,16,105,106,107,108,109,110,111,112,113,114,115,116,117,118] [5,1000,1001,1002,1003,1004,1005,1006] ?_
    refine sQ R (BE R iL)<|aZ<|c9 _<|cI R cb (λai=>?_) λai=>?_
    ·refine aT λcc=>aG [] [1000,1001,1002,1003,1004,1005,1006] ?_
     refine aR<|mA R<|oZ cc ?_
     exact Zl<|B8.mk (s':=⟨[(6,rB false)],[(1000,some<|.box m 94 [.mref 1001 A]),(1001,some<|.md A<|AK RV.bool w3),(1002,some<|.box q 134 [.fn 99 [.ptr 1003 w 0 0]]),(1003,some<|.box w 121 [.yld 1004 B]),(1004,some<|.cal B F w4),(1005,some<|.box l 24 [qb E.Nodes]),(1006,some<|.box j 134 [.fn 131 [.ptr 1000 m 0 0,.ptr 1002 q 0 0,.ptr 1005 l 0 0,.ptr 1006 j 0 0]])],n2,121⟩) wk<|CM (λ(r:Bool × (List<|Int × Bool) × (List<|List RV)) Z h'=>∃(i:Nat→Nat),Z=rB r.1∧h'=[(1000,some<|.box m 94 [.mref 1001 A]),(1001,some<|.md A<|AK RV.bool r.2.1),(1002,some<|.box q 134 [.fn 99 [.ptr 1003 w 0 0]]),(1003,some<|.box w 121 [.yld 1004 B]),(1004,some<|.cal B F r.2.2),(1005,some<|.box l 24 [qb E.Nodes]),(1006,some<|.box j 134 [.fn 131 [.ptr 1000 m 0 0,.ptr 1002 q 0 0,.ptr 1005 l 0 0,.ptr 1006 j 0 0]])]) (bx _<|xH b0 ai)<|by exact⟨rB false,[(1000,some<|.box m 94 [.mref 1001 A]),(1001,some<|.md A<|AK RV.bool w3),(1002,some<|.box q 134 [.fn 99 [.ptr 1003 w 0 0]]),(1003,some<|.box w 121 [.yld 1004 B]),(1004,some<|.cal B F w4),(1005,some<|.box l 24 [qb E.Nodes]),(1006,some<|.box j 134 [.fn 131 [.ptr 1000 m 0 0,.ptr 1002 q 0 0,.ptr 1005 l 0 0,.ptr 1006 j 0 0]])],R,⟨.inr R,.inr R,.inr R,.inr R,.inr R,.inr R,.inr R,Za⟩,R,R,AH [],R,R⟩
    refine Zc<|c5 _<|aG [4,5,105,106,107] [5,1000,1001,1002,1003,1004,1005,1006] ?_
    exact aR<|AE ai λd4 b6 cd=>xA R b6<|mM R<|Zh<|Fl.mk cd (AH [n2]) wk
   exact Zm<|ay _ _ wk<|J3 _ _ (AH [(af 0)])<|xH b0 ag
  refine Jn (λ(x6:Int) (m7:List (Int × Bool)) (a7:List (List RV)) i9=>⟨[(3,.ptr 1005 l 0 0),(4,.ptr 1006 j 0 0),(5,.ptr 5 V 0 0),(9,.ptr 9 n1 0 0),(60,qc J.Grid.Cells),(61,rL J.Grid.Cells),(62,rI x6)],[(5,some<|.box V 133<|FX v1),(9,some<|.box n1 54<|Ai J),(1000,some<|.box m 94 [.mref 1001 A]),(1001,some<|.md A<|AK RV.bool m7),(1002,some<|.box q 134 [.fn 99 [.ptr 1003 w 0 0]]),(1003,some<|.box w 121 [.yld 1004 B]),(1004,some<|.cal B F a7),(1005,some<|.box l 24 [qb E.Nodes]),(1006,some<|.box j 134 [.fn 131 [.ptr 1000 m 0 0,.ptr 1002 q 0 0,.ptr 1005 l 0 0,.ptr 1006 j 0 0]])],(i9 0),121⟩) (AH [(i6 0)]) ax wk ?_
  intro x6 m7 a7 i9 v3 cf b7
  have b8:Tv A1 E v1 self J x6 m7 a7=some v3:=cf;unfold Tv at b8
  refine aU<|xS R<|aZ<|aT λcg=>cI R b8 (λaj=>?_) λaj=>?_
  ·refine Zc<|cg _<|aT λch=>Zg<|aU<|AE aj λC b9 cj=>xI Bx R b9<|xB ((BP C)) EM R<|sS R (BI (cs:=HS) 13 R G8 R R)<|Zj R R (A5 (ds:=(BP C)) R HV iL R iL R R R R)<|aZ<|aU<|sQ R (fB R DS iL fR R)<|sQ R (GH (ds:=(B7 J.Grid)) R GM iL R R R)<|lF D5 AI R R<|lF ES AI R R<|AE cj λI ck cl=>sS R (Cb (r:=.agg<|A8 I) (caps:=[]) (bs:=[.agg<|B7 J.Grid,rI C.Row,rI C.Col]) R iL R ⟨.inl ⟨iL,R⟩,.inl ⟨iL,R⟩,.inl ⟨iL,R⟩,Za⟩ λ_=>VY<|ck)<|sS R (BI (cs:=FP) 14 R Gw R R)<|Zj R R (A5 (ds:=(A8 I)) R F0 iL R iL R R R R)<|aZ<|aS λcm cn ab=>aG [3,4,5,9,13,14,60,61,62] [5,9,13,14,1000,1001,1002,1003,1004,1005,1006] ?_
   refine aR<|lF Ce AI R R<|xU R<|mM R<|vQ R (AY (a:=.fn 131 [.ptr 1000 m 0 0,.ptr 1002 q 0 0,.ptr 1005 l 0 0,.ptr 1006 j 0 0]) R OK iL R R)<|vF Ce AI R R<|vF KS AI R R<|vF TU Mm R R<|vQ R (AM R<|iR R)<|wQ R (fB R Cu iL fR R)<|wQ R (AY (a:=rI I.Row) R AI (iR R) R R)<|wQ R (fB R D5 iL fR R)<|wQ R (AY (a:=rI C.Row) R AI (iR R) R R)<|wQ R (A4 R (iR R)<|iR R)<|vQ R (Bd R (iR R)<|iR R)<|vQ R (AM R<|iR R)<|wQ R (fB R DQ iL fR R)<|wQ R (AY (a:=rI I.Col) R AI (iR R) R R)<|wQ R (fB R ES iL fR R)<|wQ R (AY (a:=rI C.Col) R AI (iR R) R R)<|wQ R (A4 R (iR R)<|iR R)<|vQ R (Bd R (iR R)<|iR R) ?_
   refine vQ R (Bu R RR (q:=[(0,_),(1,_),(2,_)]) (by exact⟨R,R,R,(iR R),R,R,R,(iR R),R,R,R,(iR R),Za⟩) (cs:=[rI C.Ref,rI v1.id,rB<|((v1.visible&&(I.Row=C.Row))&&(I.Col=C.Col))])<|by rfl) ?_
   refine RN cl λp1 ba cp=>?_
   have J4:∀(ak:Bool) (a2:List (Int × Bool)) (T:List (List RV)) (a8:NN),p1=(ak,a2,T)→cm ⟨[(3,.ptr 1005 l 0 0),(4,.ptr 1006 j 0 0),(5,.ptr 5 V 0 0),(9,.ptr 9 n1 0 0),(60,qc J.Grid.Cells),(61,rL J.Grid.Cells),(62,rI x6),(101,rB ak)],[(5,some<|.box V 133<|FX v1),(9,some<|.box n1 54<|Ai J),(1000,some<|.box m 94 [.mref 1001 A]),(1001,some<|.md A<|AK RV.bool a2),(1002,some<|.box q 134 [.fn 99 [.ptr 1003 w 0 0]]),(1003,some<|.box w 121 [.yld 1004 B]),(1004,some<|.cal B F T),(1005,some<|.box l 24 [qb E.Nodes]),(1006,some<|.box j 134 [.fn 131 [.ptr 1000 m 0 0,.ptr 1002 q 0 0,.ptr 1005 l 0 0,.ptr 1006 j 0 0]])],(a8 0),121⟩:=by
    intro ak a2 T a8 e
    have cq:=cp _ _ _ e
    refine cn _<|cI R cq (λal=>?_) λal=>?_
    ·refine aU<|mA R<|aZ ?_
     exact Zl<|B8.mk (s':=⟨[(6,rB false)],[(1000,some<|.box m 94 [.mref 1001 A]),(1001,some<|.md A<|AK RV.bool a2),(1002,some<|.box q 134 [.fn 99 [.ptr 1003 w 0 0]]),(1003,some<|.box w 121 [.yld 1004 B]),(1004,some<|.cal B F T),(1005,some<|.box l 24 [qb E.Nodes]),(1006,some<|.box j 134 [.fn 131 [.ptr 1000 m 0 0,.ptr 1002 q 0 0,.ptr 1005 l 0 0,.ptr 1006 j 0 0]])],(a8 0),121⟩) wk<|CM (λ(r:Bool × (List<|Int × Bool) × (List<|List RV)) Z h'=>∃(i:Nat→Nat),Z=rB r.1∧h'=[(1000,some<|.box m 94 [.mref 1001 A]),(1001,some<|.md A<|AK RV.bool r.2.1),(1002,some<|.box q 134 [.fn 99 [.ptr 1003 w 0 0]]),(1003,some<|.box w 121 [.yld 1004 B]),(1004,some<|.cal B F r.2.2),(1005,some<|.box l 24 [qb E.Nodes]),(1006,some<|.box j 134 [.fn 131 [.ptr 1000 m 0 0,.ptr 1002 q 0 0,.ptr 1005 l 0 0,.ptr 1006 j 0 0]])]) (bs _<|xH b7 al)<|by exact⟨rB false,[(1000,some<|.box m 94 [.mref 1001 A]),(1001,some<|.md A<|AK RV.bool a2),(1002,some<|.box q 134 [.fn 99 [.ptr 1003 w 0 0]]),(1003,some<|.box w 121 [.yld 1004 B]),(1004,some<|.cal B F T),(1005,some<|.box l 24 [qb E.Nodes]),(1006,some<|.box j 134 [.fn 131 [.ptr 1000 m 0 0,.ptr 1002 q 0 0,.ptr 1005 l 0 0,.ptr 1006 j 0 0]])],R,⟨.inr R,.inr R,.inr R,.inr R,.inr R,.inr R,.inr R,Za⟩,R,R,AH [],R,R⟩
    exact Zc<|ch _<|aR<|AE al λd5 bb cr=>xA R bb<|mM R<|Zh<|Fl.mk cr (AH [(a8 0)]) wk
   refine AS.split ((!(C.Ref=0))==true) (λU=>?_) λU=>?_
   ·have an:=ET U ba
    refine AS.weak (by exact Rz (e':=[(3,.ptr 1005 l 0 0),(4,.ptr 1006 j 0 0),(5,.ptr 5 V 0 0),(9,.ptr 9 n1 0 0),(13,.ptr 13 (i9 0) 0 0),(14,.ptr 14 ((i9 0)+1) 0 0),(60,qc J.Grid.Cells),(61,rL J.Grid.Cells),(62,rI x6),(73,.ptr 13 (i9 0) 0 3),(74,rI C.Ref),(75,rB<|(!(C.Ref=0))),(76,rB<|(!(C.Ref=0))),(77,.fn 131 [.ptr 1000 m 0 0,.ptr 1002 q 0 0,.ptr 1005 l 0 0,.ptr 1006 j 0 0]),(78,.ptr 13 (i9 0) 0 3),(79,rI C.Ref),(80,.ptr 5 V 0 0),(81,rI v1.id),(82,.ptr 5 V 0 2),(83,rB v1.visible),(84,rB v1.visible),(85,.whn (v1.visible==true)<|.ptr 14 ((i9 0)+1) 0 0),(86,.whn (v1.visible==true)<|rI I.Row),(87,.whn (v1.visible==true)<|.ptr 13 (i9 0) 0 0),(88,.whn (v1.visible==true)<|rI C.Row),(89,.whn (v1.visible==true)<|rB<|(decide<|I.Row=C.Row)),(90,rB<|(v1.visible&&(I.Row=C.Row))),(91,rB<|(v1.visible&&(I.Row=C.Row))),(92,.whn ((v1.visible&&(I.Row=C.Row))==true)<|.ptr 14 ((i9 0)+1) 0 1),(93,.whn ((v1.visible&&(I.Row=C.Row))==true)<|rI I.Col),(94,.whn ((v1.visible&&(I.Row=C.Row))==true)<|.ptr 13 (i9 0) 0 1),(95,.whn ((v1.visible&&(I.Row=C.Row))==true)<|rI C.Col),(96,.whn ((v1.visible&&(I.Row=C.Row))==true)<|rB<|(decide<|I.Col=C.Col)),(97,rB<|((v1.visible&&(I.Row=C.Row))&&(I.Col=C.Col))),(98,.agg [rI C.Ref,rI v1.id,rB<|((v1.visible&&(I.Row=C.Row))&&(I.Col=C.Col))])]) U ⟨.inl R,.inl R,.inl R,.inl R,.inl R,.inl R,.inl R,.inl R,.inl R,.inl R,.inl R,.inl R,.inl R,.inr iL,.inr iL,.inr iL,.inr iL,.inr iL,.inr iL,.inr iL,.inr iL,.inr<|.inr<|.inl ⟨_,_,R,R⟩,.inr<|.inr<|.inl ⟨_,_,R,R⟩,.inr<|.inr<|.inl ⟨_,_,R,R⟩,.inr<|.inr<|.inl ⟨_,_,R,R⟩,.inr<|.inr<|.inl ⟨_,_,R,R⟩,.inr iL,.inr iL,.inr<|.inr<|.inl ⟨_,_,R,R⟩,.inr<|.inr<|.inl ⟨_,_,R,R⟩,.inr<|.inr<|.inl ⟨_,_,R,R⟩,.inr<|.inr<|.inl ⟨_,_,R,R⟩,.inr<|.inr<|.inl ⟨_,_,R,R⟩,.inr iL,.inr iL,Za⟩) ?_
    refine Ih an λr8 w5 w6 cs ct=>?_
    refine qD (.one R R R) U [1000,1001,1002,1003,1004,1005,1006] (hc:=[(1000,some<|.box m 94 [.mref 1001 A]),(1001,some<|.md A<|AK RV.bool m7),(1002,some<|.box q 134 [.fn 99 [.ptr 1003 w 0 0]]),(1003,some<|.box w 121 [.yld 1004 B]),(1004,some<|.cal B F a7),(1005,some<|.box l 24 [qb E.Nodes]),(1006,some<|.box j 134 [.fn 131 [.ptr 1000 m 0 0,.ptr 1002 q 0 0,.ptr 1005 l 0 0,.ptr 1006 j 0 0]])]) (bs:=[.agg [rI C.Ref,rI v1.id,rB<|((v1.visible&&(I.Row=C.Row))&&(I.Col=C.Col))]]) (caps:=[.ptr 1000 m 0 0,.ptr 1002 q 0 0,.ptr 1005 l 0 0,.ptr 1006 j 0 0]) R R R iL R ⟨.inl ⟨iL,R⟩,Za⟩ ⟨R,R,R,R,R,R,R,R,R,R,R,R,R,R,R,R,R,R,R,R,R,Za⟩ (by decide) (X cs hW) ?_
    intro d6 n3
    refine BZ [3,4,5,9,13,14,60,61,62,73,74,75,76,77,78,79,80,81,82,83,84,90,91,97,98,99] [5,9,13,14,1000,1001,1002,1003,1004,1005,1006] ?_
    exact H1 (.one R R R) U R R (DD (BE R<|.inl R) _)<|sQ R (Bd R iL iL)<|Zh<|ab _ _ wk<|J4 _ _ _ (AH [n3]) (Zf ct).symm
   ·have an:=EJ U ba
    exact Gl (.one R R R) U R R<|Gl (.one R R R) U R R<|xN R<|Zh<|ab _ _ wk<|J4 _ _ _ (AH [((i9 0)+2)]) (Zf an).symm
  exact Zm<|aw _ _ wk<|J2 _ _ (AH [(i9 0)])<|xH b7 aj
 refine Jn (λ(x3:Int) (m3:List (Int × Bool)) (aa:List (List RV)) i4=>⟨[(3,.ptr 1005 l 0 0),(4,.ptr 1006 j 0 0),(5,.ptr 5 V 0 0),(9,.ptr 9 n1 0 0),(42,.r<|.sl<|r4.map<|Ab .i64),(43,rL r4),(44,rI x3)],[(5,some<|.box V 133<|FX v1),(9,some<|.box n1 54<|Ai J),(1000,some<|.box m 94 [.mref 1001 A]),(1001,some<|.md A<|AK RV.bool m3),(1002,some<|.box q 134 [.fn 99 [.ptr 1003 w 0 0]]),(1003,some<|.box w 121 [.yld 1004 B]),(1004,some<|.cal B F aa),(1005,some<|.box l 24 [qb E.Nodes]),(1006,some<|.box j 134 [.fn 131 [.ptr 1000 m 0 0,.ptr 1002 q 0 0,.ptr 1005 l 0 0,.ptr 1006 j 0 0]])],(i4 0),121⟩) (AH [(n1+1)]) av wk ?_
 intro x3 m3 aa i4 v4 cu bc
 have bd:TA A1 E v1 self r4 x3 m3 aa=some v4:=cu;unfold TA at bd
 refine aU<|xS R<|aZ<|aT λcv=>cI R bd (λao=>?_) λao=>?_
 ·refine Zc<|cv _<|aT λcw=>Zg<|aU<|AE ao λaq be cx=>xI Bi R be<|xV (.int .i64 aq) AI R<|mA R<|aZ<|aT λcy=>aR<|sQ R (AY (a:=.fn 131 [.ptr 1000 m 0 0,.ptr 1002 q 0 0,.ptr 1005 l 0 0,.ptr 1006 j 0 0]) R OK iL R R)<|mM R<|lF KS AI R R<|lF TU Mm R R ?_
  refine sQ R (Bu R RR (q:=[(0,_),(1,_),(2,_)]) (by exact⟨R,R,R,iL,R,R,R,iL,R,R,R,iL,Za⟩) (cs:=[rI aq,rI v1.id,rB v1.visible])<|by rfl) ?_
  refine Ih cx λr9 w7 w8 cz d0=>?_
  refine Zy [1000,1001,1002,1003,1004,1005,1006] (hc:=[(1000,some<|.box m 94 [.mref 1001 A]),(1001,some<|.md A<|AK RV.bool m3),(1002,some<|.box q 134 [.fn 99 [.ptr 1003 w 0 0]]),(1003,some<|.box w 121 [.yld 1004 B]),(1004,some<|.cal B F aa),(1005,some<|.box l 24 [qb E.Nodes]),(1006,some<|.box j 134 [.fn 131 [.ptr 1000 m 0 0,.ptr 1002 q 0 0,.ptr 1005 l 0 0,.ptr 1006 j 0 0]])]) (bs:=[.agg [rI aq,rI v1.id,rB v1.visible]]) (caps:=[.ptr 1000 m 0 0,.ptr 1002 q 0 0,.ptr 1005 l 0 0,.ptr 1006 j 0 0]) R R R R iL R ⟨.inl ⟨iL,R⟩,Za⟩ ⟨R,R,R,R,R,R,R,R,R,R,R,R,R,R,R,R,R,R,R,R,R,Za⟩ (by decide) (X cz hW) ?_
  intro d7 n4
  refine BZ [3,4,5,9,11,42,43,44,45,46,47,48,49,50,51,52,53,54,55] [5,9,1000,1001,1002,1003,1004,1005,1006] ?_
  refine sQ R (BE R iL)<|aZ<|cy _<|cI R d0 (λar=>?_) λar=>?_
  ·refine aT λd1=>aG [] [1000,1001,1002,1003,1004,1005,1006] ?_
   refine aR<|mA R<|oZ d1 ?_
   exact Zl<|B8.mk (s':=⟨[(6,rB false)],[(1000,some<|.box m 94 [.mref 1001 A]),(1001,some<|.md A<|AK RV.bool w7),(1002,some<|.box q 134 [.fn 99 [.ptr 1003 w 0 0]]),(1003,some<|.box w 121 [.yld 1004 B]),(1004,some<|.cal B F w8),(1005,some<|.box l 24 [qb E.Nodes]),(1006,some<|.box j 134 [.fn 131 [.ptr 1000 m 0 0,.ptr 1002 q 0 0,.ptr 1005 l 0 0,.ptr 1006 j 0 0]])],n4,121⟩) wk<|CM (λ(r:Bool × (List<|Int × Bool) × (List<|List RV)) Z h'=>∃(i:Nat→Nat),Z=rB r.1∧h'=[(1000,some<|.box m 94 [.mref 1001 A]),(1001,some<|.md A<|AK RV.bool r.2.1),(1002,some<|.box q 134 [.fn 99 [.ptr 1003 w 0 0]]),(1003,some<|.box w 121 [.yld 1004 B]),(1004,some<|.cal B F r.2.2),(1005,some<|.box l 24 [qb E.Nodes]),(1006,some<|.box j 134 [.fn 131 [.ptr 1000 m 0 0,.ptr 1002 q 0 0,.ptr 1005 l 0 0,.ptr 1006 j 0 0]])]) (bo _<|xH bc ar)<|by exact⟨rB false,[(1000,some<|.box m 94 [.mref 1001 A]),(1001,some<|.md A<|AK RV.bool w7),(1002,some<|.box q 134 [.fn 99 [.ptr 1003 w 0 0]]),(1003,some<|.box w 121 [.yld 1004 B]),(1004,some<|.cal B F w8),(1005,some<|.box l 24 [qb E.Nodes]),(1006,some<|.box j 134 [.fn 131 [.ptr 1000 m 0 0,.ptr 1002 q 0 0,.ptr 1005 l 0 0,.ptr 1006 j 0 0]])],R,⟨.inr R,.inr R,.inr R,.inr R,.inr R,.inr R,.inr R,Za⟩,R,R,AH [],R,R⟩
  refine Zc<|cw _<|aG [3,4,5,9,42,43,44] [5,9,1000,1001,1002,1003,1004,1005,1006] ?_
  exact aR<|AE ar λd8 bf d2=>xA R bf<|mM R<|Zh<|Fl.mk d2 (AH [n4]) wk
 exact Zm<|au _ _ wk<|J1 _ _ (AH [(i4 0)])<|xH bc ao
theorem nP(n:Nat):∀ {F:List (List RV)→Option Bool} {I:List (Int × Bool)} {C:List (List RV)} {E:AR} {v1:Aq} {r:Bool × (List<|Int × Bool) × (List<|List RV)} {j:Nat} {w:Nat} {l:Nat} {A:Nat} {B:Nat} {m:Nat} {q:Nat} {J:E8},Hr n F I C E v1=some r→(J.P=prog∧J.A=F)→BC prog 131 7 [.agg<|FX v1,.ptr 1000 j 0 0,.ptr 1002 l 0 0,.ptr 1005 m 0 0,.ptr 1006 q 0 0] [(1000,some<|.box j 94 [.mref 1001 w]),(1001,some<|.md w<|AK RV.bool I),(1002,some<|.box l 134 [.fn 99 [.ptr 1003 A 0 0]]),(1003,some<|.box A 121 [.yld 1004 B]),(1004,some<|.cal B J C),(1005,some<|.box m 24 [qb E.Nodes]),(1006,some<|.box q 134 [.fn 131 [.ptr 1000 j 0 0,.ptr 1002 l 0 0,.ptr 1005 m 0 0,.ptr 1006 q 0 0]])] (λM h'=>∃(i:Nat→Nat),M=rB r.1∧h'=[(1000,some<|.box j 94 [.mref 1001 w]),(1001,some<|.md w<|AK RV.bool r.2.1),(1002,some<|.box l 134 [.fn 99 [.ptr 1003 A 0 0]]),(1003,some<|.box A 121 [.yld 1004 B]),(1004,some<|.cal B J r.2.2),(1005,some<|.box m 24 [qb E.Nodes]),(1006,some<|.box q 134 [.fn 131 [.ptr 1000 j 0 0,.ptr 1002 l 0 0,.ptr 1005 m 0 0,.ptr 1006 q 0 0]])]):=by
 induction n with
 | zero=>intro F I C E v1 r j w l A B m q J h;exact absurd (show(none:Option (Bool × (List<|Int × Bool) × (List<|List RV)))=some r from h)<|by simp
 | succ n O=>intro F I C E v1 r j w l A B m q J h T;exact pN (self:=λF I C E v1=>Hr n F I C E v1) (λU V=>O U V) h T
theorem pi{I:List (List RV)→Option Bool}{J:List (Int × Bool)}{C:List (List RV)}{E:AR}{v1:Aq}{r:Bool × (List<|Int × Bool) × (List<|List RV)}{j:Nat}{w:Nat}{l:Nat}{A:Nat}{B:Nat}{m:Nat}{q:Nat}{F:E8}(h:P5 I J C E v1=some r)(O:F.P=prog∧F.A=I):BC prog 131 7 [.agg<|FX v1,.ptr 1000 j 0 0,.ptr 1002 l 0 0,.ptr 1005 m 0 0,.ptr 1006 q 0 0] [(1000,some<|.box j 94 [.mref 1001 w]),(1001,some<|.md w<|AK RV.bool J),(1002,some<|.box l 134 [.fn 99 [.ptr 1003 A 0 0]]),(1003,some<|.box A 121 [.yld 1004 B]),(1004,some<|.cal B F C),(1005,some<|.box m 24 [qb E.Nodes]),(1006,some<|.box q 134 [.fn 131 [.ptr 1000 j 0 0,.ptr 1002 l 0 0,.ptr 1005 m 0 0,.ptr 1006 q 0 0]])] (λT h'=>∃(i:Nat→Nat),T=rB r.1∧h'=[(1000,some<|.box j 94 [.mref 1001 w]),(1001,some<|.md w<|AK RV.bool r.2.1),(1002,some<|.box l 134 [.fn 99 [.ptr 1003 A 0 0]]),(1003,some<|.box A 121 [.yld 1004 B]),(1004,some<|.cal B F r.2.2),(1005,some<|.box m 24 [qb E.Nodes]),(1006,some<|.box q 134 [.fn 131 [.ptr 1000 j 0 0,.ptr 1002 l 0 0,.ptr 1005 m 0 0,.ptr 1006 q 0 0]])]):=by
 unfold P5 at h
 by_cases M:∃n r,Hr n I J C E v1=some r
 ·rw[tW M] at h;exact nP _ h O
 ·rw[uM M] at h;cases h
theorem oN{C:List (List RV)→Option Bool}{w:List (List RV)}{d1:AR}{r:(List<|List RV)}{l:Nat}{j:Nat}{q:E8}(h:OC C w d1=some r)(F:q.P=prog∧q.A=C):BC prog 98 2 [.agg [qb d1.Nodes],.fn 99 [.ptr 1000 l 0 0]] [(1000,some<|.box l 121 [.yld 1001 j]),(1001,some<|.cal j q w)] (λA h'=>∃(i:Nat→Nat),A=.tup []∧h'=[(1000,some<|.box l 121 [.yld 1001 j]),(1001,some<|.cal j q r)]):=by
 unfold OC at h
 refine D7 func98 R R ntmps98 (Zs R) λm=>aU<|sS R (A6 (cs:=[qb d1.Nodes]) 2 R iL R R)<|sS R (A6 (cs:=[.fn 99 [.ptr 1000 l 0 0]]) 3 R iL R R)<|aZ<|aU<|sS R (Ld RV.bool 6 R)<|sS R (BI (cs:=[.cst<|.map none]) 4 R Xb R R)<|Zj R R (A5 (ds:=[.mref 6<|m+2]) R Ye iL R iL R R R R)<|aZ<|aU<|sS R (BI (cs:=[.cst<|.nilFunc]) 5 R Z2 R R)<|aZ<|aT λI=>aR ?_
 refine sQ R (KX (bs:=[.ptr 4 (m+3) 0 0,.ptr 3 (m+1) 0 0,.ptr 2 m 0 0,.ptr 5 (m+4) 0 0]) R<|by exact⟨iL,iL,iL,iL,Za⟩) ?_
 refine Zj R R (A5 (ds:=[.fn 131 [.ptr 4 (m+3) 0 0,.ptr 3 (m+1) 0 0,.ptr 2 m 0 0,.ptr 5 (m+4) 0 0]]) R bM iL R iL R R R R)<|aZ<|I _<|aR<|sQ R (AY (a:=.fn 131 [.ptr 4 (m+3) 0 0,.ptr 3 (m+1) 0 0,.ptr 2 m 0 0,.ptr 5 (m+4) 0 0]) R OK iL R R) ?_
 refine sQ R (Bu R RR (q:=[(0,_),(1,_),(2,_)]) (by exact⟨R,R,R,iL,R,R,R,iL,R,R,R,iL,Za⟩) (cs:=[rI 1,rI 0,rB true])<|by rfl) ?_
 refine Ih h λO T E B J=>?_
 refine Zy [4,6,3,1000,1001,2,5] (hc:=[(1000,some<|.box (m+3) 94 [.mref 1001<|m+2]),(1001,some<|.md (m+2)<|AK RV.bool ([]:List (Int × Bool))),(1002,some<|.box (m+1) 134 [.fn 99 [.ptr 1003 l 0 0]]),(1003,some<|.box l 121 [.yld 1004 j]),(1004,some<|.cal j q w),(1005,some<|.box m 24 [qb d1.Nodes]),(1006,some<|.box (m+4) 134 [.fn 131 [.ptr 1000 (m+3) 0 0,.ptr 1002 (m+1) 0 0,.ptr 1005 m 0 0,.ptr 1006 (m+4) 0 0]])]) (bs:=[.agg [rI 1,rI 0,rB true]]) (caps:=[.ptr 1000 (m+3) 0 0,.ptr 1002 (m+1) 0 0,.ptr 1005 m 0 0,.ptr 1006 (m+4) 0 0]) R R R R iL R ⟨.inl ⟨iL,R⟩,Za⟩ ⟨R,R,R,R,R,R,R,R,R,R,R,R,R,R,R,R,R,R,R,R,R,Za⟩ (by decide) (pi B F) ?_
 intro U M
 refine BZ [0,1,2,3,4,5,6,7,8,9,10] [2,3,4,5,6,1000,1001] ?_
 refine Zh ?_
 exact B8.mk (s':=⟨[],[(1000,some<|.box l 121 [.yld 1001 j]),(1001,some<|.cal j q E)],M,11⟩) wk<|CM (λ(r:(List<|List RV)) A h'=>∃(i:Nat→Nat),A=.tup []∧h'=[(1000,some<|.box l 121 [.yld 1001 j]),(1001,some<|.cal j q r)]) J<|by exact⟨.tup [],[(1000,some<|.box l 121 [.yld 1001 j]),(1001,some<|.cal j q E)],⟨_,R,Za⟩,⟨.inr R,.inr R,Za⟩,R,R,AH [],R,R⟩
theorem gk{I:List (List RV)→Option Bool}{m:List (List RV)}{w:AR}{r:(List<|List RV)}{j:Nat}{l:Nat}{q:E8}(h:H0 I m w=some r)(M:q.P=prog∧q.A=I):BC prog 97 2 [.yld 1000 j,.ptr 1001 l 0 0] [(1000,some<|.cal j q m),(1001,some<|.box l 24 [qb w.Nodes])] (λA h'=>∃(i:Nat→Nat),A=.tup []∧h'=[(1000,some<|.cal j q r),(1001,some<|.box l 24 [qb w.Nodes])]):=by
 unfold H0 at h
 refine D7 func97 R R ntmps97 (Zs R) λB=>aU<|sS R (A6 (cs:=[.yld 1000 j]) 2 R iL R R)<|aZ<|aT λO=>aU<|xC Bz R<|AE h λX C T=>cL (TZ<|C) R<|xU R<|aZ<|cI R T (λE=>?_) λE=>?_
 ·exact Zl<|B8.mk (s':=⟨[],[(1000,some<|.cal j q m),(1001,some<|.box l 24 [qb w.Nodes])],(B+1),9⟩) wk<|CM (λ(r:(List<|List RV)) A h'=>∃(i:Nat→Nat),A=.tup []∧h'=[(1000,some<|.cal j q r),(1001,some<|.box l 24 [qb w.Nodes])]) E<|by exact⟨.tup [],[(1000,some<|.cal j q m),(1001,some<|.box l 24 [qb w.Nodes])],⟨_,R,Za⟩,⟨.inr R,.inr R,Za⟩,R,R,AH [],R,R⟩
 refine Zc<|O _<|aR<|xC Bz R ?_
 refine sQ R (KX (bs:=[.ptr 2 B 0 0]) R<|by exact⟨iL,Za⟩) ?_
 refine AE E λJ F U=>?_
 refine Zy [2,1000] (hc:=[(1000,some<|.box B 121 [.yld 1001 j]),(1001,some<|.cal j q m)]) (bs:=[.agg [qb w.Nodes],.fn 99 [.ptr 1000 B 0 0]]) (caps:=[]) R R R R iL R ⟨.inl ⟨iL,R⟩,.inl ⟨iL,R⟩,Za⟩ ⟨R,R,R,R,R,R,Za⟩ (by decide) (oN F M) ?_
 intro Z V
 refine BZ [0,1,2,3,4,5,6,7,8] [2,1000,1001] ?_
 refine Zh ?_
 exact B8.mk (s':=⟨[],[(1000,some<|.cal j q J),(1001,some<|.box l 24 [qb w.Nodes])],V,9⟩) wk<|CM (λ(r:(List<|List RV)) A h'=>∃(i:Nat→Nat),A=.tup []∧h'=[(1000,some<|.cal j q r),(1001,some<|.box l 24 [qb w.Nodes])]) U<|by exact⟨.tup [],[(1000,some<|.cal j q J),(1001,some<|.box l 24 [qb w.Nodes])],⟨_,R,Za⟩,⟨.inr R,.inr R,Za⟩,R,R,AH [],R,R⟩
theorem nc{j m r}(h:OU j m=some r):Aa prog 134 [.agg<|Bg j,rI m] (rB r):=by
 unfold OU at h
 exact mF func134 ntmps134 R λI=>aU<|sS R (A6 (cs:=(Bg j)) 2 R iL R R)<|mA R<|aZ<|aU<|lF H9 CR R R<|AE h λJ l A=>cL (NA<|l) R<|sQ R (EZ R iL iL)<|mM R<|vM R<|vQ R (A4 R (iR R) iL)<|vQ R (AM R<|iR R)<|wQ R (fB R H9 iL fR R)<|wQ R (AY (a:=qa j.Attrs) R CR (iR R) R R)<|AE A λB q C=>AS.stepW (.two R R R) R R (DU (r:=rS B) (caps:=[]) (bs:=[qa j.Attrs,.r<|.str [99,117,116]]) R iL R ⟨⟨_,(iR R),.d R⟩,⟨_,iL,.d R⟩,Za⟩ (λhg=>NA<|Ag q hg) R)<|wQ R (D1 R (iR R) iL)<|vQ R (Bd R (iR R)<|iR R)<|xO R<|mM R<|vM R<|vQ R (A4 R (iR R) iL)<|vQ R (AM R<|iR R)<|wQ R (fB R H9 iL fR R)<|wQ R (AY (a:=qa j.Attrs) R CR (iR R) R R)<|AE C λE w F=>AS.stepW (.two R R R) R R (DU (r:=rS E) (caps:=[]) (bs:=[qa j.Attrs,.r<|.str [97,100,100]]) R iL R ⟨⟨_,(iR R),.d R⟩,⟨_,iL,.d R⟩,Za⟩ (λhg=>NA<|Ag w hg) R)<|wQ R (D1 R (iR R) iL)<|vQ R (Bd R (iR R)<|iR R)<|xO R<|mA R<|aZ<|Zl<|yB F R
theorem cT{j m r}(h:PV j m=some r):Aa prog 100 [qe j,rI m] (.r<|.sl<|r.map<|Ab .i64):=by
 unfold PV at h
 refine mF func100 ntmps100 R λJ=>aU<|mA R<|aZ<|aU<|mA R<|aZ<|aS λK3 c3 O=>aU<|mM R<|xL Bb R<|mM R<|aZ<|Zg<|BV h λo1 E T=>?_
 have J1:∀(l:List Int) (M:NN),o1=l→K3 ⟨[(5,.own 5005<|M 0)],[(5005,some<|.arr (M 0) 3 1<|l.map<|Ab .i64)],(M 1),37⟩:=by
  intro l M e
  have h1:=T _ e
  exact c3 _<|aU<|mM R<|mA R<|aZ<|Zl<|Cg (P:=prog) (λ(r:(List Int))=>.r<|.sl<|r.map<|Ab .i64) h1 iL<|.t<|.one<|.own R
 refine Cs (λ(F:Int) (q:List Int) A=>⟨[(0,qe j),(1,rI m),(5,.own 5005<|A 0),(8,qe j),(9,rL j),(10,rI F)],[(5005,some<|.arr (A 0) 3 1<|q.map<|Ab .i64)],(A 1),37⟩) (AH [J,(J+1)]) E (Zv (Zv (GI 5 5005 3 1 (by decide) R)<|by exact Am.cv (e':=[(0,qe j),(1,rI m),(4,cZ),(5,.own 5005 J),(8,qe j),(9,rL j),(10,rI 0)]) (h':=[(5005,some<|.arr J 3 1<|([]:List Int).map<|Ab .i64)]) ⟨jL,jL,jL,jL,jL,jL,jL,Za⟩ ⟨.inl R,Za⟩ nL) wk) ?_
 intro F q A v1 U V
 have h2:Mq j m F q=some v1:=U;unfold Mq at h2
 refine aU<|xS R<|aZ<|aT λc7=>cI R h2 (λX=>?_) λX=>?_
 ·refine Zc<|c7 _<|aS λK8 c8 I=>Zg<|BV X λp1 Z a0=>?_
  have J2:∀(w:List Int) (C:NN),p1=w→K8 ⟨[(0,qe j),(1,rI m),(5,.own 5005<|C 0),(8,qe j),(9,rL j),(10,rI F)],[(5005,some<|.arr (C 0) 3 1<|w.map<|Ab .i64)],(C 1),37⟩:=by
   intro w C e
   have h4:=a0 _ e
   exact c8 _<|aR<|AE h4 λx4 a1 h5=>xA R a1<|mM R<|Zh<|ZJ h5 (AH [(C 0),(C 1)]) wk
  refine aU<|mM R<|AE Z λx5 a2 h6=>xI Bb R a2<|xB ((Bg x5)) Fr R<|sS R (BI (cs:=JJ) 7 R JD R R)<|mA R<|Zj R R (A5 (ds:=(Bg x5)) R IA iL R iL R R R R)<|aZ<|aU<|xC Fr R<|mM R<|AE h6 λr1 a6 h7=>cL (nc<|a6) R<|sQ R (BE R iL)<|mM R<|vM R<|vM R<|vQ R (DK R Bb.slice<|iR R)<|AE h7 λx6 a7 h8=>vQ R (CX R (iR R) iL<|Ag a7)<|vQ R (A4 R (iR R)<|iR R)<|vQ R (AM R<|iR R)<|wQ R (fB R Fh iL fR R)<|wQ R (AY (a:=rI x5.Char) R AI (iR R) R R)<|wQ R (A4 R (iR R) iL)<|vQ R (Bd R (iR R)<|iR R)<|xO R<|aZ<|cI R h8 (λh9=>?_) λh9=>?_
  ·refine aG [0,1,5,6,8,9,10] [5005] ?_
   exact aR<|mM R<|mM R<|sS R (Bj 33 R Bi (f:=(Ab .i64)) (l:=([F]:List Int)) ⟨R,⟨_,iL,R⟩,Za⟩ R (λ_=>R) R)<|AE h9 λaa B a8=>sS R (Cj R Bi iL R (.inr<|.inl ⟨_,_,iL,R⟩) B)<|mA R<|Zh<|I _ _ wk<|J2 _ (AH [((A 1)+2),((A 1)+3)]) (Zf a8).symm
  exact Zc<|I _ _ wk<|J2 _ (AH [(A 0),((A 1)+1)]) (Zf h9).symm
 exact Zm<|O _ _ wk<|J1 _ (AH [(A 0),(A 1)])<|xH V X
theorem V3{c1:(Int × Int)}{C:List AP}{n1:AO}{r:(Int × Int) × (List AP)}{j:Nat}{l:Nat}{m:Nat}(h:JG c1 C n1=some r):BC prog 28 3 [.agg<|Ai n1,.ptr 1000 j 0 0,.ptr 1001 l 0 0] [(1000,some<|.box j 65 [rI c1.1,rI c1.2]),(1001,some<|.box l 26 [.own 1002 m]),(1002,some<|.arr m 33 3<|C.map AP.row)] (λw h'=>∃(i:Nat→Nat),w=.tup []∧h'=[(1000,some<|.box j 65 [rI r.1.1,rI r.1.2]),(1001,some<|.box l 26 [.own 1002<|i 0]),(1002,some<|.arr (i 0) 33 3<|r.2.map AP.row)]):=by
 unfold JG at h
 refine D7 func28 R R ntmps28 (Zs R) λq=>aU<|sS R (A6 (cs:=(Ai n1)) 3 R iL R R)<|aZ<|aT λZ=>aU<|lF CP AI R R<|xU R<|aZ<|cI R h (λE=>?_) λE=>?_
 ·exact Zl<|B8.mk (s':=⟨[],[(1000,some<|.box j 65 [rI c1.1,rI c1.2]),(1001,some<|.box l 26 [.own 1002 m]),(1002,some<|.arr m 33 3<|C.map AP.row)],(q+1),28⟩) wk<|CM (λ(r:(Int × Int) × (List AP)) w h'=>∃(i:Nat→Nat),w=.tup []∧h'=[(1000,some<|.box j 65 [rI r.1.1,rI r.1.2]),(1001,some<|.box l 26 [.own 1002<|i 0]),(1002,some<|.arr (i 0) 33 3<|r.2.map AP.row)]) E<|by exact⟨.tup [],[(1000,some<|.box j 65 [rI c1.1,rI c1.2]),(1001,some<|.box l 26 [.own 1002 m]),(1002,some<|.arr m 33 3<|C.map AP.row)],⟨_,R,Za⟩,⟨.inr R,.inr R,.inr R,Za⟩,R,R,AH [m],R,R⟩
 refine Zc<|Z _<|aU<|mA R<|aZ<|aT λU=>aU<|lF Ji CR R R<|AE E λr1 F h2=>cL (NA<|F) R<|sQ R (EZ R iL iL)<|aZ<|cI R h2 (λI=>?_) λI=>?_
 ·refine aG [1,2,3] [3,1000,1001,1002] ?_
  refine aR<|mA R<|aZ<|U _<|aT λC7=>aR<|mM R ?_
  refine sQ R (Ln (k':=1) R LO iL R iL R<|by decide) ?_
  refine sQ R (AY (a:=rI c1.2) R AI iL R R)<|AE I λA J h4=>xA R J ?_
  refine sQ R (Ln (k':=1) R LO iL R iL R<|by decide) ?_
  refine Zj R R (A5 (ds:=[rI c1.1,rI A]) R VA iL R iL R R R R)<|oZ C7 ?_
  refine Ry [] [0,1,2,3,4,5,6,7,8] [9] 10 BM (by kernel_rfl) R R R R R ?_
  refine F5.nil<|ZG R R R (AY (a:=.own 1002 m) R Sh iL R R)<|ZG R R R (fB R Da iL fR R)<|ZG R R R (AY (a:=rI n1.ID) R AI iL R R)<|ZG R R R (AM R iL) ?_
  refine ZG R R R (Ln (k':=1) R LO iL R iL R<|by decide) ?_
  refine ZG R R R (AY (a:=rI A) R AI iL R R)<|ZG R R R (AM R iL)<|ZG R R R (A4 R iL iL) ?_
  refine ZG R R R (Bu R Mw (q:=[(0,_),(1,_),(2,_)]) (by exact⟨R,R,R,iL,R,R,R,iL,R,R,R,iL,Za⟩) (cs:=[rI n1.ID,rI A,rB<|(decide<|1=1)])<|by rfl) ?_
  refine AF.nil<|AA.step R R R (TV 26 R FE (f:=AP.row) (l:=([(AP.mk n1.ID A<|decide<|1=1)]:List AP)) ⟨R,⟨_,iL,R⟩,Za⟩ R (λ_=>R) R)<|AA.nil<|AE h4 λV M h5=>sS R (Cj R FE iL R (.inr<|.inl ⟨_,_,iL,R⟩) M)<|Zj R R (A5 (ds:=[.own 1002<|q+2]) R Xf iL R iL R R R R)<|Zh ?_
  exact B8.mk (s':=⟨[],[(1000,some<|.box j 65 [rI c1.1,rI A]),(1001,some<|.box l 26 [.own 1002<|q+2]),(1002,some<|.arr (q+2) 33 3<|V.map AP.row)],(q+3),28⟩) wk<|CM (λ(r:(Int × Int) × (List AP)) w h'=>∃(i:Nat→Nat),w=.tup []∧h'=[(1000,some<|.box j 65 [rI r.1.1,rI r.1.2]),(1001,some<|.box l 26 [.own 1002<|i 0]),(1002,some<|.arr (i 0) 33 3<|r.2.map AP.row)]) h5<|by exact⟨.tup [],[(1000,some<|.box j 65 [rI c1.1,rI A]),(1001,some<|.box l 26 [.own 1002<|q+2]),(1002,some<|.arr (q+2) 33 3<|V.map AP.row)],⟨_,R,Za⟩,⟨.inr R,.inr R,.inr R,Za⟩,R,R,AH [(q+2)],R,R⟩
 refine Zc<|U _<|aT λC8=>aR<|mM R ?_
 refine sQ R (Ln (k':=0) R LO iL R iL R<|by decide) ?_
 refine sQ R (AY (a:=rI c1.1) R AI iL R R)<|AE I λB O h6=>xA R O ?_
 refine sQ R (Ln (k':=0) R LO iL R iL R<|by decide) ?_
 refine Zj R R (A5 (ds:=[rI B,rI c1.2]) R VA iL R iL R R R R)<|aZ<|C8 _<|aG [1,2,3,4] [3,1000,1001,1002] ?_
 refine Ry [] [0,1,2,3,4,5,6,7,8] [9] 10 BM (by kernel_rfl) R R R R R ?_
 refine F5.nil<|ZG R R R (AY (a:=.own 1002 m) R Sh iL R R)<|ZG R R R (fB R Da iL fR R)<|ZG R R R (AY (a:=rI n1.ID) R AI iL R R)<|ZG R R R (AM R iL) ?_
 refine ZG R R R (Ln (k':=0) R LO iL R iL R<|by decide) ?_
 refine ZG R R R (AY (a:=rI B) R AI iL R R)<|ZG R R R (AM R iL)<|ZG R R R (A4 R iL iL) ?_
 refine ZG R R R (Bu R Mw (q:=[(0,_),(1,_),(2,_)]) (by exact⟨R,R,R,iL,R,R,R,iL,R,R,R,iL,Za⟩) (cs:=[rI n1.ID,rI B,rB<|(decide<|0=1)])<|by rfl) ?_
 refine AF.nil<|AA.step R R R (TV 26 R FE (f:=AP.row) (l:=([(AP.mk n1.ID B<|decide<|0=1)]:List AP)) ⟨R,⟨_,iL,R⟩,Za⟩ R (λ_=>R) R)<|AA.nil<|AE h6 λX T h7=>sS R (Cj R FE iL R (.inr<|.inl ⟨_,_,iL,R⟩) T)<|Zj R R (A5 (ds:=[.own 1002<|q+2]) R Xf iL R iL R R R R)<|Zh ?_
 exact B8.mk (s':=⟨[],[(1000,some<|.box j 65 [rI B,rI c1.2]),(1001,some<|.box l 26 [.own 1002<|q+2]),(1002,some<|.arr (q+2) 33 3<|X.map AP.row)],(q+3),28⟩) wk<|CM (λ(r:(Int × Int) × (List AP)) w h'=>∃(i:Nat→Nat),w=.tup []∧h'=[(1000,some<|.box j 65 [rI r.1.1,rI r.1.2]),(1001,some<|.box l 26 [.own 1002<|i 0]),(1002,some<|.arr (i 0) 33 3<|r.2.map AP.row)]) h7<|by exact⟨.tup [],[(1000,some<|.box j 65 [rI B,rI c1.2]),(1001,some<|.box l 26 [.own 1002<|q+2]),(1002,some<|.arr (q+2) 33 3<|X.map AP.row)],⟨_,R,Za⟩,⟨.inr R,.inr R,.inr R,Za⟩,R,R,AH [(q+2)],R,R⟩
theorem ky{self:Dg→(List<|Int × Int)→(List<|Int × Bool)→(Int × Int)→(List AP)→AO→Option ((List<|Int × Bool) × (Int × Int) × (List AP))}(J:∀ {B:Dg} {E:List (Int × Int)} {m2:List (Int × Bool)} {c1:(Int × Int)} {M:List AP} {n1:AO} {r:(List<|Int × Bool) × (Int × Int) × (List AP)} {j:Nat} {w:Nat} {q:Nat} {l:Nat} {m:Nat} {A:Nat},self B E m2 c1 M n1=some r→BC prog 58 6 [.ptr 1000 j 0 0,.agg<|Ai n1] [(1000,some<|.box j 96 [qb B.d.Nodes,.mref 1001 w,.mref 1002 q,.fn 28 [.ptr 1003 l 0 0,.ptr 1004 m 0 0]]),(1001,some<|.md w<|AK (RV.int .i64) E),(1002,some<|.md q<|AK RV.bool m2),(1003,some<|.box l 65 [rI c1.1,rI c1.2]),(1004,some<|.box m 26 [.own 1005 A]),(1005,some<|.arr A 33 3<|M.map AP.row)] (λO h'=>∃(i:Nat→Nat),O=.tup []∧h'=[(1000,some<|.box j 96 [qb B.d.Nodes,.mref 1001 w,.mref 1002 q,.fn 28 [.ptr 1003 l 0 0,.ptr 1004 m 0 0]]),(1001,some<|.md w<|AK (RV.int .i64) E),(1002,some<|.md q<|AK RV.bool r.1),(1003,some<|.box l 65 [rI r.2.1.1,rI r.2.1.2]),(1004,some<|.box m 26 [.own 1005<|i 0]),(1005,some<|.arr (i 0) 33 3<|r.2.2.map AP.row)])){B:Dg}{E:List (Int × Int)}{m2:List (Int × Bool)}{c1:(Int × Int)}{M:List AP}{n1:AO}{r:(List<|Int × Bool) × (Int × Int) × (List AP)}{j:Nat}{w:Nat}{q:Nat}{l:Nat}{m:Nat}{A:Nat}(h:Ha self B E m2 c1 M n1=some r):BC prog 101 6 [.ptr 1000 j 0 0,.agg<|Ai n1] [(1000,some<|.box j 96 [qb B.d.Nodes,.mref 1001 w,.mref 1002 q,.fn 28 [.ptr 1003 l 0 0,.ptr 1004 m 0 0]]),(1001,some<|.md w<|AK (RV.int .i64) E),(1002,some<|.md q<|AK RV.bool m2),(1003,some<|.box l 65 [rI c1.1,rI c1.2]),(1004,some<|.box m 26 [.own 1005 A]),(1005,some<|.arr A 33 3<|M.map AP.row)] (λO h'=>∃(i:Nat→Nat),O=.tup []∧h'=[(1000,some<|.box j 96 [qb B.d.Nodes,.mref 1001 w,.mref 1002 q,.fn 28 [.ptr 1003 l 0 0,.ptr 1004 m 0 0]]),(1001,some<|.md w<|AK (RV.int .i64) E),(1002,some<|.md q<|AK RV.bool r.1),(1003,some<|.box l 65 [rI r.2.1.1,rI r.2.1.2]),(1004,some<|.box m 26 [.own 1005<|i 0]),(1005,some<|.arr (i 0) 33 3<|r.2.2.map AP.row)]):=by
 unfold Ha at h
 refine D7 func101 R R ntmps101 (Zs R) λV=>aU<|sS R (A6 (cs:=(Ai n1)) 3 R iL R R)<|aZ<|aT λC2=>aU<|lF CP AI R R<|xU R<|aZ<|cI R h (λh1=>?_) λh1=>?_
 ·exact Zl<|B8.mk (s':=⟨[],[(1000,some<|.box j 96 [qb B.d.Nodes,.mref 1001 w,.mref 1002 q,.fn 28 [.ptr 1003 l 0 0,.ptr 1004 m 0 0]]),(1001,some<|.md w<|AK (RV.int .i64) E),(1002,some<|.md q<|AK RV.bool m2),(1003,some<|.box l 65 [rI c1.1,rI c1.2]),(1004,some<|.box m 26 [.own 1005 A]),(1005,some<|.arr A 33 3<|M.map AP.row)],(V+1),92⟩) wk<|CM (λ(r:(List<|Int × Bool) × (Int × Int) × (List AP)) O h'=>∃(i:Nat→Nat),O=.tup []∧h'=[(1000,some<|.box j 96 [qb B.d.Nodes,.mref 1001 w,.mref 1002 q,.fn 28 [.ptr 1003 l 0 0,.ptr 1004 m 0 0]]),(1001,some<|.md w<|AK (RV.int .i64) E),(1002,some<|.md q<|AK RV.bool r.1),(1003,some<|.box l 65 [rI r.2.1.1,rI r.2.1.2]),(1004,some<|.box m 26 [.own 1005<|i 0]),(1005,some<|.arr (i 0) 33 3<|r.2.2.map AP.row)]) h1<|by exact⟨.tup [],[(1000,some<|.box j 96 [qb B.d.Nodes,.mref 1001 w,.mref 1002 q,.fn 28 [.ptr 1003 l 0 0,.ptr 1004 m 0 0]]),(1001,some<|.md w<|AK (RV.int .i64) E),(1002,some<|.md q<|AK RV.bool m2),(1003,some<|.box l 65 [rI c1.1,rI c1.2]),(1004,some<|.box m 26 [.own 1005 A]),(1005,some<|.arr A 33 3<|M.map AP.row)],⟨_,R,Za⟩,⟨.inr R,.inr R,.inr R,.inr R,.inr R,.inr R,Za⟩,R,R,AH [A],R,R⟩
 refine Zc<|C2 _<|aU<|sQ R (fB R DS iL fR R)<|lF DX Dc R R<|xL Bx R<|mM R<|aZ<|Zg<|BS h1 λo7 a0 av a1=>Rx (λ(x2:Int) (X:List (Int × Bool)) (I:(Int × Int)) (Z:List AP) C=>⟨[(0,.ptr 1000 j 0 0),(3,.ptr 3 V 0 0),(13,qc n1.Grid.Cells),(14,rL n1.Grid.Cells),(15,rI x2)],[(3,some<|.box V 54<|Ai n1),(1000,some<|.box j 96 [qb B.d.Nodes,.mref 1001 w,.mref 1002 q,.fn 28 [.ptr 1003 l 0 0,.ptr 1004 m 0 0]]),(1001,some<|.md w<|AK (RV.int .i64) E),(1002,some<|.md q<|AK RV.bool X),(1003,some<|.box l 65 [rI I.1,rI I.2]),(1004,some<|.box m 26 [.own 1005<|C 0]),(1005,some<|.arr (C 0) 33 3<|Z.map AP.row)],(C 1),92⟩) (AH [A,(V+1)]) a0 wk ?_
 intro x2 X I Z C v1 a2 a6
 have h2:F2 B E n1 self x2 X I Z=some v1:=a2;unfold F2 at h2
 refine aU<|xS R<|aZ<|aT λC6=>cI R h2 (λh3=>?_) λh3=>?_
 ·refine Zc<|C6 _<|aS λK7 C7 T=>Zg<|RN h3 λp1 a7 a8=>?_
  have J2:∀(m6:List (Int × Bool)) (o8:(Int × Int)) (o9:List AP) (i5:NN),p1=(m6,o8,o9)→K7 ⟨[(0,.ptr 1000 j 0 0),(3,.ptr 3 V 0 0),(13,qc n1.Grid.Cells),(14,rL n1.Grid.Cells),(15,rI x2)],[(3,some<|.box V 54<|Ai n1),(1000,some<|.box j 96 [qb B.d.Nodes,.mref 1001 w,.mref 1002 q,.fn 28 [.ptr 1003 l 0 0,.ptr 1004 m 0 0]]),(1001,some<|.md w<|AK (RV.int .i64) E),(1002,some<|.md q<|AK RV.bool m6),(1003,some<|.box l 65 [rI o8.1,rI o8.2]),(1004,some<|.box m 26 [.own 1005<|i5 0]),(1005,some<|.arr (i5 0) 33 3<|o9.map AP.row)],(i5 1),92⟩:=by
   intro m6 o8 o9 i5 e
   have h4:=a8 _ _ _ e
   exact C7 _<|aR<|AE h4 λx4 aa h5=>xA R aa<|mM R<|Zh<|KB.mk h5 (AH [(i5 0),(i5 1)]) wk
  refine aU<|AE a7 λF ab h6=>xI Bx R ab<|xB ((BP F)) EM R<|sS R (BI (cs:=HS) 5 R G8 R R)<|Zj R R (A5 (ds:=(BP F)) R HV iL R iL R R R R)<|aZ<|aU<|sQ R (fB R DS iL fR R)<|sQ R (GH (ds:=(B7 n1.Grid)) R GM iL R R R)<|lF D5 AI R R<|lF ES AI R R<|AE h6 λr1 ac h7=>sS R (Cb (r:=.agg<|A8 r1) (caps:=[]) (bs:=[.agg<|B7 n1.Grid,rI F.Row,rI F.Col]) R iL R ⟨.inl ⟨iL,R⟩,.inl ⟨iL,R⟩,.inl ⟨iL,R⟩,Za⟩ λ_=>VY<|ac)<|sS R (BI (cs:=FP) 6 R Gw R R)<|Zj R R (A5 (ds:=(A8 r1)) R F0 iL R iL R R R R)<|aZ<|aT λad=>aT λae=>aG [0,3,5,6,13,14,15] [3,5,6,1000,1001,1002,1003,1004,1005] ?_
  refine Zx BM (by kernel_rfl) ?_
  refine qP R (fB R Ce iL fR R)<|qP R (AY (a:=rI F.Ref) R AI iL R R)<|qP R (A4 R iL iL)<|qP R (AM R iL)<|qO R (AM R iL)<|qO R (EQ (ob:=.box _ _ _) R (iR R) fR R)<|qO R (fB R US (iR R) fR R)<|qO R (AY (a:=.mref 1001 w) R Tm (iR R) R R)<|qO R (fB R Ce iL fR R)<|qO R (AY (a:=rI F.Ref) R AI (iR R) R R) ?_
  refine qO R (IT (rd:=(RV.int .i64)) false (.int .i64 0) 0 R underlying93 underlying3 (GC VW) (λ_ _=>.int _ _) (.inr ⟨_,(by exact id),rfl⟩) (.inr ⟨_,(by exact id),rfl⟩) rfl) ?_
  refine qO R (fB R Da iL fR R)<|qO R (AY (a:=rI n1.ID) R AI (iR R) R R)<|qO R (DJ R (iR R)<|iR R)<|qP R (Cp R iL<|iR R)<|qP R (AM R iL)<|qO R (AM R iL)<|qO R (EQ (ob:=.box _ _ _) R (iR R) fR R)<|qO R (fB R P2 (iR R) fR R)<|qO R (AY (a:=.mref 1002 q) R JT (iR R) R R)<|qO R (fB R Ce iL fR R)<|qO R (AY (a:=rI F.Ref) R AI (iR R) R R) ?_
  refine qO R (IT (rd:=RV.bool) false (.bool false) false R underlying94 underlying3 (GC NX) (λ_ _=>.bool _) (.inr ⟨_,(by exact id),rfl⟩) (.inr ⟨_,(by exact id),rfl⟩) rfl) ?_
  refine qP R (Cp R iL<|iR R)<|AQ.nil<|ae _<|cI R h7 (λh8=>?_) λh8=>?_
  ·exact Zm<|T _ _ wk<|J2 _ _ _ (AH [(C 0),((C 1)+2)]) (Zf h8).symm
  refine Zc<|ad _<|aT λaf=>?_
  refine Mr 6 BM (by kernel_rfl) R R ?_
  refine ZB R R R (AM R iL)<|ZB R R R (EQ (ob:=.box _ _ _) R iL fR R)<|ZB R R R (fB R P2 iL fR R)<|ZB R R R (AY (a:=.mref 1002 q) R JT iL R R)<|ZB R R R (fB R Ce iL fR R)<|ZB R R R (AY (a:=rI F.Ref) R AI iL R R)<|AT.nil<|Zj R R (Je (rd:=RV.bool) (a:=true) (.inl rfl) underlying94 underlying3 (.inl rfl) (.inl rfl) (.inl rfl) R)<|aZ<|af _<|aT λag=>aG [0,3,5,6,13,14,15] [3,5,6,1000,1001,1002,1003,1004,1005] ?_
  refine aR<|lF Cu AI R R<|lF D5 AI R R<|xQ R<|mM R<|vF DQ AI R R<|vF ES AI R R<|vQ R (A4 R (iR R)<|iR R)<|xN R<|aZ<|ag _<|cI R h8 (λh9=>?_) λh9=>?_
  ·refine aT λah=>AE h9 λr2 ai aj=>AE aj λU ak al=>?_
   refine GJ 15 [pO 68<|.ptr 1000 j 0 0,pO 69<|.ptr 1000 j 0 0,pO 70<|.ptr 1000 j 0 0,pO 71<|.ptr 1000 j 0 0,pO 72<|qb B.d.Nodes,pO 73<|.ptr 1000 j 0 0,pO 74<|.ptr 1000 j 0 0,pO 75<|.ptr 1000 j 0 0,pO 76<|.agg [qb B.d.Nodes],pO 77<|.ptr 5 (C 1) 0 3,pO 78<|rI F.Ref,pO 79<|rI r2,pO 80<|.rop (AO.row U) 0,pO 81<|.agg<|Ai U,⟨some 7,(λG1=>.ptr 7 (G1 14) 0 0),some (7,(λG1=>some<|.box (G1 14) 54 EC)),[14]⟩] BM (by kernel_rfl) (by exact⟨λ_ _ h=>⟨R,λ_ _ e=>by cases e⟩,λ_ _ h=>⟨R,λ_ _ e=>by cases e⟩,λ_ _ h=>⟨R,λ_ _ e=>by cases e⟩,λ_ _ h=>⟨R,λ_ _ e=>by cases e⟩,λ_ _ h=>⟨R,λ_ _ e=>by cases e⟩,λ_ _ h=>⟨R,λ_ _ e=>by cases e⟩,λ_ _ h=>⟨R,λ_ _ e=>by cases e⟩,λ_ _ h=>⟨R,λ_ _ e=>by cases e⟩,λ_ _ h=>⟨R,λ_ _ e=>by cases e⟩,λ_ _ h=>⟨R,λ_ _ e=>by cases e⟩,λ_ _ h=>⟨R,λ_ _ e=>by cases e⟩,λ_ _ h=>⟨R,λ_ _ e=>by cases e⟩,λ_ _ h=>⟨R,λ_ _ e=>by cases e⟩,λ_ _ h=>⟨R,λ_ _ e=>by cases e⟩,λ_ _ h=>⟨by simp only[h 14 R],λ_ _ e=>by cases e;simp only[h 14 R]⟩,Za⟩) R (by exact⟨oB [(0,.ptr 1000 j 0 0)] [(1000,some<|.box j 96 [qb B.d.Nodes,.mref 1001 w,.mref 1002 q,.fn 28 [.ptr 1003 l 0 0,.ptr 1004 m 0 0]])]<|AM R<|.inl R,oB [(68,.ptr 1000 j 0 0)] [(1000,some<|.box j 96 [qb B.d.Nodes,.mref 1001 w,.mref 1002 q,.fn 28 [.ptr 1003 l 0 0,.ptr 1004 m 0 0]])]<|EQ (ob:=.box _ _ _) R (.inl R) (λ_=>R) R,oB [(69,.ptr 1000 j 0 0)] [(1000,some<|.box j 96 [qb B.d.Nodes,.mref 1001 w,.mref 1002 q,.fn 28 [.ptr 1003 l 0 0,.ptr 1004 m 0 0]])]<|fB R Qk (.inl R) (λ_=>R) R,oB [(70,.ptr 1000 j 0 0)] [(1000,some<|.box j 96 [qb B.d.Nodes,.mref 1001 w,.mref 1002 q,.fn 28 [.ptr 1003 l 0 0,.ptr 1004 m 0 0]])]<|fB R B6 (.inl R) (λ_=>R) R,oB [(71,.ptr 1000 j 0 0)] [(1000,some<|.box j 96 [qb B.d.Nodes,.mref 1001 w,.mref 1002 q,.fn 28 [.ptr 1003 l 0 0,.ptr 1004 m 0 0]])]<|AY (a:=qb B.d.Nodes) R CA (.inl R) R R,oB [(0,.ptr 1000 j 0 0)] [(1000,some<|.box j 96 [qb B.d.Nodes,.mref 1001 w,.mref 1002 q,.fn 28 [.ptr 1003 l 0 0,.ptr 1004 m 0 0]])]<|AM R<|.inl R,oB [(73,.ptr 1000 j 0 0)] [(1000,some<|.box j 96 [qb B.d.Nodes,.mref 1001 w,.mref 1002 q,.fn 28 [.ptr 1003 l 0 0,.ptr 1004 m 0 0]])]<|EQ (ob:=.box _ _ _) R (.inl R) (λ_=>R) R,oB [(74,.ptr 1000 j 0 0)] [(1000,some<|.box j 96 [qb B.d.Nodes,.mref 1001 w,.mref 1002 q,.fn 28 [.ptr 1003 l 0 0,.ptr 1004 m 0 0]])]<|fB R Qk (.inl R) (λ_=>R) R,oB [(75,.ptr 1000 j 0 0)] [(1000,some<|.box j 96 [qb B.d.Nodes,.mref 1001 w,.mref 1002 q,.fn 28 [.ptr 1003 l 0 0,.ptr 1004 m 0 0]])]<|GH (ds:=[qb B.d.Nodes]) R Bz (.inl R) R R R,oB [(5,.ptr 5 (C 1) 0 0)] [(5,some<|.box (C 1) 107<|BP F)]<|fB R Ce (.inl R) (λ_=>R) R,oB [(77,.ptr 5 (C 1) 0 3)] [(5,some<|.box (C 1) 107<|BP F)]<|AY (a:=rI F.Ref) R AI (.inl R) R R,oD (λ_=>[(76,.agg [qb B.d.Nodes]),(78,rI F.Ref)]) (λ_=>[]) λG1 e h' n=>DU (r:=rI r2) (caps:=[]) (bs:=[.agg [qb B.d.Nodes],rI F.Ref]) R (.inl R) R ⟨⟨_,(.inl R),.g (cs:=[.sl<|B.d.Nodes.map AO.row]) R R⟩,⟨_,(.inl R),.d R⟩,Za⟩ (λ_=>QB<|ai) R,oB [(72,qb B.d.Nodes),(79,rI r2)] []<|A9 R Bh.slice (.inl R) (.inl R) (λ_=>R) λ_=>ak,oB [(80,.rop (AO.row U) 0)] []<|CN (cs:=(Ai U)) R C0 (.inl R) R R,oM (λ_=>[]) (λ_=>[]) R λG1 e h' n=>BI (cs:=EC) 7 R Gq R R,Za⟩) λG1 n2=>?_
   refine BZ [0,3,5,6,7,13,14,15,56,57,58,59,60,61,67,68,69,70,71,72,73,74,75,76,77,78,79,80,81] [3,5,6,7,1000,1001,1002,1003,1004,1005] ?_
   refine Zj R R (A5 (ds:=(Ai U)) R GY iL R iL R R R R)<|aZ<|ah _<|aT λan=>aG [0,3,7,13,14,15] [3,7,1000,1001,1002,1003,1004,1005] ?_
   refine Mr 5 BM (by kernel_rfl) R R ?_
   refine ZB R R R (AM R iL)<|ZB R R R (EQ (ob:=.box _ _ _) R iL fR R)<|ZB R R R (fB R YS iL fR R)<|ZB R R R (AY (a:=.fn 28 [.ptr 1003 l 0 0,.ptr 1004 m 0 0]) R Yq iL R R)<|ZB R R R (Dm R C0 iL R R)<|AT.nil<|E4 al λw2 w3 ao aq=>?_
   refine Zy [1003,1004,1005] (hc:=[(1000,some<|.box l 65 [rI I.1,rI I.2]),(1001,some<|.box m 26 [.own 1002<|C 0]),(1002,some<|.arr (C 0) 33 3<|Z.map AP.row)]) (bs:=(Ho U)) (caps:=[.ptr 1000 l 0 0,.ptr 1001 m 0 0]) R R R R iL R ⟨.inl ⟨iL,R⟩,Za⟩ ⟨R,R,R,R,R,R,R,R,R,Za⟩ (by decide) (V3 ao) ?_
   intro i6 n3
   refine BZ [0,3,7,13,14,15,82,83,84,85,86,87] [3,7,1000,1001,1002,1003,1004,1005] ?_
   refine aZ<|an _<|aR<|mM R<|xC C0 R<|Ih aq λw4 w5 w6 ar au=>?_
   refine Zy [1000,1001,1002,1003,1004,1005] (hc:=[(1000,some<|.box j 96 [qb B.d.Nodes,.mref 1001 w,.mref 1002 q,.fn 28 [.ptr 1003 l 0 0,.ptr 1004 m 0 0]]),(1001,some<|.md w<|AK (RV.int .i64) E),(1002,some<|.md q<|AK RV.bool<|Ah X F.Ref true),(1003,some<|.box l 65 [rI w2.1,rI w2.2]),(1004,some<|.box m 26 [.own 1005<|i6 0]),(1005,some<|.arr (i6 0) 33 3<|w3.map AP.row)]) (bs:=[.ptr 1000 j 0 0,.agg<|Ai U]) (caps:=[]) R R R R iL R ⟨.inl ⟨iL,R⟩,.inl ⟨iL,R⟩,Za⟩ ⟨R,R,R,R,R,R,R,R,R,R,R,R,R,R,R,R,R,R,Za⟩ (by decide) (J ar) ?_
   intro i7 n4
   refine BZ [0,3,7,13,14,15,82,83,84,85,86,87,88,89,90] [3,7,1000,1001,1002,1003,1004,1005] ?_
   exact Zh<|T _ _ wk<|J2 _ _ _ (AH [(i7 0),n4]) (Zf au).symm
  exact Zc<|T _ _ wk<|J2 _ _ _ (AH [(C 0),((C 1)+2)]) (Zf h9).symm
 refine Zm ?_
 exact B8.mk (s':=⟨[],[(1000,some<|.box j 96 [qb B.d.Nodes,.mref 1001 w,.mref 1002 q,.fn 28 [.ptr 1003 l 0 0,.ptr 1004 m 0 0]]),(1001,some<|.md w<|AK (RV.int .i64) E),(1002,some<|.md q<|AK RV.bool X),(1003,some<|.box l 65 [rI I.1,rI I.2]),(1004,some<|.box m 26 [.own 1005<|C 0]),(1005,some<|.arr (C 0) 33 3<|Z.map AP.row)],(C 1),92⟩) wk<|CM (λ(r:(List<|Int × Bool) × (Int × Int) × (List AP)) O h'=>∃(i:Nat→Nat),O=.tup []∧h'=[(1000,some<|.box j 96 [qb B.d.Nodes,.mref 1001 w,.mref 1002 q,.fn 28 [.ptr 1003 l 0 0,.ptr 1004 m 0 0]]),(1001,some<|.md w<|AK (RV.int .i64) E),(1002,some<|.md q<|AK RV.bool r.1),(1003,some<|.box l 65 [rI r.2.1.1,rI r.2.1.2]),(1004,some<|.box m 26 [.own 1005<|i 0]),(1005,some<|.arr (i 0) 33 3<|r.2.2.map AP.row)]) (a1 _<|xH a6 h3)<|by exact⟨.tup [],[(1000,some<|.box j 96 [qb B.d.Nodes,.mref 1001 w,.mref 1002 q,.fn 28 [.ptr 1003 l 0 0,.ptr 1004 m 0 0]]),(1001,some<|.md w<|AK (RV.int .i64) E),(1002,some<|.md q<|AK RV.bool X),(1003,some<|.box l 65 [rI I.1,rI I.2]),(1004,some<|.box m 26 [.own 1005<|C 0]),(1005,some<|.arr (C 0) 33 3<|Z.map AP.row)],⟨_,R,Za⟩,⟨.inr R,.inr R,.inr R,.inr R,.inr R,.inr R,Za⟩,R,R,AH [(C 0)],R,R⟩
theorem ZP{self:Dg→(List<|Int × Int)→(List<|Int × Bool)→(Int × Int)→(List AP)→AO→Option ((List<|Int × Bool) × (Int × Int) × (List AP))}(Z:∀ {B:Dg} {I:List (Int × Int)} {m2:List (Int × Bool)} {c1:(Int × Int)} {c2:List AP} {n1:AO} {r:(List<|Int × Bool) × (Int × Int) × (List AP)} {j:Nat} {w:Nat} {q:Nat} {l:Nat} {m:Nat} {A:Nat},self B I m2 c1 c2 n1=some r→BC prog 58 6 [.ptr 1000 j 0 0,.agg<|Ai n1] [(1000,some<|.box j 96 [qb B.d.Nodes,.mref 1001 w,.mref 1002 q,.fn 28 [.ptr 1003 l 0 0,.ptr 1004 m 0 0]]),(1001,some<|.md w<|AK (RV.int .i64) I),(1002,some<|.md q<|AK RV.bool m2),(1003,some<|.box l 65 [rI c1.1,rI c1.2]),(1004,some<|.box m 26 [.own 1005 A]),(1005,some<|.arr A 33 3<|c2.map AP.row)] (λrr h'=>∃(i:Nat→Nat),rr=.tup []∧h'=[(1000,some<|.box j 96 [qb B.d.Nodes,.mref 1001 w,.mref 1002 q,.fn 28 [.ptr 1003 l 0 0,.ptr 1004 m 0 0]]),(1001,some<|.md w<|AK (RV.int .i64) I),(1002,some<|.md q<|AK RV.bool r.1),(1003,some<|.box l 65 [rI r.2.1.1,rI r.2.1.2]),(1004,some<|.box m 26 [.own 1005<|i 0]),(1005,some<|.arr (i 0) 33 3<|r.2.2.map AP.row)])){B:Dg}{I:List (Int × Int)}{m2:List (Int × Bool)}{c1:(Int × Int)}{c2:List AP}{n1:AO}{r:(List<|Int × Bool) × (Int × Int) × (List AP)}{j:Nat}{w:Nat}{q:Nat}{l:Nat}{m:Nat}{A:Nat}(h:I4 self B I m2 c1 c2 n1=some r):BC prog 58 6 [.ptr 1000 j 0 0,.agg<|Ai n1] [(1000,some<|.box j 96 [qb B.d.Nodes,.mref 1001 w,.mref 1002 q,.fn 28 [.ptr 1003 l 0 0,.ptr 1004 m 0 0]]),(1001,some<|.md w<|AK (RV.int .i64) I),(1002,some<|.md q<|AK RV.bool m2),(1003,some<|.box l 65 [rI c1.1,rI c1.2]),(1004,some<|.box m 26 [.own 1005 A]),(1005,some<|.arr A 33 3<|c2.map AP.row)] (λrr h'=>∃(i:Nat→Nat),rr=.tup []∧h'=[(1000,some<|.box j 96 [qb B.d.Nodes,.mref 1001 w,.mref 1002 q,.fn 28 [.ptr 1003 l 0 0,.ptr 1004 m 0 0]]),(1001,some<|.md w<|AK (RV.int .i64) I),(1002,some<|.md q<|AK RV.bool r.1),(1003,some<|.box l 65 [rI r.2.1.1,rI r.2.1.2]),(1004,some<|.box m 26 [.own 1005<|i 0]),(1005,some<|.arr (i 0) 33 3<|r.2.2.map AP.row)]):=by
 unfold I4 at h
 refine D7 func58 R R ntmps58 (Zs R) λU=>aU<|sS R (A6 (cs:=(Ai n1)) 3 R iL R R)<|aZ<|aU<|lF Dk D0 R R<|AE h λT ah h1=>sS R (Cb (r:=.r<|.sl<|T.map<|Ab .i64) (caps:=[]) (bs:=[qe n1.Flow,rI 0]) R iL R ⟨.inl ⟨iL,R⟩,.inl ⟨iL,R⟩,Za⟩ λ_=>cT<|ah)<|xL Bi R<|mM R<|aZ<|Zg<|BS h1 λo7 a7 bn ai=>Rx (λ(x2:Int) (V:List (Int × Bool)) (O:(Int × Int)) (X:List AP) C=>⟨[(0,.ptr 1000 j 0 0),(3,.ptr 3 U 0 0),(13,.r<|.sl<|T.map<|Ab .i64),(14,rL T),(15,rI x2)],[(3,some<|.box U 54<|Ai n1),(1000,some<|.box j 96 [qb B.d.Nodes,.mref 1001 w,.mref 1002 q,.fn 28 [.ptr 1003 l 0 0,.ptr 1004 m 0 0]]),(1001,some<|.md w<|AK (RV.int .i64) I),(1002,some<|.md q<|AK RV.bool V),(1003,some<|.box l 65 [rI O.1,rI O.2]),(1004,some<|.box m 26 [.own 1005<|C 0]),(1005,some<|.arr (C 0) 33 3<|X.map AP.row)],(C 1),98⟩) (AH [A,(U+1)]) a7 wk ?_
 intro x2 V O X C v1 aj ak
 have h2:F7 B I n1 self T x2 V O X=some v1:=aj;unfold F7 at h2
 refine aU<|xS R<|aZ<|aT λC4=>cI R h2 (λh3=>?_) λh3=>?_
 ·refine Zc<|C4 _<|aS λK5 C5 a0=>Zg<|RN h3 λp1 al an=>?_
  have J2:∀(m6:List (Int × Bool)) (o8:(Int × Int)) (o9:List AP) (i5:NN),p1=(m6,o8,o9)→K5 ⟨[(0,.ptr 1000 j 0 0),(3,.ptr 3 U 0 0),(13,.r<|.sl<|T.map<|Ab .i64),(14,rL T),(15,rI x2)],[(3,some<|.box U 54<|Ai n1),(1000,some<|.box j 96 [qb B.d.Nodes,.mref 1001 w,.mref 1002 q,.fn 28 [.ptr 1003 l 0 0,.ptr 1004 m 0 0]]),(1001,some<|.md w<|AK (RV.int .i64) I),(1002,some<|.md q<|AK RV.bool m6),(1003,some<|.box l 65 [rI o8.1,rI o8.2]),(1004,some<|.box m 26 [.own 1005<|i5 0]),(1005,some<|.arr (i5 0) 33 3<|o9.map AP.row)],(i5 1),98⟩:=by
   intro m6 o8 o9 i5 e
   have h4:=an _ _ _ e
   exact C5 _<|aR<|AE h4 λx4 ao h5=>xA R ao<|mM R<|Zh<|KB.mk h5 (AH [(i5 0),(i5 1)]) wk
  refine aU<|AE al λx5 aq h6=>xI Bi R aq<|xV (.int .i64 x5) AI R<|mA R<|aZ<|aU<|lF Dk D0 R R<|mM R<|AE h6 λJ ar h7=>xI Bb R ar<|xB ((Bg J)) Fr R<|sS R (BI (cs:=JJ) 6 R JD R R)<|Zj R R (A5 (ds:=(Bg J)) R IA iL R iL R R R R)<|aZ<|aT λC8=>aT λC9=>?_
  refine Zx BM (by kernel_rfl) ?_
  refine qP R (fB R Cm iL fR R)<|qP R (AY (a:=rI J.Ref) R AI iL R R)<|qP R (A4 R iL iL)<|qP R (AM R iL)<|qO R (AM R iL)<|qO R (EQ (ob:=.box _ _ _) R (iR R) fR R)<|qO R (fB R US (iR R) fR R)<|qO R (AY (a:=.mref 1001 w) R Tm (iR R) R R)<|qO R (fB R Cm iL fR R)<|qO R (AY (a:=rI J.Ref) R AI (iR R) R R) ?_
  refine qO R (IT (rd:=(RV.int .i64)) false (.int .i64 0) 0 R underlying93 underlying3 (GC VW) (λ_ _=>.int _ _) (.inr ⟨_,(by exact id),rfl⟩) (.inr ⟨_,(by exact id),rfl⟩) rfl) ?_
  refine qO R (fB R Da iL fR R)<|qO R (AY (a:=rI n1.ID) R AI (iR R) R R)<|qO R (DJ R (iR R)<|iR R)<|qP R (Cp R iL<|iR R)<|qP R (AM R iL)<|qO R (AM R iL)<|qO R (EQ (ob:=.box _ _ _) R (iR R) fR R)<|qO R (fB R P2 (iR R) fR R)<|qO R (AY (a:=.mref 1002 q) R JT (iR R) R R)<|qO R (fB R Cm iL fR R)<|qO R (AY (a:=rI J.Ref) R AI (iR R) R R) ?_
  refine qO R (IT (rd:=RV.bool) false (.bool false) false R underlying94 underlying3 (GC NX) (λ_ _=>.bool _) (.inr ⟨_,(by exact id),rfl⟩) (.inr ⟨_,(by exact id),rfl⟩) rfl) ?_
  refine qP R (Cp R iL<|iR R)<|AQ.nil<|C9 _<|cI R h7 (λh8=>?_) λh8=>?_
  ·exact Zm<|a0 _ _ wk<|J2 _ _ _ (AH [(C 0),((C 1)+1)]) (Zf h8).symm
  refine Zc<|C8 _<|aT λau=>aG [0,3,5,6,13,14,15] [3,6,1000,1001,1002,1003,1004,1005] ?_
  refine aR<|mA R<|aZ<|au _<|aS λav aw a8=>aT λax=>aR<|lF Dk D0 R R<|mM R<|AE h8 λl1 ay h9=>?_
  refine sQ R (Tl R Bb.slice iL (by exact R) (by exact⟨_,iL⟩) (λ_=>R) λ_=>ay) ?_
  refine xL Bb R<|mM R<|aZ<|ax _<|Zg<|BV h9 λaz aa b0=>?_
  have J3:∀(E:Bool) (a1:NN),az=E→av ⟨[(0,.ptr 1000 j 0 0),(3,.ptr 3 U 0 0),(6,.ptr 6 (C 1) 0 0),(7,rB E),(13,.r<|.sl<|T.map<|Ab .i64),(14,rL T),(15,rI x2)],[(3,some<|.box U 54<|Ai n1),(6,some<|.box (C 1) 37<|Bg J),(1000,some<|.box j 96 [qb B.d.Nodes,.mref 1001 w,.mref 1002 q,.fn 28 [.ptr 1003 l 0 0,.ptr 1004 m 0 0]]),(1001,some<|.md w<|AK (RV.int .i64) I),(1002,some<|.md q<|AK RV.bool V),(1003,some<|.box l 65 [rI O.1,rI O.2]),(1004,some<|.box m 26 [.own 1005<|C 0]),(1005,some<|.arr (C 0) 33 3<|X.map AP.row)],(a1 0),98⟩:=by
   intro E a1 e
   have b4:=b0 _ e
   refine aw _<|aT λb5=>?_
   refine Mr 6 BM (by kernel_rfl) R R ?_
   refine ZB R R R (AM R iL)<|ZB R R R (EQ (ob:=.box _ _ _) R iL fR R)<|ZB R R R (fB R P2 iL fR R)<|ZB R R R (AY (a:=.mref 1002 q) R JT iL R R)<|ZB R R R (fB R Cm iL fR R)<|ZB R R R (AY (a:=rI J.Ref) R AI iL R R)<|AT.nil<|Zj R R (Je (rd:=RV.bool) (a:=true) (.inl rfl) underlying94 underlying3 (.inl rfl) (.inl rfl) (.inl rfl) R)<|aZ<|b5 _<|aT λb6=>aU<|mM R<|sQ R (BE R iL)<|aZ<|cI R b4 (λa2=>?_) λa2=>?_
   ·exact Zm<|a0 _ _ wk<|J2 _ _ _ (AH [(C 0),(a1 0)]) (Zf a2).symm
   refine Zc<|b6 _<|aT λb7=>aG [0,3,6,13,14,15] [3,6,1000,1001,1002,1003,1004,1005] ?_
   refine AE a2 λr2 b8 b9=>AE b9 λM ab ba=>?_
   refine GJ 15 [pO 74<|.ptr 1000 j 0 0,pO 75<|.ptr 1000 j 0 0,pO 76<|.ptr 1000 j 0 0,pO 77<|.ptr 1000 j 0 0,pO 78<|qb B.d.Nodes,pO 79<|.ptr 1000 j 0 0,pO 80<|.ptr 1000 j 0 0,pO 81<|.ptr 1000 j 0 0,pO 82<|.agg [qb B.d.Nodes],pO 83<|.ptr 6 (C 1) 0 1,pO 84<|rI J.Ref,pO 85<|rI r2,pO 86<|.rop (AO.row M) 0,pO 87<|.agg<|Ai M,⟨some 10,(λG1=>.ptr 10 (G1 14) 0 0),some (10,(λG1=>some<|.box (G1 14) 54 EC)),[14]⟩] BM (by kernel_rfl) (by exact⟨λ_ _ h=>⟨R,λ_ _ e=>by cases e⟩,λ_ _ h=>⟨R,λ_ _ e=>by cases e⟩,λ_ _ h=>⟨R,λ_ _ e=>by cases e⟩,λ_ _ h=>⟨R,λ_ _ e=>by cases e⟩,λ_ _ h=>⟨R,λ_ _ e=>by cases e⟩,λ_ _ h=>⟨R,λ_ _ e=>by cases e⟩,λ_ _ h=>⟨R,λ_ _ e=>by cases e⟩,λ_ _ h=>⟨R,λ_ _ e=>by cases e⟩,λ_ _ h=>⟨R,λ_ _ e=>by cases e⟩,λ_ _ h=>⟨R,λ_ _ e=>by cases e⟩,λ_ _ h=>⟨R,λ_ _ e=>by cases e⟩,λ_ _ h=>⟨R,λ_ _ e=>by cases e⟩,λ_ _ h=>⟨R,λ_ _ e=>by cases e⟩,λ_ _ h=>⟨R,λ_ _ e=>by cases e⟩,λ_ _ h=>⟨by simp only[h 14 R],λ_ _ e=>by cases e;simp only[h 14 R]⟩,Za⟩) R (by exact⟨oB [(0,.ptr 1000 j 0 0)] [(1000,some<|.box j 96 [qb B.d.Nodes,.mref 1001 w,.mref 1002 q,.fn 28 [.ptr 1003 l 0 0,.ptr 1004 m 0 0]])]<|AM R<|.inl R,oB [(74,.ptr 1000 j 0 0)] [(1000,some<|.box j 96 [qb B.d.Nodes,.mref 1001 w,.mref 1002 q,.fn 28 [.ptr 1003 l 0 0,.ptr 1004 m 0 0]])]<|EQ (ob:=.box _ _ _) R (.inl R) (λ_=>R) R,oB [(75,.ptr 1000 j 0 0)] [(1000,some<|.box j 96 [qb B.d.Nodes,.mref 1001 w,.mref 1002 q,.fn 28 [.ptr 1003 l 0 0,.ptr 1004 m 0 0]])]<|fB R Qk (.inl R) (λ_=>R) R,oB [(76,.ptr 1000 j 0 0)] [(1000,some<|.box j 96 [qb B.d.Nodes,.mref 1001 w,.mref 1002 q,.fn 28 [.ptr 1003 l 0 0,.ptr 1004 m 0 0]])]<|fB R B6 (.inl R) (λ_=>R) R,oB [(77,.ptr 1000 j 0 0)] [(1000,some<|.box j 96 [qb B.d.Nodes,.mref 1001 w,.mref 1002 q,.fn 28 [.ptr 1003 l 0 0,.ptr 1004 m 0 0]])]<|AY (a:=qb B.d.Nodes) R CA (.inl R) R R,oB [(0,.ptr 1000 j 0 0)] [(1000,some<|.box j 96 [qb B.d.Nodes,.mref 1001 w,.mref 1002 q,.fn 28 [.ptr 1003 l 0 0,.ptr 1004 m 0 0]])]<|AM R<|.inl R,oB [(79,.ptr 1000 j 0 0)] [(1000,some<|.box j 96 [qb B.d.Nodes,.mref 1001 w,.mref 1002 q,.fn 28 [.ptr 1003 l 0 0,.ptr 1004 m 0 0]])]<|EQ (ob:=.box _ _ _) R (.inl R) (λ_=>R) R,oB [(80,.ptr 1000 j 0 0)] [(1000,some<|.box j 96 [qb B.d.Nodes,.mref 1001 w,.mref 1002 q,.fn 28 [.ptr 1003 l 0 0,.ptr 1004 m 0 0]])]<|fB R Qk (.inl R) (λ_=>R) R,oB [(81,.ptr 1000 j 0 0)] [(1000,some<|.box j 96 [qb B.d.Nodes,.mref 1001 w,.mref 1002 q,.fn 28 [.ptr 1003 l 0 0,.ptr 1004 m 0 0]])]<|GH (ds:=[qb B.d.Nodes]) R Bz (.inl R) R R R,oB [(6,.ptr 6 (C 1) 0 0)] [(6,some<|.box (C 1) 37<|Bg J)]<|fB R Cm (.inl R) (λ_=>R) R,oB [(83,.ptr 6 (C 1) 0 1)] [(6,some<|.box (C 1) 37<|Bg J)]<|AY (a:=rI J.Ref) R AI (.inl R) R R,oD (λ_=>[(82,.agg [qb B.d.Nodes]),(84,rI J.Ref)]) (λ_=>[]) λG1 e h' n=>DU (r:=rI r2) (caps:=[]) (bs:=[.agg [qb B.d.Nodes],rI J.Ref]) R (.inl R) R ⟨⟨_,(.inl R),.g (cs:=[.sl<|B.d.Nodes.map AO.row]) R R⟩,⟨_,(.inl R),.d R⟩,Za⟩ (λ_=>QB<|b8) R,oB [(78,qb B.d.Nodes),(85,rI r2)] []<|A9 R Bh.slice (.inl R) (.inl R) (λ_=>R) λ_=>ab,oB [(86,.rop (AO.row M) 0)] []<|CN (cs:=(Ai M)) R C0 (.inl R) R R,oM (λ_=>[]) (λ_=>[]) R λG1 e h' n=>BI (cs:=EC) 10 R Gq R R,Za⟩) λG1 n2=>?_
   refine BZ [0,3,6,10,13,14,15,74,75,76,77,78,79,80,81,82,83,84,85,86,87] [3,6,10,1000,1001,1002,1003,1004,1005] ?_
   refine Zj R R (A5 (ds:=(Ai M)) R GY iL R iL R R R R)<|aZ<|b7 _<|aT λbb=>aG [0,3,10,13,14,15] [3,10,1000,1001,1002,1003,1004,1005] ?_
   refine Mr 5 BM (by kernel_rfl) R R ?_
   refine ZB R R R (AM R iL)<|ZB R R R (EQ (ob:=.box _ _ _) R iL fR R)<|ZB R R R (fB R YS iL fR R)<|ZB R R R (AY (a:=.fn 28 [.ptr 1003 l 0 0,.ptr 1004 m 0 0]) R Yq iL R R)<|ZB R R R (Dm R C0 iL R R)<|AT.nil<|E4 ba λw2 w3 bc bd=>?_
   refine Zy [1003,1004,1005] (hc:=[(1000,some<|.box l 65 [rI O.1,rI O.2]),(1001,some<|.box m 26 [.own 1002<|C 0]),(1002,some<|.arr (C 0) 33 3<|X.map AP.row)]) (bs:=(Ho M)) (caps:=[.ptr 1000 l 0 0,.ptr 1001 m 0 0]) R R R R iL R ⟨.inl ⟨iL,R⟩,Za⟩ ⟨R,R,R,R,R,R,R,R,R,Za⟩ (by decide) (V3 bc) ?_
   intro ac n3
   refine BZ [0,3,10,13,14,15,88,89,90,91,92,93] [3,10,1000,1001,1002,1003,1004,1005] ?_
   refine aZ<|bb _<|aR<|mM R<|xC C0 R<|Ih bd λw4 w5 w6 be bf=>?_
   refine Zy [1000,1001,1002,1003,1004,1005] (hc:=[(1000,some<|.box j 96 [qb B.d.Nodes,.mref 1001 w,.mref 1002 q,.fn 28 [.ptr 1003 l 0 0,.ptr 1004 m 0 0]]),(1001,some<|.md w<|AK (RV.int .i64) I),(1002,some<|.md q<|AK RV.bool<|Ah V J.Ref true),(1003,some<|.box l 65 [rI w2.1,rI w2.2]),(1004,some<|.box m 26 [.own 1005<|ac 0]),(1005,some<|.arr (ac 0) 33 3<|w3.map AP.row)]) (bs:=[.ptr 1000 j 0 0,.agg<|Ai M]) (caps:=[]) R R R R iL R ⟨.inl ⟨iL,R⟩,.inl ⟨iL,R⟩,Za⟩ ⟨R,R,R,R,R,R,R,R,R,R,R,R,R,R,R,R,R,R,Za⟩ (by decide) (ky Z be) ?_
   intro bg n4
   refine BZ [0,3,10,13,14,15,88,89,90,91,92,93,94,95,96] [3,10,1000,1001,1002,1003,1004,1005] ?_
   exact Zh<|a0 _ _ wk<|J2 _ _ _ (AH [(bg 0),n4]) (Zf bf).symm
  refine Cs (λ(F:Bool) (x8:Int) i8=>⟨[(0,.ptr 1000 j 0 0),(3,.ptr 3 U 0 0),(6,.ptr 6 (C 1) 0 0),(7,rB F),(13,.r<|.sl<|T.map<|Ab .i64),(14,rL T),(15,rI x2),(51,qe l1),(52,rL l1),(53,rI x8)],[(3,some<|.box U 54<|Ai n1),(6,some<|.box (C 1) 37<|Bg J),(1000,some<|.box j 96 [qb B.d.Nodes,.mref 1001 w,.mref 1002 q,.fn 28 [.ptr 1003 l 0 0,.ptr 1004 m 0 0]]),(1001,some<|.md w<|AK (RV.int .i64) I),(1002,some<|.md q<|AK RV.bool V),(1003,some<|.box l 65 [rI O.1,rI O.2]),(1004,some<|.box m 26 [.own 1005<|C 0]),(1005,some<|.arr (C 0) 33 3<|X.map AP.row)],(i8 0),98⟩) (AH [((C 1)+1)]) aa wk ?_
  intro F x8 i8 v2 bh bi
  have ad:HN J l1 F x8=some v2:=bh;unfold HN at ad
  refine aU<|xS R<|aZ<|aT λbj=>cI R ad (λa6=>?_) λa6=>?_
  ·exact Zc<|bj _<|aT λbk=>Zg<|aU<|AE a6 λae af bl=>xI Bb R af<|xB ((Bg ae)) Fr R<|sS R (BI (cs:=JJ) 9 R JD R R)<|Zj R R (A5 (ds:=(Bg ae)) R IA iL R iL R R R R)<|aZ<|aR<|mM R<|mM R<|vF Cm AI R R<|vF Cm AI R R<|vQ R (DJ R (iR R)<|iR R)<|xN R<|mA R<|aZ<|bk _<|aR<|AE bl λbo ag bm=>xA R ag<|mM R<|Zh<|ZJ bm (AH [((i8 0)+1)]) wk
  exact Zm<|a8 _ _ wk<|J3 _ (AH [(i8 0)])<|xH bi a6
 refine Zm ?_
 exact B8.mk (s':=⟨[],[(1000,some<|.box j 96 [qb B.d.Nodes,.mref 1001 w,.mref 1002 q,.fn 28 [.ptr 1003 l 0 0,.ptr 1004 m 0 0]]),(1001,some<|.md w<|AK (RV.int .i64) I),(1002,some<|.md q<|AK RV.bool V),(1003,some<|.box l 65 [rI O.1,rI O.2]),(1004,some<|.box m 26 [.own 1005<|C 0]),(1005,some<|.arr (C 0) 33 3<|X.map AP.row)],(C 1),98⟩) wk<|CM (λ(r:(List<|Int × Bool) × (Int × Int) × (List AP)) rr h'=>∃(i:Nat→Nat),rr=.tup []∧h'=[(1000,some<|.box j 96 [qb B.d.Nodes,.mref 1001 w,.mref 1002 q,.fn 28 [.ptr 1003 l 0 0,.ptr 1004 m 0 0]]),(1001,some<|.md w<|AK (RV.int .i64) I),(1002,some<|.md q<|AK RV.bool r.1),(1003,some<|.box l 65 [rI r.2.1.1,rI r.2.1.2]),(1004,some<|.box m 26 [.own 1005<|i 0]),(1005,some<|.arr (i 0) 33 3<|r.2.2.map AP.row)]) (ai _<|xH ak h3)<|by exact⟨.tup [],[(1000,some<|.box j 96 [qb B.d.Nodes,.mref 1001 w,.mref 1002 q,.fn 28 [.ptr 1003 l 0 0,.ptr 1004 m 0 0]]),(1001,some<|.md w<|AK (RV.int .i64) I),(1002,some<|.md q<|AK RV.bool V),(1003,some<|.box l 65 [rI O.1,rI O.2]),(1004,some<|.box m 26 [.own 1005<|C 0]),(1005,some<|.arr (C 0) 33 3<|X.map AP.row)],⟨_,R,Za⟩,⟨.inr R,.inr R,.inr R,.inr R,.inr R,.inr R,Za⟩,R,R,AH [(C 0)],R,R⟩
theorem oW(n:Nat):∀ {B:Dg} {C:List (Int × Int)} {m2:List (Int × Bool)} {c1:(Int × Int)} {E:List AP} {n1:AO} {r:(List<|Int × Bool) × (Int × Int) × (List AP)} {w:Nat} {j:Nat} {l:Nat} {m:Nat} {q:Nat} {A:Nat},Ca n B C m2 c1 E n1=some r→BC prog 58 6 [.ptr 1000 w 0 0,.agg<|Ai n1] [(1000,some<|.box w 96 [qb B.d.Nodes,.mref 1001 j,.mref 1002 l,.fn 28 [.ptr 1003 m 0 0,.ptr 1004 q 0 0]]),(1001,some<|.md j<|AK (RV.int .i64) C),(1002,some<|.md l<|AK RV.bool m2),(1003,some<|.box m 65 [rI c1.1,rI c1.2]),(1004,some<|.box q 26 [.own 1005 A]),(1005,some<|.arr A 33 3<|E.map AP.row)] (λF h'=>∃(i:Nat→Nat),F=.tup []∧h'=[(1000,some<|.box w 96 [qb B.d.Nodes,.mref 1001 j,.mref 1002 l,.fn 28 [.ptr 1003 m 0 0,.ptr 1004 q 0 0]]),(1001,some<|.md j<|AK (RV.int .i64) C),(1002,some<|.md l<|AK RV.bool r.1),(1003,some<|.box m 65 [rI r.2.1.1,rI r.2.1.2]),(1004,some<|.box q 26 [.own 1005<|i 0]),(1005,some<|.arr (i 0) 33 3<|r.2.2.map AP.row)]):=by
 induction n with
 | zero=>intro B C m2 c1 E n1 r w j l m q A h;exact absurd (show(none:Option ((List<|Int × Bool) × (Int × Int) × (List AP)))=some r from h)<|by simp
 | succ n I=>intro B C m2 c1 E n1 r w j l m q A h;exact ZP (self:=λB C m2 c1 E n1=>Ca n B C m2 c1 E n1) (λJ=>I J) h
theorem Y5{B:Dg}{C:List (Int × Int)}{m2:List (Int × Bool)}{c1:(Int × Int)}{E:List AP}{n1:AO}{r:(List<|Int × Bool) × (Int × Int) × (List AP)}{w:Nat}{j:Nat}{l:Nat}{m:Nat}{q:Nat}{A:Nat}(h:Lk B C m2 c1 E n1=some r):BC prog 58 6 [.ptr 1000 w 0 0,.agg<|Ai n1] [(1000,some<|.box w 96 [qb B.d.Nodes,.mref 1001 j,.mref 1002 l,.fn 28 [.ptr 1003 m 0 0,.ptr 1004 q 0 0]]),(1001,some<|.md j<|AK (RV.int .i64) C),(1002,some<|.md l<|AK RV.bool m2),(1003,some<|.box m 65 [rI c1.1,rI c1.2]),(1004,some<|.box q 26 [.own 1005 A]),(1005,some<|.arr A 33 3<|E.map AP.row)] (λI h'=>∃(i:Nat→Nat),I=.tup []∧h'=[(1000,some<|.box w 96 [qb B.d.Nodes,.mref 1001 j,.mref 1002 l,.fn 28 [.ptr 1003 m 0 0,.ptr 1004 q 0 0]]),(1001,some<|.md j<|AK (RV.int .i64) C),(1002,some<|.md l<|AK RV.bool r.1),(1003,some<|.box m 65 [rI r.2.1.1,rI r.2.1.2]),(1004,some<|.box q 26 [.own 1005<|i 0]),(1005,some<|.arr (i 0) 33 3<|r.2.2.map AP.row)]):=by
 unfold Lk at h
 by_cases F:∃n r,Ca n B C m2 c1 E n1=some r
 ·rw[tW F] at h;exact oW _ h
 ·rw[uM F] at h;cases h
theorem ZE{c1:(Int × Int)}{B:List AP}{d1:AR}{Do:Int}{r:(Int × Int) × (List AP)}{j:Nat}{l:Nat}{q:Nat}(h:M0 c1 B d1 Do=some r):BC prog 27 3 [.agg [qb d1.Nodes],rI Do,.fn 28 [.ptr 1000 j 0 0,.ptr 1001 l 0 0]] [(1000,some<|.box j 65 [rI c1.1,rI c1.2]),(1001,some<|.box l 26 [.own 1002 q]),(1002,some<|.arr q 33 3<|B.map AP.row)] (λM h'=>∃(i:Nat→Nat),M=.tup []∧h'=[(1000,some<|.box j 65 [rI r.1.1,rI r.1.2]),(1001,some<|.box l 26 [.own 1002<|i 0]),(1002,some<|.arr (i 0) 33 3<|r.2.map AP.row)]):=by
 unfold M0 at h
 refine D7 func27 R R ntmps27 (Zs R) λm=>aU<|sS R (A6 (cs:=[qb d1.Nodes]) 3 R iL R R)<|aZ<|aT λC2=>aR<|xC Bz R<|sS R (Ld (RV.int .i64) 10 R)<|sS R (Ld RV.bool 11 R)<|mM R ?_
 refine sQ R (Bu R pg (q:=[(0,_),(1,_),(2,_),(3,_)]) (by exact⟨R,R,R,iL,R,R,R,iL,R,R,R,iL,R,R,R,iL,Za⟩) (cs:=[qb d1.Nodes,.mref 10<|m+1,.mref 11<|m+2,.fn 28 [.ptr 1000 j 0 0,.ptr 1001 l 0 0]])<|by rfl) ?_
 refine sS R (A6 (cs:=[qb d1.Nodes,.mref 10<|m+1,.mref 11<|m+2,.fn 28 [.ptr 1000 j 0 0,.ptr 1001 l 0 0]]) 14 R iL R R)<|sS R (BI (cs:=[.cst<|.pointer none]) 6 R mz R R)<|Zj R R (A5 (ds:=[.ptr 14 (m+3) 0 0]) R Z8 iL R iL R R R R)<|aZ<|C2 _<|aT λC3=>aT λC4=>aR<|xC Bz R<|AE h λU V h1=>?_
 refine Zy [16] (hc:=[]) (bs:=[.agg [qb d1.Nodes]]) (caps:=[]) R R R R iL R ⟨.inl ⟨iL,R⟩,Za⟩ Za (by decide) (eT V) ?_
 intro O E
 refine BZ [0,1,2,3,6,9,10,11,12,13,14,15,16] [3,6,10,11,14,16,1000,1001,1002] ?_
 refine aZ<|C4 _<|Zg<|AW.weak (s':=⟨[(0,.agg [qb d1.Nodes]),(1,rI Do),(2,.fn 28 [.ptr 1000 j 0 0,.ptr 1001 l 0 0]),(3,.ptr 3 m 0 0),(6,.ptr 6 (m+4) 0 0),(9,.agg [qb d1.Nodes]),(10,.mref 10<|m+1),(11,.mref 11<|m+2),(12,.fn 28 [.ptr 1000 j 0 0,.ptr 1001 l 0 0]),(13,.agg [qb d1.Nodes,.mref 10<|m+1,.mref 11<|m+2,.fn 28 [.ptr 1000 j 0 0,.ptr 1001 l 0 0]]),(14,.ptr 14 (m+3) 0 0),(15,.agg [qb d1.Nodes]),(16,.fn 97 [.ptr 16 (O 0) 0 0])],[(3,some<|.box m 24 [qb d1.Nodes]),(6,some<|.box (m+4) 92 [.ptr 14 (m+3) 0 0]),(10,some<|.md (m+1)<|AK (RV.int .i64) ([]:List (Int × Int))),(11,some<|.md (m+2)<|AK RV.bool ([]:List (Int × Bool))),(14,some<|.box (m+3) 96 [qb d1.Nodes,.mref 10<|m+1,.mref 11<|m+2,.fn 28 [.ptr 1000 j 0 0,.ptr 1001 l 0 0]]),(16,some<|.box (O 0) 24 [qb U.Nodes]),(1000,some<|.box j 65 [rI c1.1,rI c1.2]),(1001,some<|.box l 26 [.own 1002 q]),(1002,some<|.arr q 33 3<|B.map AP.row)],E,34⟩) wk<|AE h1 λm4 X h4=>?_
 refine AW.rng2 (it:=λA=>H0 A [] U) (L:=[16]) (hB:=[(1001,some<|.box (O 0) 24 [qb U.Nodes])]) (caps:=[.ptr 1001 (O 0) 0 0]) 0 (λ(m2:(List<|Int × Int)) C=>[(3,some<|.box m 24 [qb d1.Nodes]),(6,some<|.box (m+4) 92 [.ptr 14 (m+3) 0 0]),(10,some<|.md (m+1)<|AK (RV.int .i64) m2),(11,some<|.md (m+2)<|AK RV.bool ([]:List (Int × Bool))),(14,some<|.box (m+3) 96 [qb d1.Nodes,.mref 10<|m+1,.mref 11<|m+2,.fn 28 [.ptr 1000 j 0 0,.ptr 1001 l 0 0]]),(1000,some<|.box j 65 [rI c1.1,rI c1.2]),(1001,some<|.box l 26 [.own 1002 q]),(1002,some<|.arr q 33 3<|B.map AP.row)]) (λC=>(E+1)+(C 0)) (AH [0]) X R R (by exact⟨R,R,R,Za⟩) R (by decide) R (by exact⟨.inr R,.inr R,.inr R,.inr R,.inr R,.inr R,.inr R,.inr R,Za⟩) R (λ_ _=>R) nL (λi=>rD (tA _)<|Nat.le_add_right _ _) R R ⟨_,func97,R,R⟩ (λW ys hP hi=>⟨_,gk hi ⟨hP,R⟩,λM h' ⟨i,e1,e2⟩=>by rw[e2];rfl⟩) ?_ ?_
 ·intro E1 A0 B0 a6 a7 (m2) F w Z C h2
  have h3:Hw m2 F w=some Z:=h2;unfold Hw at h3
  refine aG [0,1,2,3,6,9,10,11,12,13,14,15,17,18] [0,3,6,10,11,14,1000,1001,1002] ?_
  refine aT λC5=>aG [1,3,6,17,18] [0,3,6,10,11,14,1000,1001,1002] ?_
  exact aR<|mA R<|aZ<|C5 _<|aR<|mA R<|Zh<|qC R<|Yv<|Zg<|aR<|sQ R (AY (a:=.ptr 14 (m+3) 0 0) R Vx iL R R)<|sQ R (EQ (ob:=.box _ _ _) R iL fR R)<|sQ R (fB R US iL fR R)<|sQ R (AY (a:=.mref 10<|m+1) R Tm iL R R)<|sM R R<|sM R R<|Zj R R (Je (rd:=(RV.int .i64)) (a:=w) (.inl rfl) underlying93 underlying3 (.inl rfl) (.inl rfl) (.inl rfl) R)<|Zh<|⟨_,(show Am _ ⟨[],[(0,some<|.lp E E1 34 [17,18] A0 B0 .busy none),(3,some<|.box m 24 [qb d1.Nodes]),(6,some<|.box (m+4) 92 [.ptr 14 (m+3) 0 0]),(10,some<|.md (m+1)<|AK (RV.int .i64)<|Ah m2 F w),(11,some<|.md (m+2)<|AK RV.bool ([]:List (Int × Bool))),(14,some<|.box (m+3) 96 [qb d1.Nodes,.mref 10<|m+1,.mref 11<|m+2,.fn 28 [.ptr 1000 j 0 0,.ptr 1001 l 0 0]]),(1000,some<|.box j 65 [rI c1.1,rI c1.2]),(1001,some<|.box l 26 [.own 1002 q]),(1002,some<|.arr q 33 3<|B.map AP.row)],((E+1)+(C 0)),34⟩ from wk),qE h3 (AH [((E+1)+(C 0))]) R<|Nat.le_add_left _ _⟩
 intro C
 refine C3 _<|aG [1,3,6] [3,6,10,11,14,1000,1001,1002] ?_
 refine AE h4 λr1 a0 h5=>AE h5 λI a1 h6=>?_
 refine rP 8 [pO 25<|.ptr 14 (m+3) 0 0,pO 26<|.ptr 3 m 0 0,pO 27<|qb d1.Nodes,pO 28<|.agg [qb d1.Nodes],pO 29<|rI Do,pO 30<|rI r1,pO 31<|.rop (AO.row I) 0,pO 32<|.agg<|Ai I] BM R (by exact⟨oB [(6,.ptr 6 (m+4) 0 0)] [(6,some<|.box (m+4) 92 [.ptr 14 (m+3) 0 0])]<|AY (a:=.ptr 14 (m+3) 0 0) R Vx (.inl R) R R,oB [(3,.ptr 3 m 0 0)] [(3,some<|.box m 24 [qb d1.Nodes])]<|fB R B6 (.inl R) (λ_=>R) R,oB [(26,.ptr 3 m 0 0)] [(3,some<|.box m 24 [qb d1.Nodes])]<|AY (a:=qb d1.Nodes) R CA (.inl R) R R,oB [(3,.ptr 3 m 0 0)] [(3,some<|.box m 24 [qb d1.Nodes])]<|Dm R Bz (.inl R) R R,oB [(1,rI Do)] []<|AM R<|.inl R,oD (λ_=>[(28,.agg [qb d1.Nodes]),(29,rI Do)]) (λ_=>[]) λG1 e h' n=>DU (r:=rI r1) (caps:=[]) (bs:=[.agg [qb d1.Nodes],rI Do]) R (.inl R) R ⟨⟨_,(.inl R),.g (cs:=[.sl<|d1.Nodes.map AO.row]) R R⟩,⟨_,(.inl R),.d R⟩,Za⟩ (λ_=>QB<|a0) R,oB [(27,qb d1.Nodes),(30,rI r1)] []<|A9 R Bh.slice (.inl R) (.inl R) (λ_=>R) λ_=>a1,oB [(31,.rop (AO.row I) 0)] []<|CN (cs:=(Ai I)) R C0 (.inl R) R R,Za⟩) λG1 n2=>?_
 refine BZ [1,3,6,25,26,27,28,29,30,31,32] [3,6,10,11,14,1000,1001,1002] ?_
 refine Ih h6 λw2 T w4 a2 h7=>?_
 refine Zy [14,10,11,1000,1001,1002] (hc:=[(1000,some<|.box (m+3) 96 [qb d1.Nodes,.mref 1001<|m+1,.mref 1002<|m+2,.fn 28 [.ptr 1003 j 0 0,.ptr 1004 l 0 0]]),(1001,some<|.md (m+1)<|AK (RV.int .i64) m4),(1002,some<|.md (m+2)<|AK RV.bool ([]:List (Int × Bool))),(1003,some<|.box j 65 [rI c1.1,rI c1.2]),(1004,some<|.box l 26 [.own 1005 q]),(1005,some<|.arr q 33 3<|B.map AP.row)]) (bs:=[.ptr 1000 (m+3) 0 0,.agg<|Ai I]) (caps:=[]) R R R R iL R ⟨.inl ⟨iL,R⟩,.inl ⟨iL,R⟩,Za⟩ ⟨R,R,R,R,R,R,R,R,R,R,R,R,R,R,R,R,R,R,Za⟩ (by decide) (Y5 a2) ?_
 intro J n3
 refine BZ [1,3,6,25,26,27,28,29,30,31,32,33] [3,6,10,11,14,1000,1001,1002] ?_
 refine Zh ?_
 exact B8.mk (s':=⟨[],[(1000,some<|.box j 65 [rI T.1,rI T.2]),(1001,some<|.box l 26 [.own 1002<|J 0]),(1002,some<|.arr (J 0) 33 3<|w4.map AP.row)],n3,34⟩) wk<|CM (λ(r:(Int × Int) × (List AP)) M h'=>∃(i:Nat→Nat),M=.tup []∧h'=[(1000,some<|.box j 65 [rI r.1.1,rI r.1.2]),(1001,some<|.box l 26 [.own 1002<|i 0]),(1002,some<|.arr (i 0) 33 3<|r.2.map AP.row)]) h7<|by exact⟨.tup [],[(1000,some<|.box j 65 [rI T.1,rI T.2]),(1001,some<|.box l 26 [.own 1002<|J 0]),(1002,some<|.arr (J 0) 33 3<|w4.map AP.row)],⟨_,R,Za⟩,⟨.inr R,.inr R,.inr R,Za⟩,R,R,AH [(J 0)],R,R⟩
theorem VO{d1 n r}(h:Hp d1 n=some r):Aa prog 6 [.agg [qb d1.Nodes],rI n] (.tup [qi r.1,rI r.2]):=by
 unfold Hp at h
 refine mF func6 ntmps6 R λj=>aU<|sS R (A6 (cs:=[qb d1.Nodes]) 2 R iL R R)<|mA R<|mA R<|aZ<|aT λO=>aU<|xC Bz R<|AE h λe1 l T=>cL (TZ<|l) R<|mA R<|aZ<|aU<|mM R<|xU R<|aZ<|cI R T (λm=>?_) λm=>?_
 ·refine aT λU=>aF [6] ?_
  exact aR<|mM R<|mA R<|mA R<|aZ<|U _<|Zl<|EH (P:=prog) (λ(r:(List AP) × Int)=>qi r.1) (λ(r:(List AP) × Int)=>rI r.2) m iL (.t<|.one<|.nil)<|.t<|.d R
 refine Zc<|O _<|aU<|xC Bz R<|mM R<|AE m λi1 q V=>cL (QB<|q) R<|mA R<|aZ<|aT λX=>aT λZ=>aG [1,2,7] [2] ?_
 refine aR<|mM R<|xS R<|aZ<|Z _<|cI R V (λw=>?_) λw=>?_
 ·exact aU<|mA R<|mA R<|aZ<|Zl<|EH (P:=prog) (λ(r:(List AP) × Int)=>qi r.1) (λ(r:(List AP) × Int)=>rI r.2) w iL (.t<|.one<|.nil)<|.t<|.d R
 refine Zc<|X _<|aT λA=>aU<|lF B6 CA R R<|mM R<|AE w λx1 B h5=>xI Bh R B<|sQ R (BL R CP iL)<|xV (.int .i64 x1.Kind) AI R<|AE h5 λr1 C h6=>cL (Sf<|C) R<|sQ R (BE R iL)<|aZ<|cI R h6 (λE=>?_) λE=>?_
 ·refine aT λF=>aF [] ?_
  exact aR<|mA R<|mA R<|aZ<|F _<|Zl<|EH (P:=prog) (λ(r:(List AP) × Int)=>qi r.1) (λ(r:(List AP) × Int)=>rI r.2) E iL (.t<|.one<|.nil)<|.t<|.d R
 refine Zc<|A _<|aT λI=>aG [1,2] [2] ?_
 refine aR<|sS R (BI (cs:=[cZ]) 8 R iy R R)<|aZ<|I _<|aU<|sS R (BI (cs:=[rI 0,rI 0]) 9 R em R R)<|aZ<|aT λJ=>aR<|xC Bz R<|mM R ?_
 refine sQ R (KX (bs:=[.ptr 9 (j+2) 0 0,.ptr 8 (j+1) 0 0]) R<|by exact⟨iL,iL,Za⟩) ?_
 refine AS.weak (Zv (Ue 8 0 3080 33 3 (by decide) R R<|by decide)<|by exact Am.cv (e':=[(1,rI n),(2,.ptr 2 j 0 0),(8,.ptr 8 (j+1) 0 0),(9,.ptr 9 (j+2) 0 0),(28,.agg [qb d1.Nodes]),(29,rI n),(30,.fn 28 [.ptr 9 (j+2) 0 0,.ptr 8 (j+1) 0 0])]) (h':=[(2,some<|.box j 24 [qb d1.Nodes]),(8,some<|.box (j+1) 26 [.own 3080<|j+3]),(9,some<|.box (j+2) 65 [rI 0,rI 0]),(3080,some<|.arr (j+3) 33 3<|([]:List AP).map AP.row)]) ⟨jL,jL,jL,jL,jL,jL,jL,Za⟩ ⟨.inl R,.inl R,.inl R,.inl R,Za⟩ nL) ?_
 refine E4 E λw1 w2 M h8=>?_
 refine Zy [9,8,3080] (hc:=[(1000,some<|.box (j+2) 65 [rI 0,rI 0]),(1001,some<|.box (j+1) 26 [.own 1002<|j+3]),(1002,some<|.arr (j+3) 33 3<|([]:List AP).map AP.row)]) (bs:=[.agg [qb d1.Nodes],rI n,.fn 28 [.ptr 1000 (j+2) 0 0,.ptr 1001 (j+1) 0 0]]) (caps:=[]) R R R R iL R ⟨.inl ⟨iL,R⟩,.inl ⟨iL,R⟩,.inl ⟨iL,R⟩,Za⟩ ⟨R,R,R,R,R,R,R,R,R,Za⟩ (by decide) (ZE M) ?_
 intro i2 n1
 refine BZ [1,2,8,9,28,29,30,31] [2,8,9,3080] ?_
 exact aZ<|J _<|aU<|sQ R (AY (a:=.own 3080<|i2 0) R Sh iL R R)<|mA R<|mA R<|aZ<|Zl<|EH (P:=prog) (λ(r:(List AP) × Int)=>qi r.1) (λ(r:(List AP) × Int)=>rI r.2) h8 iL (.t<|.one<|.own R)<|.t<|.d R
theorem WS{r}(h:RX=some r):Aa prog 51 [] (.agg [qb r.Nodes]):=by
 unfold RX at h
 refine mF func51 ntmps51 R λj=>aU<|sS R (BI (cs:=[cZ]) 0 R MK R R)<|aZ<|aT λl=>aR ?_
 refine sQ R (Bu R Kb (q:=[(1,_)]) (by exact⟨R,R,R,iL,Za⟩) (cs:=KI)<|by rfl) ?_
 refine sS R (Bj 2 R Bb (f:=AN.row) (l:=([(AN.mk 0 2 [])]:List AN)) ⟨R,⟨_,iL,R⟩,Za⟩ R (λ_=>R) R) ?_
 refine sQ R (Bu R Kq (q:=[(0,_),(1,_),(3,_)]) (by exact⟨R,R,R,iL,R,R,R,iL,R,R,R,iL,Za⟩) (cs:=[rI 1,rI 0,cZ,.own 2<|j+1,rI 0,rI 0,cZ,cZ,cZ])<|by rfl) ?_
 refine sQ R (Bu R Kb (q:=[(0,_)]) (by exact⟨R,R,R,iL,Za⟩) (cs:=PF)<|by rfl) ?_
 refine sS R (Bj 5 R Bb (f:=AN.row) (l:=([(AN.mk 10 0 [])]:List AN)) ⟨R,⟨_,iL,R⟩,Za⟩ R (λ_=>R) R) ?_
 refine sQ R (Bu R Kq (q:=[(0,_),(1,_),(3,_)]) (by exact⟨R,R,R,iL,R,R,R,iL,R,R,R,iL,Za⟩) (cs:=[rI 2,rI 1,cZ,.own 5<|j+2,rI 0,rI 0,cZ,cZ,cZ])<|by rfl) ?_
 refine AS.weak (by exact Am.frz (e':=[(0,.ptr 0 j 0 0),(1,.agg KI),(2,.r<|.sl<|[(AN.mk 0 2 [])].map AN.row),(3,.agg Ps),(4,.agg PF),(5,.own 5<|j+2),(6,.agg [rI 2,rI 1,cZ,.own 5<|j+2,rI 0,rI 0,cZ,cZ,cZ])]) (h':=[(0,some<|.box j 24 [cZ]),(5,some<|.arr (j+2) 37 3<|[(AN.mk 10 0 [])].map AN.row)]) 2 R ⟨jL,jL,.inl<|.inr<|.inr ⟨R,R⟩,.inr ⟨_,_,R,R,⟨.inl R,.inl R,.inl R,.inr<|.inr ⟨R,R⟩,.inl R,.inl R,.inl R,.inl R,.inl R,Za⟩⟩,jL,jL,jL,Za⟩ ⟨R,.inl R,R,.inl R,Za⟩) ?_
 refine AS.weak (by exact Am.frz (e':=[(0,.ptr 0 j 0 0),(1,.agg KI),(2,.r<|.sl<|[(AN.mk 0 2 [])].map AN.row),(3,.agg Ps),(4,.agg PF),(5,.r<|.sl<|[(AN.mk 10 0 [])].map AN.row),(6,.agg [rI 2,rI 1,cZ,.r<|.sl<|[(AN.mk 10 0 [])].map AN.row,rI 0,rI 0,cZ,cZ,cZ])]) (h':=[(0,some<|.box j 24 [cZ])]) 5 R ⟨jL,jL,jL,jL,jL,.inl<|.inr<|.inr ⟨R,R⟩,.inr ⟨_,_,R,R,⟨.inl R,.inl R,.inl R,.inr<|.inr ⟨R,R⟩,.inl R,.inl R,.inl R,.inl R,.inl R,Za⟩⟩,Za⟩ ⟨R,.inl R,Za⟩) ?_
 refine sS R (Bj 7 R Bh (f:=AO.row) (l:=([(AO.mk 1 0 [] [(AN.mk 0 2 [])] (Av.mk 0 0 [] []) []),(AO.mk 2 1 [] [(AN.mk 10 0 [])] (Av.mk 0 0 [] []) [])]:List AO)) ⟨R,⟨_,iL,R⟩,R,⟨_,iL,R⟩,Za⟩ R (λ_=>R) R) ?_
 refine sQ R (Bu R Qo (q:=[(0,_)]) (by exact⟨R,R,R,iL,Za⟩) (cs:=[.own 7<|j+3])<|by rfl) ?_
 refine Zj R R (A5 (ds:=[.own 7<|j+3]) R Kr iL R iL R R R R)<|oZ l ?_
 exact Zl<|Cg (P:=prog) (λ(r:AR)=>.agg [qb r.Nodes]) h iL<|.a Bz R R R<|.agg<|by exact⟨.own R,Za⟩
theorem Y8{j r}(h:Q6 j=some r):Aa prog 21 [qe j] (.agg [qb r.Nodes]):=by
 unfold Q6 at h
 refine mF func21 ntmps21 R λl=>aU<|sS R (BI (cs:=[cZ]) 2 R MK R R)<|aZ<|aT λm=>aR ?_
 refine sQ R (Bu R Kb (q:=[(1,_)]) (by exact⟨R,R,R,iL,Za⟩) (cs:=KI)<|by rfl) ?_
 refine sS R (Bj 4 R Bb (f:=AN.row) (l:=([(AN.mk 0 2 [])]:List AN)) ⟨R,⟨_,iL,R⟩,Za⟩ R (λ_=>R) R) ?_
 refine sQ R (Bu R Kq (q:=[(0,_),(3,_)]) (by exact⟨R,R,R,iL,R,R,R,iL,Za⟩) (cs:=[rI 1,rI 0,cZ,.own 4<|l+1,rI 0,rI 0,cZ,cZ,cZ])<|by rfl) ?_
 refine mM R ?_
 refine sQ R (Bu R Kq (q:=[(0,_),(1,_),(3,_)]) (by exact⟨R,R,R,iL,R,R,R,iL,R,R,R,iL,Za⟩) (cs:=[rI 2,rI 1,cZ,qe j,rI 0,rI 0,cZ,cZ,cZ])<|by rfl) ?_
 refine AS.weak (by exact Am.frz (e':=[(0,qe j),(2,.ptr 2 l 0 0),(3,.agg KI),(4,.r<|.sl<|[(AN.mk 0 2 [])].map AN.row),(5,.agg Ps),(6,qe j),(7,.agg [rI 2,rI 1,cZ,qe j,rI 0,rI 0,cZ,cZ,cZ])]) (h':=[(2,some<|.box l 24 [cZ])]) 4 R ⟨jL,jL,jL,.inl<|.inr<|.inr ⟨R,R⟩,.inr ⟨_,_,R,R,⟨.inl R,.inl R,.inl R,.inr<|.inr ⟨R,R⟩,.inl R,.inl R,.inl R,.inl R,.inl R,Za⟩⟩,jL,jL,Za⟩ ⟨R,.inl R,Za⟩) ?_
 refine sS R (Bj 8 R Bh (f:=AO.row) (l:=([(AO.mk 1 0 [] [(AN.mk 0 2 [])] (Av.mk 0 0 [] []) []),(AO.mk 2 1 [] j (Av.mk 0 0 [] []) [])]:List AO)) ⟨R,⟨_,iL,R⟩,R,⟨_,iL,R⟩,Za⟩ R (λ_=>R) R) ?_
 refine sQ R (Bu R Qo (q:=[(0,_)]) (by exact⟨R,R,R,iL,Za⟩) (cs:=[.own 8<|l+2])<|by rfl) ?_
 refine Zj R R (A5 (ds:=[.own 8<|l+2]) R Kr iL R iL R R R R)<|oZ m ?_
 exact Zl<|Cg (P:=prog) (λ(r:AR)=>.agg [qb r.Nodes]) h iL<|.a Bz R R R<|.agg<|by exact⟨.own R,Za⟩
theorem R2{j b1 r}(h:LM j b1=some r):Aa prog 18 [qa j,qa b1] (rB r):=by
 unfold LM at h
 refine mF func18 ntmps18 R λn0=>aU<|mA R<|aZ<|aT λc2=>aU<|mM R<|xL BH R<|mM R<|xL BH R<|xU R<|aZ<|cI R h (λw=>?_) λw=>?_
 ·exact zB w R id
 refine Zc<|c2 _<|aS λK5 c5 A=>aU<|mM R<|xL BH R<|mM R<|aZ<|Zg<|BS w λo1 l B C=>?_
 have J1:∀(X:Unit) (Z:NN),o1=.nrm X→K5 ⟨[],[],(Z 0),26⟩:=by
  intro X Z e
  have h2:=B _ e
  exact c5 _<|zB h2 R id
 refine Zu (λ(E:Int) q=>⟨[(0,qa j),(1,qa b1),(12,rL j),(13,rI E)],[],(q 0),26⟩) (AH [n0]) l wk ?_
 intro E q v1 F m
 have h3:Ou j b1 E=some v1:=F;unfold Ou at h3
 refine aU<|xS R<|aZ<|aT λc9=>cI R h3 (λI=>?_) λI=>?_
 ·refine Zc<|c9 _<|aT λJ=>Zg<|aU<|mM R<|mA R<|aZ<|aT λM=>?_
  refine Zx BM (by kernel_rfl) ?_
  refine qP R (AM R iL)<|qP R (AM R iL)<|AE I λx4 O h5=>qP R (A9 R BH.slice iL iL (λ_=>R) λ_=>O)<|qP R (CN (cs:=(CS x4)) R En iL R R)<|qP R (AM R iL)<|qP R (AM R iL)<|AE h5 λx5 T h6=>qP R (A9 R BH.slice iL iL (λ_=>R) λ_=>T)<|qP R (CN (cs:=(CS x5)) R En iL R R)<|qP R (L3 R Ul iL iL R)<|AQ.nil<|M _<|cI R h6 (λU=>?_) λU=>?_
  ·exact zB (C _<|xH m U) R id
  refine Zc<|J _<|aF [0,1,12,13] ?_
  exact aR<|AE U λx6 V h8=>xA R V<|mM R<|Zh<|Zr h8 (AH [(q 0)]) wk
 exact Zm<|A _ _ wk<|J1 _ (AH [(q 0)])<|xH m I
theorem lV{j b1 r}(h:M9 j b1=some r):Aa prog 140 [.agg<|Bg j,.agg<|Bg b1] (rB r):=by
 unfold M9 at h
 exact mF func140 ntmps140 R λq=>aU<|sS R (A6 (cs:=(Bg j)) 2 R iL R R)<|sS R (A6 (cs:=(Bg b1)) 3 R iL R R)<|mA R<|aZ<|aU<|lF Fh AI R R<|lF Fh AI R R<|xQ R<|mM R<|vF Cm AI R R<|vF Cm AI R R<|vQ R (A4 R (iR R)<|iR R)<|xN R<|mM R<|vF H9 CR R R<|vF H9 CR R R<|AE h λw l m=>vL (λhg=>R2<|Ag l hg) R<|xN R<|mA R<|aZ<|Zl<|yB m R
theorem nG{j b1 r}(h:Ns j b1=some r):Aa prog 115 [qe j,qe b1] (rB r):=by
 unfold Ns at h
 refine mF func115 ntmps115 R λn0=>aU<|mA R<|aZ<|aT λc2=>aU<|mM R<|xL Bb R<|mM R<|xL Bb R<|xU R<|aZ<|cI R h (λB=>?_) λB=>?_
 ·exact zB B R id
 refine Zc<|c2 _<|aS λK5 c5 C=>aU<|mM R<|xL Bb R<|mM R<|aZ<|Zg<|BS B λo1 l E F=>?_
 have J1:∀(u2:Unit) (i5:NN),o1=.nrm u2→K5 ⟨[],[],(i5 0),27⟩:=by
  intro u2 i5 e
  have h2:=E _ e
  exact c5 _<|zB h2 R id
 refine Zu (λ(I:Int) A=>⟨[(0,qe j),(1,qe b1),(12,rL j),(13,rI I)],[],(A 0),27⟩) (AH [n0]) l wk ?_
 intro I A v1 J m
 have h3:PB j b1 I=some v1:=J;unfold PB at h3
 refine aU<|xS R<|aZ<|aT λc9=>cI R h3 (λM=>?_) λM=>?_
 ·refine Zc<|c9 _<|aT λO=>Zg<|aU<|mM R<|mA R<|aZ<|aT λT=>?_
  refine Zx BM (by kernel_rfl) ?_
  refine qP R (AM R iL)<|qP R (AM R iL)<|AE M λq U h5=>qP R (A9 R Bb.slice iL iL (λ_=>R) λ_=>U)<|qP R (CN (cs:=(Bg q)) R Fr iL R R)<|qP R (AM R iL)<|qP R (AM R iL)<|AE h5 λw V h6=>qP R (A9 R Bb.slice iL iL (λ_=>R) λ_=>V)<|qP R (CN (cs:=(Bg w)) R Fr iL R R)<|AE h6 λr1 X h7=>AQ.stepC R R R (r:=rB r1) (caps:=[]) (bs:=[.agg<|Bg q,.agg<|Bg w]) R iL R ⟨⟨_,iL,.g (cs:=[.int .i64 q.Char,.int .i64 q.Ref,.sl<|q.Attrs.map AG.row]) R R⟩,⟨_,iL,.g (cs:=[.int .i64 w.Char,.int .i64 w.Ref,.sl<|w.Attrs.map AG.row]) R R⟩,Za⟩ (λ_=>lV<|X) R<|qP R (BE R iL)<|AQ.nil<|T _<|cI R h7 (λZ=>?_) λZ=>?_
  ·exact zB (F _<|xH m Z) R id
  refine Zc<|O _<|aF [0,1,12,13] ?_
  exact aR<|AE Z λx6 a0 h9=>xA R a0<|mM R<|Zh<|Zr h9 (AH [(A 0)]) wk
 exact Zm<|C _ _ wk<|J1 _ (AH [(A 0)])<|xH m M
theorem kb{j b1 r}(h:O1 j b1=some r):Aa prog 161 [.agg<|BP j,.agg<|BP b1] (rB r):=by
 unfold O1 at h
 exact mF func161 ntmps161 R λw=>aU<|sS R (A6 (cs:=(BP j)) 2 R iL R R)<|sS R (A6 (cs:=(BP b1)) 3 R iL R R)<|mA R<|aZ<|aT λm=>aR<|lF D5 AI R R<|lF D5 AI R R<|xQ R<|mM R<|vF ES AI R R<|vF ES AI R R<|vQ R (A4 R (iR R)<|iR R)<|xN R<|mM R<|vF He BK R R<|vF He BK R R<|vQ R (EZ R (iR R)<|iR R)<|xN R<|mM R<|vF Ce AI R R<|vF Ce AI R R<|vQ R (A4 R (iR R)<|iR R)<|xN R<|mM R<|vF GX CR R R<|vF GX CR R R<|AE h λA l q=>vL (λhg=>R2<|Ag l hg) R<|xN R<|mA R<|aZ<|m _<|Zl<|yB q R
theorem ir{m b1 r}(h:Oo m b1=some r):Aa prog 141 [qc m,qc b1] (rB r):=by
 unfold Oo at h
 refine mF func141 ntmps141 R λn0=>aU<|mA R<|aZ<|aT λc2=>aU<|mM R<|xL Bx R<|mM R<|xL Bx R<|xU R<|aZ<|cI R h (λB=>?_) λB=>?_
 ·exact zB B R id
 refine Zc<|c2 _<|aS λK5 c5 C=>aU<|mM R<|xL Bx R<|mM R<|aZ<|Zg<|BS B λo1 q E F=>?_
 have J1:∀(u2:Unit) (i5:NN),o1=.nrm u2→K5 ⟨[],[],(i5 0),27⟩:=by
  intro u2 i5 e
  have h2:=E _ e
  exact c5 _<|zB h2 R id
 refine Zu (λ(I:Int) A=>⟨[(0,qc m),(1,qc b1),(12,rL m),(13,rI I)],[],(A 0),27⟩) (AH [n0]) q wk ?_
 intro I A v1 J w
 have h3:Oz m b1 I=some v1:=J;unfold Oz at h3
 refine aU<|xS R<|aZ<|aT λc9=>cI R h3 (λM=>?_) λM=>?_
 ·refine Zc<|c9 _<|aT λO=>Zg<|aU<|mM R<|mA R<|aZ<|aT λT=>?_
  refine Zx BM (by kernel_rfl) ?_
  refine qP R (AM R iL)<|qP R (AM R iL)<|AE M λj U h5=>qP R (A9 R Bx.slice iL iL (λ_=>R) λ_=>U)<|qP R (CN (cs:=(BP j)) R EM iL R R)<|qP R (AM R iL)<|qP R (AM R iL)<|AE h5 λl V h6=>qP R (A9 R Bx.slice iL iL (λ_=>R) λ_=>V)<|qP R (CN (cs:=(BP l)) R EM iL R R)<|AE h6 λr1 X h7=>AQ.stepC R R R (r:=rB r1) (caps:=[]) (bs:=[.agg<|BP j,.agg<|BP l]) R iL R ⟨⟨_,iL,.g (cs:=[.int .i64 j.Row,.int .i64 j.Col,.str j.Text,.int .i64 j.Ref,.sl<|j.Attrs.map AG.row]) R R⟩,⟨_,iL,.g (cs:=[.int .i64 l.Row,.int .i64 l.Col,.str l.Text,.int .i64 l.Ref,.sl<|l.Attrs.map AG.row]) R R⟩,Za⟩ (λ_=>kb<|X) R<|qP R (BE R iL)<|AQ.nil<|T _<|cI R h7 (λZ=>?_) λZ=>?_
  ·exact zB (F _<|xH w Z) R id
  refine Zc<|O _<|aF [0,1,12,13] ?_
  exact aR<|AE Z λx6 a0 h9=>xA R a0<|mM R<|Zh<|Zr h9 (AH [(A 0)]) wk
 exact Zm<|C _ _ wk<|J1 _ (AH [(A 0)])<|xH w M
theorem eW{j b1 r}(h:Na j b1=some r):Aa prog 142 [qd j,qd b1] (rB r):=by
 unfold Na at h
 refine mF func142 ntmps142 R λn0=>aU<|mA R<|aZ<|aT λc2=>aU<|mM R<|xL Cz R<|mM R<|xL Cz R<|xU R<|aZ<|cI R h (λw=>?_) λw=>?_
 ·exact zB w R id
 refine Zc<|c2 _<|aS λK5 c5 A=>aU<|mM R<|xL Cz R<|mM R<|aZ<|Zg<|BS w λo1 l B C=>?_
 have J1:∀(X:Unit) (Z:NN),o1=.nrm X→K5 ⟨[],[],(Z 0),26⟩:=by
  intro X Z e
  have h2:=B _ e
  exact c5 _<|zB h2 R id
 refine Zu (λ(E:Int) q=>⟨[(0,qd j),(1,qd b1),(12,rL j),(13,rI E)],[],(q 0),26⟩) (AH [n0]) l wk ?_
 intro E q v1 F m
 have h3:NV j b1 E=some v1:=F;unfold NV at h3
 refine aU<|xS R<|aZ<|aT λc9=>cI R h3 (λI=>?_) λI=>?_
 ·refine Zc<|c9 _<|aT λJ=>Zg<|aU<|mM R<|mA R<|aZ<|aT λM=>?_
  refine Zx BM (by kernel_rfl) ?_
  refine qP R (AM R iL)<|qP R (AM R iL)<|AE I λx4 O h5=>qP R (A9 R Cz.slice iL iL (λ_=>R) λ_=>O)<|qP R (CN (cs:=(A8 x4)) R DW iL R R)<|qP R (AM R iL)<|qP R (AM R iL)<|AE h5 λx5 T h6=>qP R (A9 R Cz.slice iL iL (λ_=>R) λ_=>T)<|qP R (CN (cs:=(A8 x5)) R DW iL R R)<|qP R (L3 R VL iL iL R)<|AQ.nil<|M _<|cI R h6 (λU=>?_) λU=>?_
  ·exact zB (C _<|xH m U) R id
  refine Zc<|J _<|aF [0,1,12,13] ?_
  exact aR<|AE U λx6 V h8=>xA R V<|mM R<|Zh<|Zr h8 (AH [(q 0)]) wk
 exact Zm<|A _ _ wk<|J1 _ (AH [(q 0)])<|xH m I
theorem mI{j b1 r}(h:Nn j b1=some r):Aa prog 116 [.agg<|B7 j,.agg<|B7 b1] (rB r):=by
 unfold Nn at h
 exact mF func116 ntmps116 R λA=>aU<|sS R (A6 (cs:=(B7 j)) 2 R iL R R)<|sS R (A6 (cs:=(B7 b1)) 3 R iL R R)<|mA R<|aZ<|aU<|lF Gc AI R R<|lF Gc AI R R<|xQ R<|mM R<|vF GZ AI R R<|vF GZ AI R R<|vQ R (A4 R (iR R)<|iR R)<|xN R<|mM R<|vF DX Dc R R<|vF DX Dc R R<|AE h λB l q=>vL (λhg=>ir<|Ag l hg) R<|xN R<|mM R<|vF EP Ei R R<|vF EP Ei R R<|AE q λC m w=>vL (λhg=>eW<|Ag m hg) R<|xN R<|mA R<|aZ<|Zl<|yB w R
theorem Zp{j b1 r}(h:NL j b1=some r):Aa prog 117 [qf j,qf b1] (rB r):=by
 unfold NL at h
 refine mF func117 ntmps117 R λn0=>aU<|mA R<|aZ<|aT λc2=>aU<|mM R<|xL EB R<|mM R<|xL EB R<|xU R<|aZ<|cI R h (λw=>?_) λw=>?_
 ·exact zB w R id
 refine Zc<|c2 _<|aS λK5 c5 A=>aU<|mM R<|xL EB R<|mM R<|aZ<|Zg<|BS w λo1 l B C=>?_
 have J1:∀(X:Unit) (Z:NN),o1=.nrm X→K5 ⟨[],[],(Z 0),26⟩:=by
  intro X Z e
  have h2:=B _ e
  exact c5 _<|zB h2 R id
 refine Zu (λ(E:Int) q=>⟨[(0,qf j),(1,qf b1),(12,rL j),(13,rI E)],[],(q 0),26⟩) (AH [n0]) l wk ?_
 intro E q v1 F m
 have h3:PR j b1 E=some v1:=F;unfold PR at h3
 refine aU<|xS R<|aZ<|aT λc9=>cI R h3 (λI=>?_) λI=>?_
 ·refine Zc<|c9 _<|aT λJ=>Zg<|aU<|mM R<|mA R<|aZ<|aT λM=>?_
  refine Zx BM (by kernel_rfl) ?_
  refine qP R (AM R iL)<|qP R (AM R iL)<|AE I λx4 O h5=>qP R (A9 R EB.slice iL iL (λ_=>R) λ_=>O)<|qP R (CN (cs:=(Bl x4)) R HL iL R R)<|qP R (AM R iL)<|qP R (AM R iL)<|AE h5 λx5 T h6=>qP R (A9 R EB.slice iL iL (λ_=>R) λ_=>T)<|qP R (CN (cs:=(Bl x5)) R HL iL R R)<|qP R (L3 R jt iL iL R)<|AQ.nil<|M _<|cI R h6 (λU=>?_) λU=>?_
  ·exact zB (C _<|xH m U) R id
  refine Zc<|J _<|aF [0,1,12,13] ?_
  exact aR<|AE U λx6 V h8=>xA R V<|mM R<|Zh<|Zr h8 (AH [(q 0)]) wk
 exact Zm<|A _ _ wk<|J1 _ (AH [(q 0)])<|xH m I
theorem g9{j b1 r}(h:NM j b1=some r):Aa prog 83 [.agg<|Ai j,.agg<|Ai b1] (rB r):=by
 unfold NM at h
 exact mF func83 ntmps83 R λI=>aU<|sS R (A6 (cs:=(Ai j)) 2 R iL R R)<|sS R (A6 (cs:=(Ai b1)) 3 R iL R R)<|mA R<|aZ<|aT λA=>aR<|lF Da AI R R<|lF Da AI R R<|xQ R<|mM R<|vF CP AI R R<|vF CP AI R R<|vQ R (A4 R (iR R)<|iR R)<|xN R<|mM R<|vF Ji CR R R<|vF Ji CR R R<|AE h λJ l B=>vL (λhg=>R2<|Ag l hg) R<|xN R<|mM R<|vF Dk D0 R R<|vF Dk D0 R R<|AE B λM m C=>vL (λhg=>nG<|Ag m hg) R<|xN R<|mM R<|vQ R (fB R DS iL fR R)<|vQ R (GH (ds:=(B7 j.Grid)) R GM (iR R) R R R)<|vQ R (fB R DS iL fR R)<|vQ R (GH (ds:=(B7 b1.Grid)) R GM (iR R) R R R)<|AE C λO q E=>vL (λhg=>mI<|Ag q hg) R<|xN R<|mM R<|vF Ga HM R R<|vF Ga HM R R<|AE E λT w F=>vL (λhg=>Zp<|Ag w hg) R<|xN R<|mA R<|aZ<|A _<|Zl<|yB F R
theorem mn{m b1 r}(h:Mx m b1=some r):Aa prog 52 [.agg [qb m.Nodes],.agg [qb b1.Nodes]] (rB r):=by
 unfold Mx at h
 refine mF func52 ntmps52 R λq=>aU<|sS R (A6 (cs:=[qb m.Nodes]) 2 R iL R R)<|sS R (A6 (cs:=[qb b1.Nodes]) 3 R iL R R)<|mA R<|aZ<|aT λc2=>aU<|lF B6 CA R R<|xL Bh R<|lF B6 CA R R<|xL Bh R<|xU R<|aZ<|cI R h (λC=>?_) λC=>?_
 ·exact zB C R id
 refine Zc<|c2 _<|aS λK5 c5 E=>aT λc6=>aG [2,3] [2,3] ?_
 refine aR<|lF B6 CA R R<|xL Bh R<|mM R<|aZ<|c6 _<|Zg<|BS C λo1 w F I=>?_
 have J1:∀(u2:Unit) (i5:NN),o1=.nrm u2→K5 ⟨[],[],(i5 0),32⟩:=by
  intro u2 i5 e
  have h2:=F _ e
  exact c5 _<|zB h2 R id
 refine Zu (λ(J:Int) B=>⟨[(2,.ptr 2 q 0 0),(3,.ptr 3 (q+1) 0 0),(15,rL m.Nodes),(16,rI J)],[(2,some<|.box q 24 [qb m.Nodes]),(3,some<|.box (q+1) 24 [qb b1.Nodes])],(B 0),32⟩) (AH [(q+2)]) w wk ?_
 intro J B v1 M A
 have h3:Mv m b1 J=some v1:=M;unfold Mv at h3
 refine aU<|xS R<|aZ<|aT λc9=>cI R h3 (λO=>?_) λO=>?_
 ·refine Zc<|c9 _<|aT λT=>Zg<|aU<|mM R<|mA R<|aZ<|aT λU=>?_
  refine Zx BM (by kernel_rfl) ?_
  refine qP R (fB R B6 iL fR R)<|qP R (AY (a:=qb m.Nodes) R CA iL R R)<|qP R (AM R iL)<|AE O λj V h5=>qP R (A9 R Bh.slice iL iL (λ_=>R) λ_=>V)<|qP R (CN (cs:=(Ai j)) R C0 iL R R)<|qP R (fB R B6 iL fR R)<|qP R (AY (a:=qb b1.Nodes) R CA iL R R)<|qP R (AM R iL)<|AE h5 λl X h6=>qP R (A9 R Bh.slice iL iL (λ_=>R) λ_=>X)<|qP R (CN (cs:=(Ai l)) R C0 iL R R)<|AE h6 λr1 Z h7=>AQ.stepC R R R (r:=rB r1) (caps:=[]) (bs:=[.agg<|Ai j,.agg<|Ai l]) R iL R ⟨⟨_,iL,.g (cs:=[.int .i64 j.ID,.int .i64 j.Kind,.sl<|j.Attrs.map AG.row,.sl<|j.Flow.map AN.row,.int .i64 j.Grid.Rows,.int .i64 j.Grid.Cols,.sl<|j.Grid.Cells.map An.row,.sl<|j.Grid.Merges.map Ap.row,.sl<|j.Draw.map Aw.row]) R R⟩,⟨_,iL,.g (cs:=[.int .i64 l.ID,.int .i64 l.Kind,.sl<|l.Attrs.map AG.row,.sl<|l.Flow.map AN.row,.int .i64 l.Grid.Rows,.int .i64 l.Grid.Cols,.sl<|l.Grid.Cells.map An.row,.sl<|l.Grid.Merges.map Ap.row,.sl<|l.Draw.map Aw.row]) R R⟩,Za⟩ (λ_=>g9<|Z) R<|qP R (BE R iL)<|AQ.nil<|U _<|cI R h7 (λh8=>?_) λh8=>?_
  ·exact zB (I _<|xH A h8) R id
  refine Zc<|T _<|aG [2,3,15,16] [2,3] ?_
  exact aR<|AE h8 λx6 a0 h9=>xA R a0<|mM R<|Zh<|Zr h9 (AH [(B 0)]) wk
 exact Zm<|E _ _ wk<|J1 _ (AH [(B 0)])<|xH A O
theorem jE{r}(h:PP=some r):Aa prog 23 [] (rB r):=by
 unfold PP at h
 refine mF func23 ntmps23 R λU=>aU<|mA R<|aZ<|aS λZ c2 q=>aR<|AE h λl w h1=>sS R (Cb (r:=.agg [qb l.Nodes]) (caps:=[]) (bs:=[]) R iL R Za λ_=>WS<|w)<|AE h1 λm C h2=>cL (TZ<|C) R<|xQ R<|mM R<|BV h2 λp1 A E=>?_
 have V:∀(F:Bool) (X:NN),p1=F→Z ⟨[(0,rB F)],[],(X 0),11⟩:=by
  intro F X e
  have h3:=E _ e
  exact c2 _<|Zl<|yB h3 R
 refine AS.split ((decide<|m=0)==true) (λj=>?_) λj=>?_
 ·have I:=ET j A
  refine AS.weak (by exact Rz (e':=[(0,rB false),(1,.agg [qb l.Nodes]),(2,rI m),(3,rB<|(decide<|m=0)),(4,rB<|(decide<|m=0))]) j ⟨.inl R,.inl R,.inl R,.inl R,.inl R,Za⟩) ?_
  refine H1 (.one R R R) j R R (Cb (r:=.agg [qb l.Nodes]) (caps:=[]) (bs:=[]) R (.inl R) R Za λ_=>WS<|w)<|AE I λB J h5=>H1 (.one R R R) j R R (Cb (r:=.agg<|Bg B) (caps:=[]) (bs:=[]) R (.inl R) R Za λ_=>T1<|J)<|H1 (.one R R R) j R R (Bj 7 R Bb (f:=AN.row) (l:=([B]:List AN)) ⟨R,⟨_,(.inl R),R⟩,Za⟩ R (λ_=>R) R) ?_
  refine AS.weak (by exact Am.frz (e':=[(0,rB false),(1,.agg [qb l.Nodes]),(2,rI m),(3,rB<|(decide<|m=0)),(4,rB<|(decide<|m=0)),(5,.agg [qb l.Nodes]),(6,.agg<|Bg B),(7,.r<|.sl<|[B].map AN.row)]) (h':=[]) 7 R ⟨jL,jL,jL,jL,jL,jL,jL,.inl<|.inr<|.inr ⟨R,R⟩,Za⟩ Za) ?_
  exact AE h5 λM O h6=>H1 (.one R R R) j R R (Cb (r:=.agg [qb M.Nodes]) (caps:=[]) (bs:=[.r<|.sl<|[B].map AN.row]) R (.inl R) R ⟨.inl ⟨(.inl R),R⟩,Za⟩ λ_=>Y8<|O)<|AE h6 λr6 T h7=>H1 (.one R R R) j R R (DU (r:=rB r6) (caps:=[]) (bs:=[.agg [qb l.Nodes],.agg [qb M.Nodes]]) R (.inl R) R ⟨⟨_,(.inl R),.g (cs:=[.sl<|l.Nodes.map AO.row]) R R⟩,⟨_,(.inl R),.g (cs:=[.sl<|M.Nodes.map AO.row]) R R⟩,Za⟩ (λ_=>mn<|T) R)<|sQ R (Bd R iL iL)<|mA R<|Zh<|q _ _ wk<|V _ (AH [(U+1)]) (Zf h7).symm
 ·have I:=EJ j A
  exact Gl (.one R R R) j R R<|Gl (.one R R R) j R R<|Gl (.one R R R) j R R<|Gl (.one R R R) j R R<|Gl (.one R R R) j R R<|xN R<|mA R<|Zh<|q _ _ wk<|V _ (AH [U]) (Zf I).symm
end Go.Proofs.YtifgmfoihehlbaaGreatDoor.Al
