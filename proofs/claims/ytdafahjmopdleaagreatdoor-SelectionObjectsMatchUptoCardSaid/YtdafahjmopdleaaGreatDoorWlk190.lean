/- Walks, as printed. -/
import Derived.Test.YtdafahjmopdleaaGreatDoorPL2
import Derived.Test.YtdafahjmopdleaaGreatDoorProg
set_option linter.all false
set_option maxHeartbeats 4000000
set_option maxRecDepth 20000
set_option linter.unusedVariables false
namespace Go.Proofs.YtdafahjmopdleaaGreatDoor.Al
open Go.Proofs Go.Proofs.Tryz
@[reducible] noncomputable def CN t:=(prog.info? t).map (λi=>(i.zero,i.size,i.bytes))
theorem BF:prog.follows .mixedOrders=true:=by kernel_rfl
theorem Oq:CN 100=some (some<|.agg #[.int .i64 0,.int .i64 0,.slice none 0 0,.slice none 0 0],4,64):=by kernel_rfl
theorem Tg:CN 102=some (some<|.agg #[.int .i64 0,.int .i64 0,.slice none 0 0,.slice none 0 0,.int .i64 0,.int .i64 0,.slice none 0 0,.slice none 0 0,.slice none 0 0,.slice none 0 0,.string ⟨#[]⟩],11,192):=by kernel_rfl
theorem Sz:CN 140=some (some<|.agg #[.int .i64 0,.int .i64 0,.string ⟨#[]⟩,.int .i64 0,.slice none 0 0],5,64):=by kernel_rfl
theorem er:CN 142=some (some<|.agg #[.int .i64 0,.int .i64 0],2,16):=by kernel_rfl
theorem XQ:CN 158=some (some<|.agg #[.bool false,.bool false,.bool false,.bool false,.bool false],5,5):=by kernel_rfl
theorem TT:CN 176=some (some<|.agg #[.int .i64 0,.int .i64 0,.int .i64 0,.int .i64 0,.int .i64 0,.string ⟨#[]⟩,.string ⟨#[]⟩,.string ⟨#[]⟩],8,88):=by kernel_rfl
theorem rd:CN 193=some (some<|.agg #[.slice none 0 0,.slice none 0 0,.int .i64 0],3,56):=by kernel_rfl
theorem qx:CN 196=some (some<|.agg #[.slice none 0 0,.int .i64 0],2,32):=by kernel_rfl
theorem Sq:CN 205=some (some<|.agg #[.int .u8 0,.int .u8 0],2,2):=by kernel_rfl
theorem UT:CN 211=some (some<|.agg #[.int .i64 0,.int .i64 0,.int .i64 0,.int .i64 0],4,32):=by kernel_rfl
theorem bL:CN 22=some (some<|.slice none 0 0,1,24):=by kernel_rfl
theorem ml:CN 24=some (some<|.agg #[.slice none 0 0],1,24):=by kernel_rfl
theorem SD:CN 26=some (some<|.agg #[.int .i64 0,.int .i64 0,.int .i64 0],3,24):=by kernel_rfl
theorem Cn:CN 3=some (some<|.int .i64 0,1,8):=by kernel_rfl
theorem MG:CN 36=some (some<|.slice none 0 0,1,24):=by kernel_rfl
theorem In:CN 39=some (some<|.slice none 0 0,1,24):=by kernel_rfl
theorem MX:CN 4=some (some<|.bool false,1,1):=by kernel_rfl
theorem YQ:CN 40=some (some<|.slice none 0 0,1,24):=by kernel_rfl
theorem T1:CN 41=some (some<|.slice none 0 0,1,24):=by kernel_rfl
theorem Rm:CN 43=some (some<|.agg #[.int .i64 0,.int .i64 0,.slice none 0 0,.slice none 0 0],4,64):=by kernel_rfl
theorem Wh:CN 44=some (some<|.slice none 0 0,1,24):=by kernel_rfl
theorem Lc:CN 46=some (some<|.agg #[.int .i64 0,.int .i64 0,.slice none 0 0,.slice none 0 0,.int .i64 0,.int .i64 0,.slice none 0 0,.slice none 0 0,.slice none 0 0],9,152):=by kernel_rfl
theorem Ta:CN 5=some (some<|.int .u8 0,1,1):=by kernel_rfl
theorem N6:CN 51=some (some<|.agg #[.int .i64 0,.int .i64 0,.slice none 0 0],3,40):=by kernel_rfl
theorem O0:CN 58=some (some<|.agg #[.string ⟨#[]⟩,.string ⟨#[]⟩],2,32):=by kernel_rfl
theorem Vw:CN 63=some (some<|.slice none 0 0,1,24):=by kernel_rfl
theorem Ur:CN 65=some (some<|.slice none 0 0,1,24):=by kernel_rfl
theorem XU:CN 66=some (some<|.slice none 0 0,1,24):=by kernel_rfl
theorem YJ:CN 67=some (some<|.slice none 0 0,1,24):=by kernel_rfl
theorem Tm:CN 69=some (some<|.agg #[.slice none 0 0,.slice none 0 0,.slice none 0 0],3,72):=by kernel_rfl
theorem QG:CN 70=some (some<|.slice none 0 0,1,24):=by kernel_rfl
theorem Vc:CN 72=some (some<|.slice none 0 0,1,24):=by kernel_rfl
theorem SN:CN 74=some (some<|.agg #[.slice none 0 0,.slice none 0 0,.slice none 0 0,.slice none 0 0,.slice none 0 0],5,120):=by kernel_rfl
theorem Xn:CN 76=some (some<|.agg #[.int .i64 0,.int .i64 0,.int .i64 0,.int .i64 0,.slice none 0 0,.slice none 0 0,.int .i64 0,.int .i64 0,.slice none 0 0,.slice none 0 0,.slice none 0 0,.slice none 0 0,.slice none 0 0,.slice none 0 0,.slice none 0 0,.slice none 0 0,.slice none 0 0,.slice none 0 0,.slice none 0 0],19,360):=by kernel_rfl
theorem ux:CN 86=some (some<|.agg #[.string ⟨#[]⟩,.string ⟨#[]⟩],2,32):=by kernel_rfl
theorem HY:CN 9=some (some<|.string ⟨#[]⟩,1,16):=by kernel_rfl
theorem FM:CQ prog 100 (.agg #[.int .i64 0,.int .i64 0,.slice none 0 0,.slice none 0 0]):=CQ.of Oq
theorem WJ:CQ prog 102 (.agg #[.int .i64 0,.int .i64 0,.slice none 0 0,.slice none 0 0,.int .i64 0,.int .i64 0,.slice none 0 0,.slice none 0 0,.slice none 0 0,.slice none 0 0,.string ⟨#[]⟩]):=CQ.of Tg
theorem N3:CQ prog 140 (.agg #[.int .i64 0,.int .i64 0,.string ⟨#[]⟩,.int .i64 0,.slice none 0 0]):=CQ.of Sz
theorem oy:CQ prog 158 (.agg #[.bool false,.bool false,.bool false,.bool false,.bool false]):=CQ.of XQ
theorem fW:CQ prog 176 (.agg #[.int .i64 0,.int .i64 0,.int .i64 0,.int .i64 0,.int .i64 0,.string ⟨#[]⟩,.string ⟨#[]⟩,.string ⟨#[]⟩]):=CQ.of TT
theorem SB:CQ prog 193 (.agg #[.slice none 0 0,.slice none 0 0,.int .i64 0]):=CQ.of rd
theorem nO:CQ prog 205 (.agg #[.int .u8 0,.int .u8 0]):=CQ.of Sq
theorem cQ:CQ prog 211 (.agg #[.int .i64 0,.int .i64 0,.int .i64 0,.int .i64 0]):=CQ.of UT
theorem Lf:CQ prog 26 (.agg #[.int .i64 0,.int .i64 0,.int .i64 0]):=CQ.of SD
theorem WB:CQ prog 39 (.slice none 0 0):=CQ.of In
theorem O2:CQ prog 46 (.agg #[.int .i64 0,.int .i64 0,.slice none 0 0,.slice none 0 0,.int .i64 0,.int .i64 0,.slice none 0 0,.slice none 0 0,.slice none 0 0]):=CQ.of Lc
theorem EV:CQ prog 51 (.agg #[.int .i64 0,.int .i64 0,.slice none 0 0]):=CQ.of N6
theorem P4:CQ prog 58 (.agg #[.string ⟨#[]⟩,.string ⟨#[]⟩]):=CQ.of O0
theorem Zg:CQ prog 69 (.agg #[.slice none 0 0,.slice none 0 0,.slice none 0 0]):=CQ.of Tm
theorem kk:CQ prog 74 (.agg #[.slice none 0 0,.slice none 0 0,.slice none 0 0,.slice none 0 0,.slice none 0 0]):=CQ.of SN
theorem Er:Bl prog 100 4:=Bl.of underlying100 rfl Oq
theorem LI:Bl prog 102 11:=Bl.of underlying102 rfl Tg
theorem Fv:Bl prog 140 5:=Bl.of underlying140 rfl Sz
theorem dI:Bl prog 142 2:=Bl.of underlying142 rfl er
theorem Ic:Bl prog 176 8:=Bl.of underlying176 rfl TT
theorem tr:Bl prog 205 2:=Bl.of underlying205 rfl Sq
theorem FB:Bl prog 211 4:=Bl.of underlying211 rfl UT
theorem DT:Bl prog 24 1:=Bl.of underlying24 rfl ml
theorem DN:Bl prog 26 3:=Bl.of underlying26 rfl SD
theorem Nc:Bl prog 43 4:=Bl.of underlying43 rfl Rm
theorem El:Bl prog 46 9:=Bl.of underlying46 rfl Lc
theorem Cf:Bl prog 51 3:=Bl.of underlying51 rfl N6
theorem CO:Bl prog 58 2:=Bl.of underlying58 rfl O0
theorem eC:Bl prog 69 3:=Bl.of underlying69 rfl Tm
theorem Sx:Bl prog 74 5:=Bl.of underlying74 rfl SN
theorem ge:Bl prog 76 19:=Bl.of underlying76 rfl Xn
theorem p9:Hu 0=some (GX.flatMap<|Ak .u8):=by kernel_rfl
theorem kz:Hu 1=some (Tu.flatMap JM.row):=by kernel_rfl
theorem Kv:Da prog 100 [(0,1),(1,1),(2,1),(3,1)] [.int .i64 0,.int .i64 0,.slice none 0 0,.slice none 0 0]:=Da.of underlying100 (λw=>by kernel_rfl) Oq
theorem OI:Da prog 102 [(0,9),(9,1),(10,1)] [.int .i64 0,.int .i64 0,.slice none 0 0,.slice none 0 0,.int .i64 0,.int .i64 0,.slice none 0 0,.slice none 0 0,.slice none 0 0,.slice none 0 0,.string ⟨#[]⟩]:=Da.of underlying102 (λw=>by kernel_rfl) Tg
theorem ol:Lt prog 158 [(0,1),(1,1),(2,1),(3,1),(4,1)] [.bool false,.bool false,.bool false,.bool false,.bool false]:=Lt.of (n:=5) (e:=4) underlying158 MX (ap<|by decide) XQ
theorem TA:Da prog 196 [(0,1),(1,1)] [.slice none 0 0,.int .i64 0]:=Da.of underlying196 (λw=>by kernel_rfl) qx
theorem HL:Da prog 26 [(0,1),(1,1),(2,1)] [.int .i64 0,.int .i64 0,.int .i64 0]:=Da.of underlying26 (λw=>by kernel_rfl) SD
theorem X9:Da prog 43 [(0,1),(1,1),(2,1),(3,1)] [.int .i64 0,.int .i64 0,.slice none 0 0,.slice none 0 0]:=Da.of underlying43 (λw=>by kernel_rfl) Rm
theorem Qx:Da prog 46 [(0,1),(1,1),(2,1),(3,1),(4,4),(8,1)] [.int .i64 0,.int .i64 0,.slice none 0 0,.slice none 0 0,.int .i64 0,.int .i64 0,.slice none 0 0,.slice none 0 0,.slice none 0 0]:=Da.of underlying46 (λw=>by kernel_rfl) Lc
theorem JJ:Da prog 51 [(0,1),(1,1),(2,1)] [.int .i64 0,.int .i64 0,.slice none 0 0]:=Da.of underlying51 (λw=>by kernel_rfl) N6
theorem Fo:Da prog 58 [(0,1),(1,1)] [.string ⟨#[]⟩,.string ⟨#[]⟩]:=Da.of underlying58 (λw=>by kernel_rfl) O0
theorem qz:Da prog 69 [(0,1),(1,1),(2,1)] [.slice none 0 0,.slice none 0 0,.slice none 0 0]:=Da.of underlying69 (λw=>by kernel_rfl) Tm
theorem YI:Da prog 76 [(0,1),(1,1),(2,9),(11,1),(12,1),(13,5),(18,1)] [.int .i64 0,.int .i64 0,.int .i64 0,.int .i64 0,.slice none 0 0,.slice none 0 0,.int .i64 0,.int .i64 0,.slice none 0 0,.slice none 0 0,.slice none 0 0,.slice none 0 0,.slice none 0 0,.slice none 0 0,.slice none 0 0,.slice none 0 0,.slice none 0 0,.slice none 0 0,.slice none 0 0]:=Da.of underlying76 (λw=>by kernel_rfl) Xn
theorem rm:Lt prog 86 [(0,1),(1,1)] [.string ⟨#[]⟩,.string ⟨#[]⟩]:=Lt.of (n:=2) (e:=9) underlying86 HY (ap<|by decide) ux
theorem tB:If prog 100 1 1:=If.of underlying100 rfl rfl underlying3 rfl
theorem mP:If prog 100 3 3:=If.of underlying100 rfl rfl underlying36 rfl
theorem ja:Ew prog 142 [some<|.int .i64,some<|.int .i64]:=Ew.of underlying142 (by kernel_rfl) (by kernel_rfl)<|by exact⟨rfl,rfl,underlying3,rfl,rfl,underlying3,trivial⟩
theorem ts:Ew prog 176 [some<|.int .i64,some<|.int .i64,some<|.int .i64,some<|.int .i64,some<|.int .i64,some .string,some .string,some .string]:=Ew.of underlying176 (by kernel_rfl) (by kernel_rfl)<|by exact⟨rfl,rfl,underlying3,rfl,rfl,underlying3,rfl,rfl,underlying3,rfl,rfl,underlying3,rfl,rfl,underlying3,rfl,rfl,underlying9,rfl,rfl,underlying9,rfl,rfl,underlying9,trivial⟩
theorem iI:Ew prog 211 [some<|.int .i64,some<|.int .i64,some<|.int .i64,some<|.int .i64]:=Ew.of underlying211 (by kernel_rfl) (by kernel_rfl)<|by exact⟨rfl,rfl,underlying3,rfl,rfl,underlying3,rfl,rfl,underlying3,rfl,rfl,underlying3,trivial⟩
theorem rq:Ew prog 26 [some<|.int .i64,some<|.int .i64,some<|.int .i64]:=Ew.of underlying26 (by kernel_rfl) (by kernel_rfl)<|by exact⟨rfl,rfl,underlying3,rfl,rfl,underlying3,rfl,rfl,underlying3,trivial⟩
theorem ek:Ew prog 58 [some .string,some .string]:=Ew.of underlying58 (by kernel_rfl) (by kernel_rfl)<|by exact⟨rfl,rfl,underlying9,rfl,rfl,underlying9,trivial⟩
theorem B9:Aa prog 100 0 0:=Aa.of underlying100 rfl rfl Cn<|by decide
theorem EJ:Aa prog 100 1 1:=Aa.of underlying100 rfl rfl Cn<|by decide
theorem Dy:Aa prog 100 2 2:=Aa.of underlying100 rfl rfl In<|by decide
theorem EO:Aa prog 100 3 3:=Aa.of underlying100 rfl rfl MG<|by decide
theorem OQ:Aa prog 102 0 0:=Aa.of underlying102 rfl rfl Lc<|by decide
theorem N2:Aa prog 102 1 9:=Aa.of underlying102 rfl rfl Vw<|by decide
theorem eG:Aa prog 102 2 10:=Aa.of underlying102 rfl rfl HY<|by decide
theorem GO:Aa prog 140 0 0:=Aa.of underlying140 rfl rfl Cn<|by decide
theorem HE:Aa prog 140 1 1:=Aa.of underlying140 rfl rfl Cn<|by decide
theorem Hp:Aa prog 140 2 2:=Aa.of underlying140 rfl rfl HY<|by decide
theorem Fg:Aa prog 140 3 3:=Aa.of underlying140 rfl rfl Cn<|by decide
theorem Ht:Aa prog 140 4 4:=Aa.of underlying140 rfl rfl In<|by decide
theorem LM:Aa prog 142 0 0:=Aa.of underlying142 rfl rfl Cn<|by decide
theorem Vp:Aa prog 142 1 1:=Aa.of underlying142 rfl rfl Cn<|by decide
theorem Ih:Aa prog 176 0 0:=Aa.of underlying176 rfl rfl Cn<|by decide
theorem LO:Aa prog 176 1 1:=Aa.of underlying176 rfl rfl Cn<|by decide
theorem HJ:Aa prog 176 2 2:=Aa.of underlying176 rfl rfl Cn<|by decide
theorem Xo:Aa prog 176 3 3:=Aa.of underlying176 rfl rfl Cn<|by decide
theorem Q0:Aa prog 176 4 4:=Aa.of underlying176 rfl rfl Cn<|by decide
theorem Ro:Aa prog 176 5 5:=Aa.of underlying176 rfl rfl HY<|by decide
theorem UQ:Aa prog 176 6 6:=Aa.of underlying176 rfl rfl HY<|by decide
theorem M4:Aa prog 176 7 7:=Aa.of underlying176 rfl rfl HY<|by decide
theorem G6:Aa prog 193 0 0:=Aa.of underlying193 rfl rfl QG<|by decide
theorem Pf:Aa prog 193 1 1:=Aa.of underlying193 rfl rfl MG<|by decide
theorem Fp:Aa prog 193 2 2:=Aa.of underlying193 rfl rfl Cn<|by decide
theorem LZ:Aa prog 196 0 0:=Aa.of underlying196 rfl rfl QG<|by decide
theorem LP:Aa prog 196 1 1:=Aa.of underlying196 rfl rfl Cn<|by decide
theorem oe:Aa prog 205 0 0:=Aa.of underlying205 rfl rfl Ta<|by decide
theorem ov:Aa prog 205 1 1:=Aa.of underlying205 rfl rfl Ta<|by decide
theorem EC:Aa prog 211 0 0:=Aa.of underlying211 rfl rfl Cn<|by decide
theorem FD:Aa prog 211 1 1:=Aa.of underlying211 rfl rfl Cn<|by decide
theorem H6:Aa prog 211 2 2:=Aa.of underlying211 rfl rfl Cn<|by decide
theorem IE:Aa prog 211 3 3:=Aa.of underlying211 rfl rfl Cn<|by decide
theorem Dd:Aa prog 24 0 0:=Aa.of underlying24 rfl rfl bL<|by decide
theorem Lz:Aa prog 26 0 0:=Aa.of underlying26 rfl rfl Cn<|by decide
theorem GW:Aa prog 26 1 1:=Aa.of underlying26 rfl rfl Cn<|by decide
theorem L7:Aa prog 26 2 2:=Aa.of underlying26 rfl rfl Cn<|by decide
theorem Gg:Aa prog 43 0 0:=Aa.of underlying43 rfl rfl Cn<|by decide
theorem Gh:Aa prog 43 1 1:=Aa.of underlying43 rfl rfl Cn<|by decide
theorem GK:Aa prog 43 2 2:=Aa.of underlying43 rfl rfl YQ<|by decide
theorem Fs:Aa prog 43 3 3:=Aa.of underlying43 rfl rfl T1<|by decide
theorem EQ:Aa prog 46 0 0:=Aa.of underlying46 rfl rfl Cn<|by decide
theorem CR:Aa prog 46 1 1:=Aa.of underlying46 rfl rfl Cn<|by decide
theorem NX:Aa prog 46 2 2:=Aa.of underlying46 rfl rfl In<|by decide
theorem Em:Aa prog 46 3 3:=Aa.of underlying46 rfl rfl MG<|by decide
theorem GA:Aa prog 46 4 4:=Aa.of underlying46 rfl rfl Rm<|by decide
theorem JW:Aa prog 46 5 8:=Aa.of underlying46 rfl rfl Wh<|by decide
theorem Eb:Aa prog 51 0 0:=Aa.of underlying51 rfl rfl Cn<|by decide
theorem Ek:Aa prog 51 1 1:=Aa.of underlying51 rfl rfl Cn<|by decide
theorem Cr:Aa prog 51 2 2:=Aa.of underlying51 rfl rfl In<|by decide
theorem Cb:Aa prog 58 0 0:=Aa.of underlying58 rfl rfl HY<|by decide
theorem IP:Aa prog 58 1 1:=Aa.of underlying58 rfl rfl HY<|by decide
theorem KW:Aa prog 69 0 0:=Aa.of underlying69 rfl rfl Ur<|by decide
theorem XT:Aa prog 69 1 1:=Aa.of underlying69 rfl rfl XU<|by decide
theorem Wt:Aa prog 69 2 2:=Aa.of underlying69 rfl rfl YJ<|by decide
theorem UW:Aa prog 74 0 0:=Aa.of underlying74 rfl rfl Vc<|by decide
theorem SC:Aa prog 74 1 1:=Aa.of underlying74 rfl rfl Vc<|by decide
theorem Ty:Aa prog 74 2 2:=Aa.of underlying74 rfl rfl YQ<|by decide
theorem Rg:Aa prog 74 3 3:=Aa.of underlying74 rfl rfl T1<|by decide
theorem LN:Aa prog 74 4 4:=Aa.of underlying74 rfl rfl T1<|by decide
theorem Ln:Aa prog 76 0 0:=Aa.of underlying76 rfl rfl Cn<|by decide
theorem Pq:Aa prog 76 1 1:=Aa.of underlying76 rfl rfl Cn<|by decide
theorem T9:Aa prog 76 2 2:=Aa.of underlying76 rfl rfl Lc<|by decide
theorem Sc:Aa prog 76 3 11:=Aa.of underlying76 rfl rfl In<|by decide
theorem ML:Aa prog 76 4 12:=Aa.of underlying76 rfl rfl QG<|by decide
theorem Sv:Aa prog 76 5 13:=Aa.of underlying76 rfl rfl SN<|by decide
theorem Tx:Aa prog 76 6 18:=Aa.of underlying76 rfl rfl Wh<|by decide
theorem Wg:Bu prog 149 9 1 16:=Bu.of underlying149 HY rfl rfl<|by decide
theorem C0:Bu prog 22 46 9 152:=Bu.of underlying22 Lc rfl rfl<|by decide
theorem GG:Bu prog 30 76 19 360:=Bu.of underlying30 Xn rfl rfl<|by decide
theorem Ar:Bu prog 36 51 3 40:=Bu.of underlying36 N6 rfl rfl<|by decide
theorem Af:Bu prog 39 58 2 32:=Bu.of underlying39 O0 rfl rfl<|by decide
theorem Cq:Bu prog 40 140 5 64:=Bu.of underlying40 Sz rfl rfl<|by decide
theorem Cs:Bu prog 41 211 4 32:=Bu.of underlying41 UT rfl rfl<|by decide
theorem FW:Bu prog 44 176 8 88:=Bu.of underlying44 TT rfl rfl<|by decide
theorem B8:Bu prog 63 3 1 8:=Bu.of underlying63 Cn rfl rfl<|by decide
theorem Jm:Bu prog 65 36 1 24:=Bu.of underlying65 MG rfl rfl<|by decide
theorem N7:Bu prog 66 4 1 1:=Bu.of underlying66 MX rfl rfl<|by decide
theorem YY:Bu prog 67 39 1 24:=Bu.of underlying67 In rfl rfl<|by decide
theorem Bw:Bu prog 70 100 4 64:=Bu.of underlying70 Oq rfl rfl<|by decide
theorem Ej:Bu prog 72 142 2 16:=Bu.of underlying72 er rfl rfl<|by decide
theorem je:Nj prog 86 2 9:=Nj.of underlying86<|Be.of underlying9 rfl HY
theorem ls:KB prog 4 [.bool false]:=KB.of MX rfl
theorem WG:KB prog 51 [.int .i64 0,.int .i64 0,.sl []]:=KB.of N6 rfl
theorem DZ:Be prog 22:=Be.of underlying22 rfl bL
theorem AJ:Be prog 3:=Be.of underlying3 rfl Cn
theorem B0:Be prog 36:=Be.of underlying36 rfl MG
theorem BE:Be prog 39:=Be.of underlying39 rfl In
theorem VX:Be prog 4:=Be.of underlying4 rfl MX
theorem E0:Be prog 40:=Be.of underlying40 rfl YQ
theorem DQ:Be prog 41:=Be.of underlying41 rfl T1
theorem Gx:Be prog 44:=Be.of underlying44 rfl Wh
theorem YA:Be prog 5:=Be.of underlying5 rfl Ta
theorem OR:Be prog 63:=Be.of underlying63 rfl Vw
theorem NT:Be prog 65:=Be.of underlying65 rfl Ur
theorem ey:Be prog 66:=Be.of underlying66 rfl XU
theorem gh:Be prog 67:=Be.of underlying67 rfl YJ
theorem EF:Be prog 70:=Be.of underlying70 rfl QG
theorem Jt:Be prog 72:=Be.of underlying72 rfl Vc
theorem BG:Be prog 9:=Be.of underlying9 rfl HY
theorem nS:Pv prog 158 5 4 1:=⟨underlying158,DA MX⟩
theorem pB:Pv prog 203 256 5 1:=⟨underlying203,DA Ta⟩
theorem mz:Pv prog 206 16 205 2:=⟨underlying206,DA Sq⟩
theorem FL:∃i,prog.info? 100=some i∧i.size=4:=DA Oq
theorem Jc:∃i,prog.info? 102=some i∧i.size=11:=DA Tg
theorem MY:∃i,prog.info? 140=some i∧i.size=5:=DA Sz
theorem pk:∃i,prog.info? 158=some i∧i.size=5:=DA XQ
theorem fV:∃i,prog.info? 176=some i∧i.size=8:=DA TT
theorem jE:∃i,prog.info? 205=some i∧i.size=2:=DA Sq
theorem eg:∃i,prog.info? 211=some i∧i.size=4:=DA UT
theorem Eo:∃i,prog.info? 26=some i∧i.size=3:=DA SD
theorem Fa:∃i,prog.info? 3=some i∧i.size=1:=DA Cn
theorem RB:∃i,prog.info? 36=some i∧i.size=1:=DA MG
theorem GZ:∃i,prog.info? 39=some i∧i.size=1:=DA In
theorem mK:∃i,prog.info? 4=some i∧i.size=1:=DA MX
theorem qm:∃i,prog.info? 43=some i∧i.size=4:=DA Rm
theorem QH:∃i,prog.info? 46=some i∧i.size=9:=DA Lc
theorem DK:∃i,prog.info? 51=some i∧i.size=3:=DA N6
theorem Nw:∃i,prog.info? 58=some i∧i.size=2:=DA O0
theorem lg:∃i,prog.info? 63=some i∧i.size=1:=DA Vw
theorem rY:∃i,prog.info? 65=some i∧i.size=1:=DA Ur
theorem jQ:∃i,prog.info? 66=some i∧i.size=1:=DA XU
theorem kV:∃i,prog.info? 67=some i∧i.size=1:=DA YJ
theorem fX:∃i,prog.info? 69=some i∧i.size=3:=DA Tm
theorem Rw:∃i,prog.info? 70=some i∧i.size=1:=DA QG
theorem rD:∃i,prog.info? 74=some i∧i.size=5:=DA SN
@[reducible] def qa(l:List AC):AV:=.r<|.sl<|l.map AC.row
@[reducible] def qb(l:List AG):AV:=.r<|.sl<|l.map AG.row
@[reducible] def qc(l:List Ax):AV:=.r<|.sl<|l.map Ax.row
@[reducible] def qd(l:List AI):AV:=.r<|.sl<|l.map AI.row
@[reducible] def qe(l:List A0):AV:=.r<|.sl<|l.map A0.row
@[reducible] def qf(l:List BS):AV:=.r<|.sl<|l.map BS.row
@[reducible] def qg(l:List AX):AV:=.r<|.sl<|l.map AX.row
@[reducible] def qh(l:List Db):AV:=.r<|.sl<|l.map Db.row
@[reducible] def qi(l:List Ai):AV:=.r<|.sl<|l.map Ai.row
set_option linter.defProp false
@[reducible] def YC(x:AX):List AV:=[rI<|0,rI<|0,rI<|x.ID,rI<|x.Kind,qa x.Attrs,qb x.Flow,rI<|x.Grid.Rows,rI<|x.Grid.Cols,.cst<|.slice none 0 0,.cst<|.slice none 0 0,.cst<|.slice none 0 0,.cst<|.slice none 0 0,.cst<|.slice none 0 0,.cst<|.slice none 0 0,.cst<|.slice none 0 0,.cst<|.slice none 0 0,.cst<|.slice none 0 0,.cst<|.slice none 0 0,.cst<|.slice none 0 0]
@[reducible] def lJ(x:Ai):List AV:=[.agg [rI<|x.Kind,rI<|x.Node,rI<|x.New.ID,rI<|x.New.Kind,qa x.New.Attrs,qb x.New.Flow,rI<|x.New.Grid.Rows,rI<|x.New.Grid.Cols,qe x.New.Grid.Cells,qc x.New.Grid.Merges,qf x.New.Draw,qa x.Attrs,qd x.Steps,qh x.Grid.Rows,qh x.Grid.Cols,qe x.Grid.Cells,qc x.Grid.Split,qc x.Grid.Merge,qf x.Draw]]
@[reducible] def D9(x:Ai):List AV:=[rI<|x.Kind,rI<|x.Node,rI<|x.New.ID,rI<|x.New.Kind,qa x.New.Attrs,qb x.New.Flow,rI<|x.New.Grid.Rows,rI<|x.New.Grid.Cols,qe x.New.Grid.Cells,qc x.New.Grid.Merges,qf x.New.Draw,qa x.Attrs,qd x.Steps,qh x.Grid.Rows,qh x.Grid.Cols,qe x.Grid.Cells,qc x.Grid.Split,qc x.Grid.Merge,qf x.Draw]
@[reducible] def Bi(x:Cd):List AV:=[rI<|x.node.ID,rI<|x.node.Kind,qa x.node.Attrs,qb x.node.Flow,rI<|x.node.Grid.Rows,rI<|x.node.Grid.Cols,qe x.node.Grid.Cells,qc x.node.Grid.Merges,qf x.node.Draw,.r<|.sl<|x.shown.map<|Ak .i64,.r<|.str x.author]
@[reducible] def GD:List AV:=[rI<|0,rI<|0,.cst<|.slice none 0 0,.cst<|.slice none 0 0,rI<|0,rI<|0,.cst<|.slice none 0 0,.cst<|.slice none 0 0,.cst<|.slice none 0 0,.cst<|.slice none 0 0,.r<|.str []]
@[reducible] def Oy(x:AX):List AV:=[rI<|x.ID,rI<|x.Kind,qa x.Attrs,qb x.Flow,rI<|x.Grid.Rows,rI<|x.Grid.Cols,.cst<|.slice none 0 0,.cst<|.slice none 0 0,.cst<|.slice none 0 0]
@[reducible] def I5:List AV:=[rI<|0,rI<|0,.cst<|.slice none 0 0,.cst<|.slice none 0 0,rI<|0,rI<|0,.cst<|.slice none 0 0,.cst<|.slice none 0 0,.cst<|.slice none 0 0]
@[reducible] def Nt(x:AX):List AV:=[.agg [rI<|x.ID,rI<|x.Kind,qa x.Attrs,qb x.Flow,rI<|x.Grid.Rows,rI<|x.Grid.Cols,qe x.Grid.Cells,qc x.Grid.Merges,qf x.Draw]]
@[reducible] def pL(x:BS):List AV:=[.agg [rI<|x.Clock,rI<|x.Site,rI<|x.Kind,rI<|x.Item,rI<|x.Parent,.r<|.str x.Place,.r<|.str x.Name,.r<|.str x.Value]]
@[reducible] def BY(x:AX):List AV:=[rI<|x.ID,rI<|x.Kind,qa x.Attrs,qb x.Flow,rI<|x.Grid.Rows,rI<|x.Grid.Cols,qe x.Grid.Cells,qc x.Grid.Merges,qf x.Draw]
@[reducible] def Cm(x:BS):List AV:=[rI<|x.Clock,rI<|x.Site,rI<|x.Kind,rI<|x.Item,rI<|x.Parent,.r<|.str x.Place,.r<|.str x.Name,.r<|.str x.Value]
@[reducible] def HU(x:Bo):List AV:=[.r<|.sl<|x.Adds.map<|EE AG.row,.r<|.sl<|x.Cuts.map En,.r<|.sl<|x.Attrs.map<|EE AC.row]
@[reducible] def VS(x:AC):List AV:=[.agg [.r<|.str x.Name,.r<|.str x.Value],.agg [.r<|.str [],.r<|.str []]]
@[reducible] def Uk(x:AC):List AV:=[.agg [.r<|.str [],.r<|.str []],.agg [.r<|.str x.Name,.r<|.str x.Value]]
@[reducible] def cO(x:A0):List AV:=[.agg [rI<|x.Row,rI<|x.Col,.r<|.str x.Text,rI<|x.Ref,qa x.Attrs]]
@[reducible] def I1:List AV:=[.cst<|.slice none 0 0,.cst<|.slice none 0 0,.cst<|.slice none 0 0]
@[reducible] def B6(x:A0):List AV:=[rI<|x.Row,rI<|x.Col,.r<|.str x.Text,rI<|x.Ref,qa x.Attrs]
@[reducible] def EH:List AV:=[rI<|0,rI<|0,.cst<|.slice none 0 0,.cst<|.slice none 0 0]
@[reducible] def VH:List AV:=[rI<|0,rI<|1,.cst<|.slice none 0 0,.cst<|.slice none 0 0]
@[reducible] def Mn:List AV:=[rI<|0,rI<|0,.r<|.str [],rI<|0,.cst<|.slice none 0 0]
@[reducible] def bO:List AV:=[rB<|false,rB<|false,rB<|false,rB<|false,rB<|false]
@[reducible] def W4(x:A1):List AV:=[.agg [rI<|x.Rows,rI<|x.Cols,qe x.Cells,qc x.Merges]]
@[reducible] def Dk(x:DW):List AV:=[qh x.Rows,qh x.Cols,qe x.Cells,qc x.Split,qc x.Merge]
@[reducible] def N9:List AV:=[.cst<|.slice none 0 0,.cst<|.slice none 0 0,rI<|0]
@[reducible] def RX(x:AI):List AV:=[.agg [rI<|x.Kind,rI<|x.N,qa x.Attrs,qb x.Elems]]
@[reducible] def Dh(x:A1):List AV:=[rI<|x.Rows,rI<|x.Cols,qe x.Cells,qc x.Merges]
@[reducible] def Bt(x:AI):List AV:=[rI<|x.Kind,rI<|x.N,qa x.Attrs,qb x.Elems]
@[reducible] def iV(x:AG):List AV:=[.agg [rI<|x.Char,rI<|x.Ref,qa x.Attrs]]
@[reducible] def BW(x:Ax):List AV:=[rI<|x.Row,rI<|x.Col,rI<|x.H,rI<|x.W]
@[reducible] def GC:List AV:=[rI<|10,rI<|0,.cst<|.slice none 0 0]
@[reducible] def Ec:List AV:=[rI<|0,rI<|0,.cst<|.slice none 0 0]
@[reducible] def TV:List AV:=[.r<|.str [99,117,116],.r<|.str []]
@[reducible] def Ag(x:AG):List AV:=[rI<|x.Char,rI<|x.Ref,qa x.Attrs]
@[reducible] def BL(x:AC):List AV:=[.r<|.str x.Name,.r<|.str x.Value]
@[reducible] def Ab(x:Am):List AV:=[rI<|x.Node,rI<|x.From,rI<|x.To]
@[reducible] def vm{T r:Int}{x:Exit}{s:St}{j:ResultVar}:=@DE Int prog T r x s j λr=>rI r
@[reducible] def vq{T r:Bool}{x:Exit}{s:St}{j:ResultVar}:=@DE Bool prog T r x s j λr=>rB r
@[reducible] def yI:=@fI prog
@[reducible] def yB:=@Y2 prog
@[reducible] def Za:=@trivial
@[reducible] def Zb:=@wn
@[reducible] def Zd:=@AW.skip
@[reducible] def Zf:=@AW.block
@[reducible] def Zi:=@AM.nil
@[reducible] def Zj:=@iz
@[reducible] def Zk:=@AW.ret
@[reducible] def Zm:=@Ap.trans
@[reducible] def Zn:=@AW.exit
@[reducible] def Zq:=@ve
@[reducible] def Zu:=@AT.step
@[reducible] def Zx:=@SG.mk
@[reducible] def Zz:=@wx
@[reducible] def ZB:=@jB
@[reducible] def ZC:=@vG
@[reducible] def ZD:=@Ap.cv
@[reducible] def ZL:=@S0.mk
@[reducible] def ZN:=@vY
@[reducible] def R:=@rfl
set_option maxHeartbeats 4000000 in
set_option maxRecDepth 100000 in
theorem gL{r}(h:cF=some r):AO prog 94 [] (rB r):=by
 unfold cF at h
 cases h
 exact AO.runX [] (λp hp=>by cases hp) [] [] 40 1000000 BF func94 R R R<|by kernel_rfl
set_option maxHeartbeats 4000000 in
set_option maxRecDepth 100000 in
theorem nu{r}(h:fq=some r):AO prog 46 [] (rB r):=by
 unfold fq at h
 cases h
 exact AO.runX [(94,true)] (λp hp=>by simp only[wM,zh,or_false] at hp;subst hp;exact gL rfl) [] [139,49] 40 1000000 BF func46 rfl rfl rfl<|by kernel_rfl
set_option maxHeartbeats 4000000 in
set_option maxRecDepth 100000 in
theorem ng{r}(h:Ti=some r):AO prog 8 [] (rB r):=by
 unfold Ti at h
 cases h
 exact AO.runX [(94,true),(46,true)] (λp hp=>by simp only[wM,zh,or_false] at hp;rcases hp with rfl | rfl<;>first | exact gL rfl | exact nu rfl) [44,11,106,120,107,108,102,47,52] [139,49,66] 40 1000000 BF func8 rfl rfl rfl<|by kernel_rfl
theorem DL{j l a r}(h:CX j l a=some r):AO prog 32 [rI j,rI l,rI a] (rB r):=by
 unfold CX at h
 exact mF func32 ntmps32 R λq=>aU<|mA R<|aZ<|aU<|mM R<|mM R<|sQ R (Cv R iL iL)<|mM R<|vM R<|vM R<|vQ R (FJ R (iR R)<|iR R)<|xN R<|mA R<|aZ<|Zk<|yB h R
theorem ig{l r}(h:OA l=some r):AO prog 76 [rS l] (rB r):=by
 unfold OA at h
 refine mF func76 ntmps76 R λX=>aU<|mA R<|aZ<|aS λY Z A=>aU<|mM R<|sQ R (Dl R underlying9 iL)<|mM R<|aZ<|Zf<|BJ h λo1 q B C=>?_
 have J1:∀(T:Unit) (U:NN),o1=.nrm T→Y ⟨[(0,rS l)],[],(U 0),59⟩:=by
  intro T U e
  have h1:=B _ e
  exact Z _<|aU<|mM R<|sQ R (Dl R underlying9 iL)<|sQ R (Cv R iL iL)<|mM R<|vM R<|vQ R (Dl R underlying9<|iR R)<|vQ R (FJ R (iR R) iL)<|xN R<|mA R<|aZ<|Zk<|yB h1 R
 refine ZC (λ(E:Int) w=>⟨[(0,rS l),(6,rL l),(7,rI E)],[],(w 0),59⟩) (AH [X]) q wk ?_
 intro E w v1 F u
 have V:Mp l E=some v1:=F;unfold Mp at V
 refine aU<|xS R<|aZ<|aT λc6=>cI R V (λI=>?_) λI=>?_
 ·refine Zd<|c6 _<|aT λc7=>Zf<|aU<|mM R<|mA R<|aZ<|aU<|mM R<|mM R<|AE I λa0 j h4=>sQ R (DO R underlying9 iL iL λ_=>j)<|sQ R (Cv R iL iL)<|mM R<|vM R<|vM R<|vQ R (DO R underlying9 (iR R) (iR R) λ_=>j)<|vQ R (FJ R (iR R) iL)<|xN R<|mA R<|aZ<|aT λJ=>aR<|mM R<|sQ R (A3 R iL)<|mM R<|vM R<|vQ R (Aw R (iR R) iL)<|vQ R (AK R<|iR R)<|wQ R (AK R iL)<|wQ R (AK R iL)<|wQ R (DO R underlying9 (iR R) (iR R) λ_=>j)<|wQ R (Cc R (iR R) iL)<|wQ R (AK R<|iR R)<|wQ R (AK R iL)<|wQ R (AK R iL)<|wQ R (DO R underlying9 (iR R) (iR R) λ_=>j)<|wQ R (Cc R (iR R) iL)<|wQ R (BQ R (iR R)<|iR R)<|wQ R (AK R<|iR R)<|wQ R (AK R iL)<|wQ R (AK R iL)<|wQ R (DO R underlying9 (iR R) (iR R) λ_=>j)<|wQ R (B7 R (iR R) iL)<|wQ R (AK R<|iR R)<|wQ R (AK R iL)<|wQ R (AK R iL)<|wQ R (DO R underlying9 (iR R) (iR R) λ_=>j)<|wQ R (BD R (iR R) iL)<|wQ R (CB R (iR R)<|iR R)<|wQ R (BQ R (iR R)<|iR R)<|vQ R (CB R (iR R)<|iR R)<|xN R<|aZ<|J _<|cI R h4 (λM=>?_) λM=>?_
  ·exact zB (C _<|xH u M) R id
  refine Zd<|c7 _<|aF [0,6,7] ?_
  exact aR<|AE M λx4 O h6=>xA R O<|mM R<|Zi<|Zx h6 (AH [(w 0)]) wk
 exact Zn<|A _ _ wk<|J1 _ (AH [(w 0)])<|xH u I
theorem Us{l r}(h:LC l=some r):AO prog 53 [rS l] (rB r):=by
 unfold LC at h
 refine mF func53 ntmps53 R λV=>aU<|mA R<|aZ<|aS λX Y A=>aU<|mM R<|sQ R (Dl R underlying9 iL)<|mM R<|aZ<|Zf<|BJ h λZ q B C=>?_
 have J1:∀(O:Unit) (T:NN),Z=.nrm O→X ⟨[(0,rS l)],[],(T 0),28⟩:=by
  intro O T e
  have h1:=B _ e
  exact Y _<|aU<|mM R<|sQ R (Dl R underlying9 iL)<|sQ R (Cv R iL iL)<|mM R<|vM R<|vQ R (Dl R underlying9<|iR R)<|vQ R (FJ R (iR R) iL)<|xN R<|mA R<|aZ<|Zk<|yB h1 R
 refine ZC (λ(E:Int) w=>⟨[(0,rS l),(5,rL l),(6,rI E)],[],(w 0),28⟩) (AH [V]) q wk ?_
 intro E w v1 F u
 have U:Qi l E=some v1:=F;unfold Qi at U
 refine aU<|xS R<|aZ<|aT λc6=>cI R U (λI=>?_) λI=>?_
 ·refine Zd<|c6 _<|aT λc7=>Zf<|aU<|mM R<|mA R<|aZ<|aU<|mM R<|mM R<|AE I λa0 j h4=>sQ R (DO R underlying9 iL iL λ_=>j)<|xS R<|mM R<|vM R<|vM R<|vQ R (DO R underlying9 (iR R) (iR R) λ_=>j)<|vQ R (BD R (iR R) iL)<|xO R<|aZ<|cI R h4 (λJ=>?_) λJ=>?_
  ·exact zB (C _<|xH u J) R id
  refine Zd<|c7 _<|aF [0,5,6] ?_
  exact aR<|AE J λx4 M h6=>xA R M<|mM R<|Zi<|Zx h6 (AH [(w 0)]) wk
 exact Zn<|A _ _ wk<|J1 _ (AH [(w 0)])<|xH u I
theorem Nb{w c r}(h:Hh w c=some r):AO prog 26 [qa w,rB c] (rI r):=by
 unfold Hh at h
 refine mF func26 ntmps26 R λn0=>aU<|mA R<|aZ<|aS λK2 c2 E=>aU<|mM R<|xL Af R<|mM R<|aZ<|Zf<|BJ h λo1 A F q=>?_
 have J1:∀(u2:Unit) (i5:NN),o1=.nrm u2→K2 ⟨[],[],(i5 0),54⟩:=by
  intro u2 i5 e
  have h1:=F _ e
  exact c2 _<|zI h1 R id
 refine ZC (λ(I:Int) B=>⟨[(0,qa w),(1,rB c),(7,rL w),(8,rI I)],[],(B 0),54⟩) (AH [n0]) A wk ?_
 intro I B v1 J j
 have h2:MK w c I=some v1:=J;unfold MK at h2
 refine aU<|xS R<|aZ<|aT λc6=>cI R h2 (λM=>?_) λM=>?_
 ·refine Zd<|c6 _<|aT λc7=>Zf<|aU<|mM R<|mA R<|aZ<|aT λc9=>aU<|mM R<|mM R<|AE M λC l h4=>xI Af R l<|sQ R (A6 R Cb iL)<|xV (.str C.Name) BG R<|AE h4 λr1 O h5=>cL (ig<|O) R<|sQ R (A3 R iL)<|aZ<|cI R h5 (λT=>?_) λT=>?_
  ·exact zI (q _<|xH j T) R id
  refine Zd<|c9 _<|aT λU=>aT λV=>aF [0,1,5,7,8] ?_
  refine aR<|mM R<|mM R<|xI Af R l<|sQ R (A6 R IP iL)<|xV (.str C.Value) BG R<|AE T λr2 X h7=>cL (Us<|X) R<|sQ R (A3 R iL)<|mM R<|vM R<|vM R<|vQ R (At R Af.slice (iR R) (iR R) (λ_=>R) λ_=>l)<|vQ R (A6 R IP<|iR R)<|vQ R (BV (d:=.str C.Value) R BG (iR R) R)<|vQ R (D7 R (iR R) iL)<|vQ R (AK R<|iR R)<|wQ R (AK R iL)<|wQ R (A3 R<|iR R)<|vQ R (CB R (iR R)<|iR R)<|xN R<|aZ<|V _<|cI R h7 (λY=>?_) λY=>?_
  ·exact zI (q _<|xH j Y) R id
  refine Zd<|U _<|aT λZ=>aF [0,1,5,7,8] ?_
  refine ZB BF (by kernel_rfl) ?_
  refine qP R (AK R iL)<|qP R (BD R iL iL)<|qP R (AK R iL)<|qO R (AK R iL)<|qO R (AK R iL)<|AE Y λx5 a0 h9=>qO R (B5 R (iR R) iL<|AP a0)<|AE h9 λx6 a1 a2=>qO R (At R Af.slice (iR R) (iR R) (λ_=>R)<|AP a1)<|qO R (A6 R Cb<|iR R)<|qO R (BV (d:=.str x6.Name) R BG (iR R) R)<|qO R (AK R iL)<|qO R (AK R iL)<|qO R (At R Af.slice (iR R) (iR R) (λ_=>R) λ_=>l)<|qO R (A6 R Cb<|iR R)<|qO R (BV (d:=.str C.Name) R BG (iR R) R)<|qO R (Xi R (iR R)<|iR R)<|qP R (BQ R iL<|iR R)<|AQ.nil<|Z _<|cI R a2 (λu=>?_) λu=>?_
  ·exact zI (q _<|xH j u) R id
  exact Zd<|c7 _<|aR<|AE u λx7 a6 a7=>xA R a6<|mM R<|Zi<|Zx a7 (AH [(B 0)]) wk
 exact Zn<|E _ _ wk<|J1 _ (AH [(B 0)])<|xH j M
theorem UH{k r}(h:Kp k=some r):AO prog 48 [rI k] (rB r):=by
 unfold Kp at h
 exact mF func48 ntmps48 R λj=>aU<|mA R<|aZ<|aU<|mM R<|xQ R<|mM R<|vM R<|vQ R (Aw R (iR R) iL)<|xO R<|mM R<|vM R<|vQ R (Aw R (iR R) iL)<|xO R<|mM R<|vM R<|vQ R (Aw R (iR R) iL)<|xO R<|mA R<|aZ<|Zk<|yB h R
theorem oJ{k r}(h:TW k=some r):AO prog 121 [rI k] (rB r):=by
 unfold TW at h
 exact mF func121 ntmps121 R λj=>aU<|mA R<|aZ<|aU<|mM R<|xQ R<|mM R<|vM R<|vQ R (Aw R (iR R) iL)<|xO R<|mA R<|aZ<|Zk<|yB h R
theorem na{j r}(h:Q3 j=some r):AO prog 122 (W4 j) (rB r):=by
 unfold Q3 at h
 exact mF func122 ntmps122 R λl=>aU<|sS R (Az (cs:=(Dh j)) 1 R iL R R)<|mA R<|aZ<|aU<|lF Gg AJ R R<|xQ R<|mM R<|vF Gh AJ R R<|vQ R (Aw R (iR R) iL)<|xN R<|mM R<|vF GK E0 R R<|vQ R (Bq R Cq.slice<|iR R)<|vQ R (Aw R (iR R) iL)<|xN R<|mM R<|vF Fs DQ R R<|vQ R (Bq R Cs.slice<|iR R)<|vQ R (Aw R (iR R) iL)<|xN R<|mA R<|aZ<|Zk<|yB h R
theorem ez{k r}(h:P5 k=some r):AO prog 41 [rI k] (rB r):=by
 unfold P5 at h
 exact mF func41 ntmps41 R λj=>aU<|mA R<|aZ<|aU<|mM R<|xQ R<|mM R<|vM R<|vQ R (Aw R (iR R) iL)<|xO R<|mA R<|aZ<|Zk<|yB h R
theorem jP{k r}(h:T4 k=some r):AO prog 123 [rI k] (rB r):=by
 unfold T4 at h
 exact mF func123 ntmps123 R λj=>aU<|mA R<|aZ<|aU<|mM R<|xQ R<|mM R<|vM R<|vQ R (Aw R (iR R) iL)<|xO R<|mM R<|vM R<|vQ R (Aw R (iR R) iL)<|xO R<|mA R<|aZ<|Zk<|yB h R
theorem fd{u r}(h:Mf u=some r):AO prog 55 [rI u] (rB r):=by
 unfold Mf at h
 exact mF func55 ntmps55 R λC=>aU<|mA R<|aZ<|aU<|mM R<|xQ R<|mM R<|vM R<|vQ R (Aw R (iR R) iL)<|xO R<|mM R<|vM R<|AE h λE j w=>vL (λhg=>DL<|AP j hg) R<|xO R<|mM R<|vM R<|AE w λF l A=>vL (λhg=>DL<|AP l hg) R<|xO R<|mM R<|vM R<|AE A λI q B=>vL (λhg=>DL<|AP q hg) R<|xO R<|mA R<|aZ<|Zk<|yB B R
theorem iK{j r}(h:Nx j=some r):AO prog 70 (iV j) (rI r):=by
 unfold Nx at h
 refine mF func70 ntmps70 R λT=>aU<|sS R (Az (cs:=(Ag j)) 1 R iL R R)<|mA R<|aZ<|aT λB=>aU<|lF Eb AJ R R<|xQ R<|mM R<|vF Ek AJ R R<|vQ R (Aw R (iR R) iL)<|xN R<|mM R<|vF Eb AJ R R<|vQ R (Cc R (iR R) iL)<|vQ R (AK R<|iR R)<|wQ R (fB R Ek iL fR R)<|wQ R (AU (a:=rI j.Ref) R AJ (iR R) R R)<|wQ R (Cc R (iR R) iL)<|vQ R (BQ R (iR R)<|iR R)<|xO R<|aZ<|cI R h (λl=>?_) λl=>?_
 ·exact zI l R id
 refine Zd<|B _<|aT λC=>aT λE=>aG [1] [1] ?_
 refine aR<|lF Eb AJ R R<|xU R<|mM R<|vF Eb AJ R R<|AE l λU q F=>vL (λhg=>fd<|AP q hg) R<|vQ R (A3 R<|iR R)<|xN R<|mM R<|vF Ek AJ R R<|vQ R (Cc R (iR R) iL)<|vQ R (AK R<|iR R)<|wQ R (fB R Ek iL fR R)<|wQ R (AU (a:=rI j.Ref) R AJ (iR R) R R)<|AE F λI u J=>AM.stepW (.two R R R) R R (EG (r:=rB I) (caps:=[]) (bs:=[rI j.Ref,rI 1,rI 1073741824]) R iL R ⟨⟨_,(iR R),.d R⟩,⟨_,iL,.d R⟩,⟨_,iL,.d R⟩,Za⟩ (λhg=>DL<|AP u hg) R)<|wQ R (A3 R<|iR R)<|vQ R (BQ R (iR R)<|iR R)<|xO R<|aZ<|E _<|cI R J (λw=>?_) λw=>?_
 ·exact zI w R id
 refine Zd<|C _<|aT λM=>aG [1] [1] ?_
 exact aR<|lF Cr BE R R<|AE w λV A O=>cL (Nb<|A) R<|mA R<|aZ<|M _<|Zk<|yI O R
theorem lb{q a r}(h:Jl q a=some r):AO prog 124 [qb q,rB a] (rI r):=by
 unfold Jl at h
 refine mF func124 ntmps124 R λn0=>aU<|mA R<|aZ<|aS λK2 c2 C=>aU<|mM R<|xL Ar R<|mM R<|aZ<|Zf<|BJ h λo1 u E w=>?_
 have J1:∀(u2:Unit) (i5:NN),o1=.nrm u2→K2 ⟨[(0,qb q),(1,rB a)],[],(i5 0),47⟩:=by
  intro u2 i5 e
  have h1:=E _ e
  refine c2 _<|aT λc4=>aU<|mM R<|mM R<|vM R<|vQ R (Bq R Ar.slice<|iR R)<|vQ R (Aw R (iR R) iL)<|vQ R (AK R<|iR R)<|wQ R (AK R iL)<|wQ R (AK R iL)<|wQ R (Bq R Ar.slice<|iR R)<|AE h1 λx4 F h2=>wQ R (B5 R (iR R) iL<|AP F)<|AE h2 λx5 I h3=>wQ R (At R Ar.slice (iR R) (iR R) (λ_=>R)<|AP I)<|wQ R (A6 R Eb<|iR R)<|wQ R (BV (d:=.int .i64 x5.Char) R AJ (iR R) R)<|wQ R (Cc R (iR R) iL)<|vQ R (CB R (iR R)<|iR R)<|xN R<|aZ<|cI R h3 (λJ=>?_) λJ=>?_
  ·exact zI J R id
  exact Zd<|c4 _<|zI J R id
 refine ZC (λ(M:Int) B=>⟨[(0,qb q),(1,rB a),(8,rL q),(9,rI M)],[],(B 0),47⟩) (AH [n0]) u wk ?_
 intro M B v1 O j
 have h5:LV q a M=some v1:=O;unfold LV at h5
 refine aU<|xS R<|aZ<|aT λc9=>cI R h5 (λT=>?_) λT=>?_
 ·refine Zd<|c9 _<|aT λU=>Zf<|aU<|mM R<|mA R<|aZ<|aT λV=>aU<|mM R<|mM R<|AE T λx6 A h7=>xI Ar R A<|xB ((Ag x6)) Cf R<|AE h7 λe1 X h8=>cL (iK<|X) R<|mA R<|aZ<|aU<|mM R<|xU R<|aZ<|cI R h8 (λY=>?_) λY=>?_
  ·refine aT λZ=>aF [6] ?_
   exact aR<|mM R<|mA R<|aZ<|Z _<|Zk<|yI (w _<|xH j Y) R
  refine Zd<|V _<|aT λa0=>aF [0,1,5,8,9] ?_
  refine aR<|mM R<|sQ R (A3 R iL)<|mM R<|vM R<|vM R<|vQ R (At R Ar.slice (iR R) (iR R) (λ_=>R) λ_=>A)<|vQ R (A6 R Eb<|iR R)<|vQ R (BV (d:=.int .i64 x6.Char) R AJ (iR R) R)<|vQ R (Cc R (iR R) iL)<|xN R<|aZ<|a0 _<|cI R Y (λl=>?_) λl=>?_
  ·exact zI (w _<|xH j l) R id
  exact Zd<|U _<|aR<|AE l λx7 a1 a2=>xA R a1<|mM R<|Zi<|Zx a2 (AH [(B 0)]) wk
 exact Zn<|C _ _ wk<|J1 _ (AH [(B 0)])<|xH j T
theorem lw{j r}(h:Ue j=some r):AO prog 215 [rS j] (rB r):=by
 unfold Ue at h
 exact vJ ma R R R ⟨_,func215,R,R⟩ h
theorem kY{l r}(h:RA l=some r):AO prog 190 [rS l] (rB r):=by
 unfold RA at h
 refine mF func190 ntmps190 R λE=>aU<|mA R<|aZ<|aT λc2=>aU<|mM R<|AE h λr1 F h1=>cL (lw<|F) R<|sQ R (A3 R iL)<|aZ<|cI R h1 (λI=>?_) λI=>?_
 ·exact zB I R id
 refine Zd<|c2 _<|aS λK5 c5 J=>aU<|mM R<|sS R (qp 9 R underlying9 iL)<|aZ<|Zf<|BJ I λo1 q M O=>?_
 have J1:∀(Z:Unit) (i5:NN),o1=.nrm Z→K5 ⟨[],[],(i5 0),21⟩:=by
  intro Z i5 e
  have h3:=M _ e
  exact c5 _<|zB h3 R id
 refine ZC (λ(B:(Nat)) C=>⟨[(9,.ptr 9 E 0 0)],[(9,some<|.it E l B)],(C 0),21⟩) (AH [(E+1)]) q wk ?_
 intro B C v1 T u
 have U:F0 l B=some v1:=T;unfold F0 at U
 refine aT λc8=>AW.split (decide<|B<l.length) (λj=>?_) λj=>?_
 ·have V:=Bk j U
  refine aR<|sS R (jN R iL R λ_=>j)<|xX R<|aZ<|c8 _<|aT λc9=>aC R (λw=>?_) λw=>by cases w
  refine Zd<|c9 _<|Zf<|aU<|xX R<|mA R<|aZ<|aU<|mM R<|xQ R<|mM R<|vM R<|vQ R (Es R underlying21 underlying3<|iR R)<|AE V λr2 X h6=>vL (λhg=>fd<|AP X hg) R<|vQ R (A3 R<|iR R)<|xO R<|aZ<|cI R h6 (λY=>?_) λY=>?_
  ·exact zB (O _<|xH u Y) R id
  exact Zd<|Zx Y (AH [(C 0)]) wk
 ·have V:=Bn j U
  exact aR<|sS R (sR R iL R λ_=>j)<|xX R<|aZ<|c8 _<|aT λa0=>aC R (λA=>by cases A) λA=>Zn<|J _ _ wk<|J1 _ (AH [(C 0)])<|xH u V
theorem oT{j r}(h:Qh j=some r):AO prog 191 (cO j) (rB r):=by
 unfold Qh at h
 exact mF func191 ntmps191 R λl=>aU<|sS R (Az (cs:=(B6 j)) 1 R iL R R)<|mA R<|aZ<|aU<|lF Hp BG R R<|sQ R (CA R iL iL)<|mM R<|vF Fg AJ R R<|vQ R (Aw R (iR R) iL)<|xN R<|mM R<|vF Ht BE R R<|vQ R (Bq R Af.slice<|iR R)<|vQ R (Aw R (iR R) iL)<|xN R<|mA R<|aZ<|Zk<|yB h R
theorem fF{C b c n r}(h:Mr C b c n=some r):AO prog 160 [qe C,rI b,rI c,rB n] (rI r):=by
 unfold Mr at h
 refine mF func160 ntmps160 R λn0=>aU<|mA R<|aZ<|aS λK2 c2 U=>aU<|mM R<|xL Cq R<|mM R<|aZ<|Zf<|BJ h λo1 E V l=>?_
 have J1:∀(u2:Unit) (i5:NN),o1=.nrm u2→K2 ⟨[],[],(i5 0),93⟩:=by
  intro u2 i5 e
  have h1:=V _ e
  exact c2 _<|zI h1 R id
 refine ZC (λ(X:Int) T=>⟨[(0,qe C),(1,rI b),(2,rI c),(3,rB n),(13,rL C),(14,rI X)],[],(T 0),93⟩) (AH [n0]) E wk ?_
 intro X T v1 Y j
 have h2:OS C b c n X=some v1:=Y;unfold OS at h2
 refine aU<|xS R<|aZ<|aT λc6=>cI R h2 (λZ=>?_) λZ=>?_
 ·refine Zd<|c6 _<|aT λc7=>Zf<|aU<|mM R<|mA R<|aZ<|aU<|mM R<|mM R<|AE Z λF a0 h4=>xI Cq R a0<|xB ((B6 F)) Fv R<|sS R (BB (cs:=Mn) 10 R N3 R R)<|Zj R R (Ac (ds:=(B6 F)) R MY iL R iL R R R R)<|aZ<|aT λa1=>aT λa2=>aR<|lF GO AJ R R<|mM R<|AE h4 λx5 a6 h5=>sQ R (B5 R iL iL λ_=>a6)<|AE h5 λr1 a7 h6=>cL (DL<|a7) R<|sQ R (A3 R iL)<|mM R<|vF HE AJ R R<|vM R<|AE h6 λx6 a8 h7=>vQ R (B5 R (iR R) iL<|AP a8)<|AE h7 λr2 aa h8=>vL (λhg=>DL<|AP aa hg) R<|vQ R (A3 R<|iR R)<|xO R<|mM R<|vF Fg AJ R R<|AE h8 λr3 ab h9=>vL (λhg=>DL<|AP ab hg) R<|vQ R (A3 R<|iR R)<|xO R<|aZ<|a2 _<|cI R h9 (λq=>?_) λq=>?_
  ·exact zI (l _<|xH j q) R id
  refine Zd<|a1 _<|aT λac=>aT λad=>aG [0,1,2,3,9,10,13,14] [10] ?_
  refine aR<|lF Hp BG R R<|AE q λr4 ae af=>cL (kY<|ae) R<|sQ R (A3 R iL)<|aZ<|ad _<|cI R af (λu=>?_) λu=>?_
  ·exact zI (l _<|xH j u) R id
  refine Zd<|ac _<|aT λag=>aU<|lF Ht BE R R<|AE u λe1 ah ai=>cL (Nb<|ah) R<|mA R<|aZ<|aU<|mM R<|xU R<|aZ<|cI R ai (λw=>?_) λw=>?_
  ·refine aT λaj=>aF [11] ?_
   exact aR<|mM R<|mA R<|aZ<|aj _<|Zk<|yI (l _<|xH j w) R
  refine Zd<|ag _<|aT λak=>aT λal=>aG [0,1,2,3,9,10,13,14] [10] ?_
  refine aR<|mM R<|sQ R (A3 R iL)<|mM R<|vQ R (D5 R Fv iL R R)<|AE w λr5 an ao=>vL (λhg=>oT<|AP an hg) R<|xN R<|aZ<|al _<|cI R ao (λA=>?_) λA=>?_
  ·exact zI (l _<|xH j A) R id
  refine Zd<|ak _<|aT λaq=>?_
  refine ZB BF (by kernel_rfl) ?_
  refine qP R (AK R iL)<|qP R (BD R iL iL)<|qP R (AK R iL)<|qO R (fB R GO iL fR R)<|qO R (AU (a:=rI F.Row) R AJ (iR R) R R)<|qO R (AK R iL)<|qO R (AK R iL)<|AE A λx7 I ar=>qO R (B5 R (iR R) iL<|AP I)<|AE ar λx8 J av=>qO R (At R Cq.slice (iR R) (iR R) (λ_=>R)<|AP J)<|qO R (A6 R GO<|iR R)<|qO R (BV (d:=.int .i64 x8.Row) R AJ (iR R) R)<|qO R (B7 R (iR R)<|iR R)<|qO R (AK R<|iR R)<|qT R (fB R GO iL fR R)<|qT R (AU (a:=rI F.Row) R AJ (iR R) R R)<|qT R (AK R iL)<|qT R (AK R iL)<|qT R (B5 R (iR R) iL λh=>AP I (yc.1 h).1)<|qT R (At R Cq.slice (iR R) (iR R) (λ_=>R) λh=>AP J (yc.1 h).1)<|qT R (A6 R GO<|iR R)<|qT R (BV (d:=.int .i64 x8.Row) R AJ (iR R) R)<|qT R (Aw R (iR R)<|iR R)<|qT R (AK R<|iR R)<|qT R (fB R HE iL fR R)<|qT R (AU (a:=rI F.Col) R AJ (iR R) R R)<|qT R (AK R iL)<|qT R (AK R iL)<|AE av λx9 aw ax=>qT R (B5 R (iR R) iL<|AP aw)<|AE ax λay M az=>qT R (At R Cq.slice (iR R) (iR R) (λ_=>R)<|AP M)<|qT R (A6 R HE<|iR R)<|qT R (BV (d:=.int .i64 ay.Col) R AJ (iR R) R)<|qT R (FJ R (iR R)<|iR R)<|qT R (BQ R (iR R)<|iR R)<|qO R (CB R (iR R)<|iR R)<|qP R (BQ R iL<|iR R)<|AQ.nil<|aq _<|cI R az (λB=>?_) λB=>?_
  ·exact zI (l _<|xH j B) R id
  refine Zd<|c7 _<|aF [0,1,2,3,13,14] ?_
  exact aR<|AE B λb1 O b0=>xA R O<|mM R<|Zi<|Zx b0 (AH [((T 0)+1)]) wk
 exact Zn<|U _ _ wk<|J1 _ (AH [(T 0)])<|xH j Z
theorem XX{j a c r}(h:Lp j a c=some r):AO prog 161 [.agg<|BW j,rI a,rI c] (rB r):=by
 unfold Lp at h
 exact mF func161 ntmps161 R λY=>aU<|sS R (Az (cs:=(BW j)) 3 R iL R R)<|mA R<|aZ<|aT λF=>aR<|lF EC AJ R R<|mM R<|AE h λZ l I=>sQ R (B5 R iL iL λ_=>l)<|AE I λr2 q J=>cL (DL<|q) R<|mM R<|vF FD AJ R R<|vM R<|AE J λx2 u M=>vQ R (B5 R (iR R) iL<|AP u)<|AE M λr3 w O=>vL (λhg=>DL<|AP w hg) R<|xN R<|mM R<|vF H6 AJ R R<|vM R<|vF EC AJ R R<|AE O λx3 A T=>vQ R (B5 R (iR R) (iR R)<|AP A)<|AE T λr4 B U=>vL (λhg=>DL<|AP B hg) R<|xN R<|mM R<|vF IE AJ R R<|vM R<|vF FD AJ R R<|AE U λx4 C V=>vQ R (B5 R (iR R) (iR R)<|AP C)<|AE V λr5 E X=>vL (λhg=>DL<|AP E hg) R<|xN R<|mA R<|aZ<|F _<|Zk<|yB X R
theorem o8{j l r}(h:QN j l=some r):AO prog 166 [.agg<|BW j,.agg<|BW l] (rB r):=by
 unfold QN at h
 refine mF func166 ntmps166 R λM=>aU<|sS R (Az (cs:=(BW j)) 2 R iL R R)<|sS R (Az (cs:=(BW l)) 3 R iL R R)<|mA R<|aZ<|aT λB=>?_
 refine ZB BF (by kernel_rfl) ?_
 refine qP R (fB R EC iL fR R)<|qP R (AU (a:=rI j.Row) R AJ iL R R)<|qP R (fB R EC iL fR R)<|qP R (AU (a:=rI l.Row) R AJ iL R R)<|qP R (W6 R iL iL)<|qP R (fB R FD iL fR R)<|qP R (AU (a:=rI j.Col) R AJ iL R R)<|qP R (fB R FD iL fR R)<|qP R (AU (a:=rI l.Col) R AJ iL R R)<|qP R (W6 R iL iL)<|qP R (DU R iL)<|qP R (DU R iL)<|AQ.nil<|B _<|aT λC=>aG [2,3,5,6] [2,3] ?_
 exact aR<|mM R<|lF EC AJ R R<|lF H6 AJ R R<|AE h λO q E=>xA R q<|lF EC AJ R R<|lF H6 AJ R R<|AE E λT u F=>xA R u<|sQ R (Kb R iL iL)<|xS R<|mM R<|vM R<|vF FD AJ R R<|vF IE AJ R R<|AE F λU w I=>vQ R (Gj R (iR R) (iR R)<|AP w)<|vF FD AJ R R<|vF IE AJ R R<|AE I λV A J=>vQ R (Gj R (iR R) (iR R)<|AP A)<|vQ R (Kb R (iR R)<|iR R)<|vQ R (B7 R (iR R)<|iR R)<|xN R<|mA R<|aZ<|C _<|Zk<|yB J R
theorem qr{j r}(h:Qt j=some r):AO prog 125 (W4 j) (rI r):=by
 unfold Qt at h
 refine mF func125 ntmps125 R λA=>aU<|sS R (Az (cs:=(Dh j)) 1 R iL R R)<|mA R<|aZ<|aT λc2=>aU<|lF Gg AJ R R<|AE h λr1 a8 h1=>cL (DL<|a8) R<|sQ R (A3 R iL)<|mM R<|vF Gh AJ R R<|AE h1 λr2 aa h2=>vL (λhg=>DL<|AP aa hg) R<|vQ R (A3 R<|iR R)<|xO R<|aZ<|cI R h2 (λh3=>?_) λh3=>?_
 ·exact zI h3 R id
 refine Zd<|c2 _<|aT λc5=>aT λc6=>aG [1] [1] ?_
 refine aR<|lF GK E0 R R<|lF Gg AJ R R<|lF Gh AJ R R<|AE h3 λe1 ab h4=>cL (fF<|ab) R<|mA R<|aZ<|c6 _<|aU<|mM R<|xU R<|aZ<|cI R h4 (λh5=>?_) λh5=>?_
 ·refine aT λc8=>aF [3] ?_
  exact aR<|mM R<|mA R<|aZ<|c8 _<|Zk<|yI h5 R
 refine Zd<|c5 _<|aS λK9 c9 ac=>aT λad=>aG [1] [1] ?_
 refine aR<|lF Fs DQ R R<|xL Cs R<|mM R<|aZ<|ad _<|Zf<|BJ h5 λo1 U ae w=>?_
 have J1:∀(u2:Unit) (i5:NN),o1=.nrm u2→K9 ⟨[],[],(i5 0),104⟩:=by
  intro u2 i5 e
  have h6:=ae _ e
  exact c9 _<|zI h6 R id
 refine ZC (λ(B:Int) T=>⟨[(1,.ptr 1 A 0 0),(29,rL j.Merges),(30,rI B)],[(1,some<|.box A 43<|Dh j)],(T 0),104⟩) (AH [(A+1)]) U wk ?_
 intro B T v1 af u
 have h7:Pw j B=some v1:=af;unfold Pw at h7
 refine aU<|xS R<|aZ<|aT λag=>cI R h7 (λh8=>?_) λh8=>?_
 ·refine Zd<|ag _<|aS λah ai V=>Zf<|aU<|mM R<|mA R<|aZ<|aU<|lF Fs DQ R R<|mM R<|AE h8 λq aj h9=>xI Cs R aj<|xB ((BW q)) FB R<|sS R (BB (cs:=[rI 0,rI 0,rI 0,rI 0]) 5 R cQ R R)<|Zj R R (Ac (ds:=(BW q)) R eg iL R iL R R R R)<|aZ<|aT λak=>aU<|xC FB R<|lF Gg AJ R R<|lF Gh AJ R R<|AE h9 λr3 al an=>cL (XX<|al) R<|sQ R (A3 R iL)<|aZ<|cI R an (λC=>?_) λC=>?_
  ·exact zI (w _<|xH u C) R id
  refine Zd<|ak _<|aT λao=>aT λaq=>aG [1,4,5,29,30] [1,5] ?_
  refine aR<|lF H6 AJ R R<|xQ R<|mM R<|vF IE AJ R R<|vQ R (Aw R (iR R) iL)<|xN R<|aZ<|aq _<|cI R C (λE=>?_) λE=>?_
  ·exact zI (w _<|xH u E) R id
  refine Zd<|ao _<|aT λar=>aT λav=>?_
  refine ZB BF (by kernel_rfl) ?_
  refine qP R (AK R iL)<|qP R (BD R iL iL)<|qP R (AK R iL)<|qO R (fB R EC iL fR R)<|qO R (AU (a:=rI q.Row) R AJ (iR R) R R)<|qO R (fB R Fs iL fR R)<|qO R (AU (a:=qc j.Merges) R DQ (iR R) R R)<|qO R (AK R iL)<|AE E λx5 X aw=>qO R (B5 R (iR R) iL<|AP X)<|AE aw λx6 Y ax=>qO R (At R Cs.slice (iR R) (iR R) (λ_=>R)<|AP Y)<|qO R (A6 R EC<|iR R)<|qO R (BV (d:=.int .i64 x6.Row) R AJ (iR R) R)<|qO R (B7 R (iR R)<|iR R)<|qO R (AK R<|iR R)<|qT R (fB R EC iL fR R)<|qT R (AU (a:=rI q.Row) R AJ (iR R) R R)<|qT R (fB R Fs iL fR R)<|qT R (AU (a:=qc j.Merges) R DQ (iR R) R R)<|qT R (AK R iL)<|qT R (B5 R (iR R) iL λh=>AP X (yc.1 h).1)<|qT R (At R Cs.slice (iR R) (iR R) (λ_=>R) λh=>AP Y (yc.1 h).1)<|qT R (A6 R EC<|iR R)<|qT R (BV (d:=.int .i64 x6.Row) R AJ (iR R) R)<|qT R (Aw R (iR R)<|iR R)<|qT R (AK R<|iR R)<|qT R (fB R FD iL fR R)<|qT R (AU (a:=rI q.Col) R AJ (iR R) R R)<|qT R (fB R Fs iL fR R)<|qT R (AU (a:=qc j.Merges) R DQ (iR R) R R)<|qT R (AK R iL)<|AE ax λx7 ay az=>qT R (B5 R (iR R) iL<|AP ay)<|AE az λx8 b0 b1=>qT R (At R Cs.slice (iR R) (iR R) (λ_=>R)<|AP b0)<|qT R (A6 R FD<|iR R)<|qT R (BV (d:=.int .i64 x8.Col) R AJ (iR R) R)<|qT R (FJ R (iR R)<|iR R)<|qT R (BQ R (iR R)<|iR R)<|qO R (CB R (iR R)<|iR R)<|qP R (BQ R iL<|iR R)<|AQ.nil<|av _<|cI R b1 (λF=>?_) λF=>?_
  ·exact zI (w _<|xH u F) R id
  refine Zd<|ar _<|aT λb2=>aG [1,4,5,29,30] [1,5] ?_
  refine aR<|mM R<|mM R<|aZ<|b2 _<|Zf<|BJ F λo2 Z b3 b4=>?_
  have J2:∀(u4:Unit) (I:NN),o2=.nrm u4→ah ⟨[(1,.ptr 1 A 0 0),(29,rL j.Merges),(30,rI B)],[(1,some<|.box A 43<|Dh j)],(I 0),104⟩:=by
   intro u4 I e
   have b5:=b3 _ e
   exact ai _<|aR<|AE b5 λbg a0 b6=>xA R a0<|mM R<|Zi<|Zx b6 (AH [(I 0)]) wk
  refine ZC (λ(J:Int) i8=>⟨[(1,.ptr 1 A 0 0),(5,.ptr 5 (T 0) 0 0),(29,rL j.Merges),(30,rI B),(91,rI B),(92,rI J)],[(1,some<|.box A 43<|Dh j),(5,some<|.box (T 0) 211<|BW q)],(i8 0),104⟩) (AH [((T 0)+1)]) Z wk ?_
  intro J i8 v2 b7 a1
  have a2:RQ j B q J=some v2:=b7;unfold RQ at a2
  refine aU<|xS R<|aZ<|aT λb8=>cI R a2 (λM=>?_) λM=>?_
  ·refine Zd<|b8 _<|aT λb9=>Zf<|aU<|mM R<|mA R<|aZ<|aT λba=>?_
   refine ZB BF (by kernel_rfl) ?_
   refine qP R (D5 R FB iL R R)<|qP R (fB R Fs iL fR R)<|qP R (AU (a:=qc j.Merges) R DQ iL R R)<|qP R (AK R iL)<|AE M λl a6 bb=>qP R (At R Cs.slice iL iL (λ_=>R) λ_=>a6)<|qP R (CV (cs:=(BW l)) R FB iL R R)<|AE bb λr4 bc bd=>FZ R R R (r:=rB r4) (caps:=[]) (bs:=[.agg<|BW q,.agg<|BW l]) R iL R ⟨⟨_,iL,.g (cs:=[.int .i64 q.Row,.int .i64 q.Col,.int .i64 q.H,.int .i64 q.W]) R R⟩,⟨_,iL,.g (cs:=[.int .i64 l.Row,.int .i64 l.Col,.int .i64 l.H,.int .i64 l.W]) R R⟩,Za⟩ (λ_=>o8<|bc) R<|AQ.nil<|ba _<|cI R bd (λO=>?_) λO=>?_
   ·refine aT λbe=>aF [] ?_
    exact aR<|mA R<|aZ<|be _<|Zk<|yI (w _<|u _ (Zb<|b4 _<|xH a1 O).symm) R
   refine Zd<|b9 _<|aG [1,5,29,30,91,92] [1,5] ?_
   exact aR<|AE O λbh a7 bf=>xA R a7<|mM R<|Zi<|Zx bf (AH [(i8 0)]) wk
  exact Zn<|V _ _ wk<|J2 _ (AH [(i8 0)])<|xH a1 M
 exact Zn<|ac _ _ wk<|J1 _ (AH [(T 0)])<|xH u h8
theorem mt{k j r}(h:Qk k j=some r):AO prog 126 [rI k,qe j] (rI r):=by
 unfold Qk at h
 refine mF func126 ntmps126 R λY=>aU<|mA R<|aZ<|aS λZ c2 A=>aU<|mM R<|xL Cq R<|mM R<|aZ<|Zf<|BJ h λo1 l B C=>?_
 have J1:∀(T:Unit) (U:NN),o1=.nrm T→Z ⟨[],[],(U 0),43⟩:=by
  intro T U e
  have h1:=B _ e
  exact c2 _<|zI h1 R id
 refine ZC (λ(E:Int) w=>⟨[(0,rI k),(1,qe j),(7,rL j),(8,rI E)],[],(w 0),43⟩) (AH [Y]) l wk ?_
 intro E w v1 F q
 have V:Ph k j E=some v1:=F;unfold Ph at V
 refine aU<|xS R<|aZ<|aT λc6=>cI R V (λI=>?_) λI=>?_
 ·refine Zd<|c6 _<|aT λc7=>Zf<|aU<|mM R<|mA R<|aZ<|aT λc9=>aR<|mM R<|xQ R<|mM R<|vM R<|vM R<|AE I λX u h4=>vQ R (At R Cq.slice (iR R) (iR R) (λ_=>R)<|AP u)<|vQ R (A6 R Hp<|iR R)<|vQ R (BV (d:=.str X.Text) R BG (iR R) R)<|vQ R (D7 R (iR R) iL)<|vQ R (AK R<|iR R)<|wQ R (AK R iL)<|wQ R (AK R iL)<|wQ R (At R Cq.slice (iR R) (iR R) (λ_=>R) λh=>AP u (yc.1 h).1)<|wQ R (A6 R Ht<|iR R)<|wQ R (BV (d:=.sl<|X.Attrs.map AC.row) R BE (iR R) R)<|wQ R (Bq R Af.slice<|iR R)<|wQ R (BD R (iR R) iL)<|vQ R (CB R (iR R)<|iR R)<|xN R<|mM R<|vM R<|vQ R (Aw R (iR R) iL)<|vQ R (AK R<|iR R)<|wQ R (AK R iL)<|wQ R (AK R iL)<|AE h4 λx5 J h5=>wQ R (At R Cq.slice (iR R) (iR R) (λ_=>R)<|AP J)<|wQ R (A6 R Fg<|iR R)<|wQ R (BV (d:=.int .i64 x5.Ref) R AJ (iR R) R)<|wQ R (Cc R (iR R) iL)<|vQ R (BQ R (iR R)<|iR R)<|xO R<|aZ<|c9 _<|cI R h5 (λM=>?_) λM=>?_
  ·exact zI (C _<|xH q M) R id
  refine Zd<|c7 _<|aF [0,1,7,8] ?_
  exact aR<|AE M λx6 O h7=>xA R O<|mM R<|Zi<|Zx h7 (AH [(w 0)]) wk
 exact Zn<|A _ _ wk<|J1 _ (AH [(w 0)])<|xH q I
theorem rQ{l r}(h:Rc l=some r):AO prog 162 [rS l] (rB r):=by
 unfold Rc at h
 refine mF func162 ntmps162 R λY=>aU<|mA R<|aZ<|aS λZ c2 B=>aU<|mM R<|sQ R (Dl R underlying9 iL)<|mM R<|aZ<|Zf<|BJ h λo1 q C E=>?_
 have J1:∀(U:Unit) (V:NN),o1=.nrm U→Z ⟨[(0,rS l)],[],(V 0),36⟩:=by
  intro U V e
  have h1:=C _ e
  exact c2 _<|aU<|mM R<|sQ R (Dl R underlying9 iL)<|sQ R (Cv R iL iL)<|mM R<|vM R<|vQ R (Dl R underlying9<|iR R)<|vQ R (FJ R (iR R) iL)<|xN R<|mM R<|vM R<|vM R<|vQ R (Dl R underlying9<|iR R)<|AE h1 λx4 F h2=>vQ R (B5 R (iR R) iL<|AP F)<|AE h2 λa0 u h3=>vQ R (DO R underlying9 (iR R) (iR R)<|AP u)<|vQ R (Cc R (iR R) iL)<|xN R<|mA R<|aZ<|Zk<|yB h3 R
 refine ZC (λ(I:Int) A=>⟨[(0,rS l),(5,rL l),(6,rI I)],[],(A 0),36⟩) (AH [Y]) q wk ?_
 intro I A v1 J w
 have X:Km l I=some v1:=J;unfold Km at X
 refine aU<|xS R<|aZ<|aT λc6=>cI R X (λM=>?_) λM=>?_
 ·refine Zd<|c6 _<|aT λc7=>Zf<|aU<|mM R<|mA R<|aZ<|aU<|mM R<|mM R<|AE M λa1 j h6=>sQ R (DO R underlying9 iL iL λ_=>j)<|xS R<|mM R<|vM R<|vM R<|vQ R (DO R underlying9 (iR R) (iR R) λ_=>j)<|vQ R (BD R (iR R) iL)<|xO R<|aZ<|cI R h6 (λO=>?_) λO=>?_
  ·exact zB (E _<|xH w O) R id
  refine Zd<|c7 _<|aF [0,5,6] ?_
  exact aR<|AE O λx5 T h8=>xA R T<|mM R<|Zi<|Zx h8 (AH [(A 0)]) wk
 exact Zn<|B _ _ wk<|J1 _ (AH [(A 0)])<|xH w M
theorem kb{j l r}(h:Nl j l=some r):AO prog 163 [.agg<|Cm j,.agg<|Cm l] (rB r):=by
 unfold Nl at h
 exact mF func163 ntmps163 R λq=>aU<|sS R (Az (cs:=(Cm j)) 2 R iL R R)<|sS R (Az (cs:=(Cm l)) 3 R iL R R)<|mA R<|aZ<|aU<|lF Ih AJ R R<|lF Ih AJ R R<|xS R<|mM R<|vF Ih AJ R R<|vF Ih AJ R R<|vQ R (Aw R (iR R)<|iR R)<|vQ R (AK R<|iR R)<|wQ R (fB R LO iL fR R)<|wQ R (AU (a:=rI j.Site) R AJ (iR R) R R)<|wQ R (fB R LO iL fR R)<|wQ R (AU (a:=rI l.Site) R AJ (iR R) R R)<|wQ R (B7 R (iR R)<|iR R)<|vQ R (BQ R (iR R)<|iR R)<|xO R<|mA R<|aZ<|Zk<|yB h R
theorem cJ{B r}(h:NQ B=some r):AO prog 113 [qf B] (rI r):=by
 unfold NQ at h
 refine mF func113 ntmps113 R λn0=>aU<|mA R<|aZ<|aS λK2 c2 a0=>aU<|mM R<|xL FW R<|mM R<|aZ<|Zf<|BJ h λo1 X a1 l=>?_
 have J1:∀(u2:Unit) (i5:NN),o1=.nrm u2→K2 ⟨[],[],(i5 0),91⟩:=by
  intro u2 i5 e
  have h1:=a1 _ e
  exact c2 _<|zI h1 R id
 refine ZC (λ(Y:Int) C=>⟨[(0,qf B),(6,rL B),(7,rI Y)],[],(C 0),91⟩) (AH [n0]) X wk ?_
 intro Y C v1 a2 j
 have h2:PZ B Y=some v1:=a2;unfold PZ at h2
 refine aU<|xS R<|aZ<|aT λc6=>cI R h2 (λh3=>?_) λh3=>?_
 ·refine Zd<|c6 _<|aT λc7=>Zf<|aU<|mM R<|mA R<|aZ<|aU<|mM R<|mM R<|AE h3 λu a6 h4=>xI FW R a6<|xB ((Cm u)) Ic R<|sS R (BB (cs:=[rI 0,rI 0,rI 0,rI 0,rI 0,.r<|.str [],.r<|.str [],.r<|.str []]) 4 R fW R R)<|Zj R R (Ac (ds:=(Cm u)) R fV iL R iL R R R R)<|aZ<|aT λa7=>aU<|lF HJ AJ R R<|xU R<|mM R<|vF HJ AJ R R<|vQ R (Cc R (iR R) iL)<|xN R<|aZ<|cI R h4 (λh5=>?_) λh5=>?_
  ·exact zI (l _<|xH j h5) R id
  refine Zd<|a7 _<|aT λa8=>aT λaa=>aG [0,3,4,6,7] [4] ?_
  refine aR<|lF Ih AJ R R<|AE h5 λr1 ab h6=>cL (DL<|ab) R<|sQ R (A3 R iL)<|mM R<|vF LO AJ R R<|AE h6 λr2 ac h7=>vL (λhg=>DL<|AP ac hg) R<|vQ R (A3 R<|iR R)<|xO R<|mM R<|vF Xo AJ R R<|AE h7 λr3 ad h8=>vL (λhg=>DL<|AP ad hg) R<|vQ R (A3 R<|iR R)<|xO R<|aZ<|aa _<|cI R h8 (λh9=>?_) λh9=>?_
  ·exact zI (l _<|xH j h9) R id
  refine Zd<|a8 _<|aS λae af A=>aU<|lF HJ AJ R R<|xQ R<|aZ<|BJ h9 λp1 Z ag q=>?_
  have J2:∀(u3:Unit) (i6:NN),p1=.nrm u3→ae ⟨[(0,qf B),(3,rI Y),(4,.ptr 4 (C 0) 0 0),(6,rL B),(7,rI Y)],[(4,some<|.box (C 0) 176<|Cm u)],(i6 0),91⟩:=by
   intro u3 i6 e
   have ah:=ag _ e
   refine af _<|aT λai=>?_
   refine ZB BF (by kernel_rfl) ?_
   refine qP R (AK R iL)<|qP R (BD R iL iL)<|qP R (AK R iL)<|qO R (AK R iL)<|qO R (AK R iL)<|AE ah λx5 aj ak=>qO R (B5 R (iR R) iL<|AP aj)<|AE ak λw al an=>qO R (At R FW.slice (iR R) (iR R) (λ_=>R)<|AP al)<|qO R (CV (cs:=(Cm w)) R Ic (iR R) R R)<|qO R (D5 R Ic iL R R)<|AE an λr4 ao aq=>He (.one R R R) R R (r:=rB r4) (caps:=[]) (bs:=[.agg<|Cm w,.agg<|Cm u]) R iL R ⟨⟨_,(iR R),.g (cs:=[.int .i64 w.Clock,.int .i64 w.Site,.int .i64 w.Kind,.int .i64 w.Item,.int .i64 w.Parent,.str w.Place,.str w.Name,.str w.Value]) R R⟩,⟨_,(iR R),.g (cs:=[.int .i64 u.Clock,.int .i64 u.Site,.int .i64 u.Kind,.int .i64 u.Item,.int .i64 u.Parent,.str u.Place,.str u.Name,.str u.Value]) R R⟩,Za⟩ (λhg=>kb<|AP ao hg) R<|qO R (A3 R<|iR R)<|qP R (BQ R iL<|iR R)<|AQ.nil<|ai _<|cI R aq (λE=>?_) λE=>?_
   ·exact zI (l _<|xH j E) R id
   exact Zd<|c7 _<|aR<|AE E λx7 ar av=>xA R ar<|mM R<|Zi<|Zx av (AH [(i6 0)]) wk
  refine aC R (λF=>?_) λF=>?_
  ·have I:=Bk F Z
   refine aT λaw=>aT λax=>aG [0,3,4,6,7] [4] ?_
   refine aR<|lF UQ BG R R<|sQ R (D7 R iL iL)<|mM R<|vF M4 BG R R<|vQ R (D7 R (iR R) iL)<|xO R<|aZ<|ax _<|cI R I (λJ=>?_) λJ=>?_
   ·refine aT λay=>aF [] ?_
    exact aR<|mA R<|aZ<|ay _<|Zk<|yI (l _<|j _ (Zb<|q _ (Zb J).symm).symm) R
   refine Zd<|aw _<|aT λaz=>aU<|lF Q0 AJ R R<|AE J λr5 b0 b1=>cL (DL<|b0) R<|sQ R (A3 R iL)<|aZ<|cI R b1 (λM=>?_) λM=>?_
   ·refine aT λb2=>aF [] ?_
    exact aR<|mA R<|aZ<|b2 _<|Zk<|yI (l _<|j _ (Zb<|q _ (Zb M).symm).symm) R
   refine Zd<|az _<|aT λb3=>aG [0,3,4,6,7] [4] ?_
   refine aR<|lF Ro BG R R<|AE M λr6 b4 b5=>cL (rQ<|b4) R<|sQ R (A3 R iL)<|aZ<|b3 _<|cI R b5 (λO=>?_) λO=>?_
   ·refine aT λb6=>aF [] ?_
    exact aR<|mA R<|aZ<|b6 _<|Zk<|yI (l _<|j _ (Zb<|q _ (Zb O).symm).symm) R
   exact Zd<|A _ _ wk<|J2 _ (AH [((C 0)+1)]) (Zb O).symm
  ·have I:=Bn F Z
   refine aT λb7=>aT λb8=>aG [0,3,4,6,7] [4] ?_
   refine aR<|lF Q0 AJ R R<|xU R<|mM R<|vF Ro BG R R<|vQ R (D7 R (iR R) iL)<|xO R<|aZ<|b8 _<|cI R I (λT=>?_) λT=>?_
   ·refine aT λb9=>aF [] ?_
    exact aR<|mA R<|aZ<|b9 _<|Zk<|yI (l _<|j _ (Zb<|q _ (Zb T).symm).symm) R
   refine Zd<|b7 _<|aT λba=>aU<|lF UQ BG R R<|AE T λr7 bb bc=>cL (ig<|bb) R<|sQ R (A3 R iL)<|aZ<|cI R bc (λU=>?_) λU=>?_
   ·refine aT λbd=>aF [] ?_
    exact aR<|mA R<|aZ<|bd _<|Zk<|yI (l _<|j _ (Zb<|q _ (Zb U).symm).symm) R
   refine Zd<|ba _<|aT λbe=>aG [0,3,4,6,7] [4] ?_
   refine aR<|lF M4 BG R R<|sQ R (D7 R iL iL)<|mM R<|vF M4 BG R R<|AE U λr8 bf bg=>vL (λhg=>Us<|AP bf hg) R<|vQ R (A3 R<|iR R)<|xN R<|aZ<|be _<|cI R bg (λV=>?_) λV=>?_
   ·refine aT λbh=>aF [] ?_
    exact aR<|mA R<|aZ<|bh _<|Zk<|yI (l _<|j _ (Zb<|q _ (Zb V).symm).symm) R
   exact Zd<|A _ _ wk<|J2 _ (AH [((C 0)+1)]) (Zb V).symm
 exact Zn<|a0 _ _ wk<|J1 _ (AH [(C 0)])<|xH j h3
theorem gb{n1 r}(h:Md n1=some r):AO prog 79 (Nt n1) (rI r):=by
 unfold Md at h
 refine mF func79 ntmps79 R λn0=>aU<|sS R (Az (cs:=(BY n1)) 1 R iL R R)<|mA R<|aZ<|aT λc2=>aU<|lF EQ AJ R R<|AE h λr1 E h1=>cL (DL<|E) R<|sQ R (A3 R iL)<|aZ<|cI R h1 (λF=>?_) λF=>?_
 ·exact zI F R id
 refine Zd<|c2 _<|aT λc5=>aU<|lF CR AJ R R<|AE F λr2 I h3=>cL (DL<|I) R<|sQ R (A3 R iL)<|mM R<|vF EQ AJ R R<|vQ R (Aw R (iR R) iL)<|vQ R (AK R<|iR R)<|wQ R (fB R CR iL fR R)<|wQ R (AU (a:=rI n1.Kind) R AJ (iR R) R R)<|wQ R (Cc R (iR R) iL)<|vQ R (BQ R (iR R)<|iR R)<|xO R<|mM R<|vF EQ AJ R R<|vQ R (Cc R (iR R) iL)<|vQ R (AK R<|iR R)<|wQ R (fB R CR iL fR R)<|wQ R (AU (a:=rI n1.Kind) R AJ (iR R) R R)<|wQ R (Aw R (iR R) iL)<|vQ R (BQ R (iR R)<|iR R)<|xO R<|aZ<|cI R h3 (λJ=>?_) λJ=>?_
 ·exact zI J R id
 refine Zd<|c5 _<|aT λc8=>aT λc9=>aG [1] [1] ?_
 refine aR<|lF NX BE R R<|AE J λe1 M h5=>cL (Nb<|M) R<|mA R<|aZ<|c9 _<|aU<|mM R<|xU R<|aZ<|cI R h5 (λO=>?_) λO=>?_
 ·exact aU<|mM R<|mA R<|aZ<|Zk<|yI O R
 refine Zd<|c8 _<|aU<|lF CR AJ R R<|AE O λr3 w h7=>cL (UH<|w) R<|mM R<|vF CR AJ R R<|AE h7 λr4 T h8=>vL (λhg=>oJ<|AP T hg) R<|xO R<|mA R<|aZ<|aT λU=>aT λV=>aG [1,4] [1] ?_
 refine aR<|lF Em B0 R R<|xL Ar R<|sQ R (BD R iL iL)<|mM R<|vM R<|vQ R (A3 R<|iR R)<|xN R<|mM R<|vQ R (fB R GA iL fR R)<|vQ R (Fm (ds:=(Dh n1.Grid)) R Nc (iR R) R R R)<|AE h8 λr5 X h9=>vL (λhg=>na<|AP X hg) R<|vQ R (A3 R<|iR R)<|vQ R (AK R<|iR R)<|wQ R (fB R CR iL fR R)<|wQ R (AU (a:=rI n1.Kind) R AJ (iR R) R R)<|AE h9 λr6 Y Z=>AM.stepW (.two R R R) R R (EG (r:=rB r6) (caps:=[]) (bs:=[rI n1.Kind]) R iL R ⟨⟨_,(iR R),.d R⟩,Za⟩ (λhg=>ez<|AP Y hg) R)<|wQ R (A3 R<|iR R)<|vQ R (BQ R (iR R)<|iR R)<|xO R<|mM R<|vF JW Gx R R<|vQ R (Bq R FW.slice<|iR R)<|vQ R (BD R (iR R) iL)<|vQ R (AK R<|iR R)<|wQ R (fB R CR iL fR R)<|wQ R (AU (a:=rI n1.Kind) R AJ (iR R) R R)<|AE Z λr7 a0 a1=>AM.stepW (.two R R R) R R (EG (r:=rB r7) (caps:=[]) (bs:=[rI n1.Kind]) R iL R ⟨⟨_,(iR R),.d R⟩,Za⟩ (λhg=>jP<|AP a0 hg) R)<|wQ R (A3 R<|iR R)<|vQ R (BQ R (iR R)<|iR R)<|xO R<|aZ<|V _<|cI R a1 (λj=>?_) λj=>?_
 ·exact zI j R id
 refine Zd<|U _<|aT λa2=>aT λa6=>aG [1,4] [1] ?_
 refine aR<|mM R<|aZ<|a6 _<|cI R j (λl=>?_) λl=>?_
 ·refine aT λa7=>?_
  refine ZB BF (by kernel_rfl) ?_
  exact qP R (fB R Em iL fR R)<|qP R (AU (a:=qb n1.Flow) R B0 iL R R)<|qP R (fB R CR iL fR R)<|qP R (AU (a:=rI n1.Kind) R AJ iL R R)<|FZ R R R (r:=rB r3) (caps:=[]) (bs:=[rI n1.Kind]) R iL R ⟨⟨_,iL,.d R⟩,Za⟩ (λ_=>UH<|w) R<|AE l λr9 a8 aa=>FZ R R R (r:=rI r9) (caps:=[]) (bs:=[qb n1.Flow,rB r3]) R iL R ⟨⟨_,iL,.d R⟩,⟨_,iL,.d R⟩,Za⟩ (λ_=>lb<|a8) R<|qP R (DU R iL)<|AQ.nil<|a7 _<|Zk<|yI aa R
 refine Zd<|a2 _<|aT λab=>aU<|lF CR AJ R R<|AE l λak A ac=>cL (ez<|A) R<|aZ<|cI R ac (λq=>?_) λq=>?_
 ·refine aT λad=>aU<|sQ R (fB R GA iL fR R)<|sQ R (Fm (ds:=(Dh n1.Grid)) R Nc iL R R R)<|AE q λe2 ae af=>cL (qr<|ae) R<|mA R<|aZ<|aU<|mM R<|xU R<|aZ<|cI R af (λu=>?_) λu=>?_
  ·refine aT λag=>aF [5] ?_
   exact aR<|mM R<|mA R<|aZ<|ag _<|Zk<|yI u R
  refine Zd<|ad _<|aT λah=>aG [1] [1] ?_
  exact aR<|lF CR AJ R R<|sQ R (fB R GA iL fR R)<|lF GK E0 R R<|AE u λal B ai=>cL (mt<|B) R<|mA R<|aZ<|ah _<|Zk<|yI ai R
 exact Zd<|ab _<|aU<|lF JW Gx R R<|AE q λan C aj=>cL (cJ<|C) R<|mA R<|aZ<|Zk<|yI aj R
theorem jG{n1 r}(h:P0 n1=some r):AO prog 81 (Nt n1) (.r<|.sl<|r.map<|Ak .i64):=by
 unfold P0 at h
 refine mF func81 ntmps81 R λj=>aU<|sS R (Az (cs:=(BY n1)) 1 R iL R R)<|mA R<|aZ<|aU<|mA R<|aZ<|aS λK3 c3 a7=>aU<|lF Em B0 R R<|xL Ar R<|mM R<|aZ<|Zf<|BA h λo1 a0 a8=>?_
 have J1:∀(w:List Int) (Z:NN),o1=w→K3 ⟨[(1,.ptr 1 j 0 0),(3,.own 5003<|Z 0)],[(1,some<|.box j 46<|BY n1),(5003,some<|.arr (Z 0) 3 1<|w.map<|Ak .i64)],(Z 1),56⟩:=by
  intro w Z e
  have h1:=a8 _ e
  refine c3 _<|aS λK5 c5 aa=>aU<|sQ R (fB R GA iL fR R)<|lF GK E0 R R<|xL Cq R<|mM R<|aZ<|Zf<|BA h1 λo2 a1 ab=>?_
  have J2:∀(A:List Int) (I:NN),o2=A→K5 ⟨[(3,.own 5003<|I 0)],[(5003,some<|.arr (I 0) 3 1<|A.map<|Ak .i64)],(I 1),56⟩:=by
   intro A I e
   have h2:=ab _ e
   exact c5 _<|aU<|mM R<|mA R<|aZ<|Zk<|DE (P:=prog) (λ(r:(List Int))=>.r<|.sl<|r.map<|Ak .i64) h2 iL<|.t<|.one<|.own R
  refine DH (λ(x5:Int) (B:List Int) i8=>⟨[(1,.ptr 1 j 0 0),(3,.own 5003<|i8 0),(32,rL n1.Grid.Cells),(33,rI x5)],[(1,some<|.box j 46<|BY n1),(5003,some<|.arr (i8 0) 3 1<|B.map<|Ak .i64)],(i8 1),56⟩) (AH [(Z 0),(Z 1)]) a1 wk ?_
  intro x5 B i8 v1 ac ad
  have h3:S9 n1 x5 B=some v1:=ac;unfold S9 at h3
  refine aU<|xS R<|aZ<|aT λc9=>cI R h3 (λh4=>?_) λh4=>?_
  ·refine Zd<|c9 _<|aS λae af O=>Zf<|BA h4 λp1 ag ah=>?_
   have J3:∀(C:List Int) (q:NN),p1=C→ae ⟨[(1,.ptr 1 j 0 0),(3,.own 5003<|q 0),(32,rL n1.Grid.Cells),(33,rI x5)],[(1,some<|.box j 46<|BY n1),(5003,some<|.arr (q 0) 3 1<|C.map<|Ak .i64)],(q 1),56⟩:=by
    intro C q e
    have h5:=ah _ e
    exact af _<|aR<|AE h5 λx7 ai h6=>xA R ai<|mM R<|Zi<|ZL h6 (AH [(q 0),(q 1)]) wk
   refine aU<|mM R<|mA R<|aZ<|aU<|sQ R (fB R GA iL fR R)<|lF GK E0 R R<|mM R<|AE ag λx8 a2 h7=>xI Cq R a2<|sQ R (A6 R Fg iL)<|xV (.int .i64 x8.Ref) AJ R<|xU R<|aZ<|cI R h7 (λh8=>?_) λh8=>?_
   ·refine aG [1,3,5,32,33] [1,5003] ?_
    exact aR<|mM R<|sQ R (fB R GA iL fR R)<|lF GK E0 R R<|mM R<|xI Cq R a2<|sQ R (A6 R Fg iL)<|xV (.int .i64 x8.Ref) AJ R<|sS R (Bm 52 R B8 (f:=(Ak .i64)) (l:=([x8.Ref]:List Int)) ⟨R,⟨_,iL,R⟩,Za⟩ R (λ_=>R) R)<|AE h8 λaj J h9=>sS R (Ci R B8 iL R (.inr<|.inl ⟨_,_,iL,R⟩) J)<|mA R<|Zi<|O _ _ wk<|J3 _ (AH [((i8 1)+1),((i8 1)+2)]) (Zb h9).symm
   exact Zd<|O _ _ wk<|J3 _ (AH [(i8 0),(i8 1)]) (Zb h8).symm
  exact Zn<|aa _ _ wk<|J2 _ (AH [(i8 0),(i8 1)])<|xH ad h4
 refine DH (λ(x2:Int) (E:List Int) F=>⟨[(1,.ptr 1 j 0 0),(3,.own 5003<|F 0),(8,rL n1.Flow),(9,rI x2)],[(1,some<|.box j 46<|BY n1),(5003,some<|.arr (F 0) 3 1<|E.map<|Ak .i64)],(F 1),56⟩) (AH [(j+1),(j+2)]) a0 (Zm (Zm (G8 3 5003 3 1 (by decide) R)<|by exact ZD (e':=[(0,.agg<|BY n1),(1,.ptr 1 j 0 0),(2,cZ),(3,.own 5003<|j+1),(6,.ptr 1 j 0 3),(7,qb n1.Flow),(8,rL n1.Flow),(9,rI 0)]) (h':=[(1,some<|.box j 46<|BY n1),(5003,some<|.arr (j+1) 3 1<|([]:List Int).map<|Ak .i64)]) ⟨jL,jL,jL,jL,jL,jL,jL,jL,Za⟩ ⟨.inl R,.inl R,Za⟩ nL) wk) ?_
 intro x2 E F v2 ak al
 have a6:TO n1 x2 E=some v2:=ak;unfold TO at a6
 refine aU<|xS R<|aZ<|aT λan=>cI R a6 (λV=>?_) λV=>?_
 ·refine Zd<|an _<|aS λao aq T=>Zf<|BA V λp2 ar av=>?_
  have J4:∀(l:List Int) (u:NN),p2=l→ao ⟨[(1,.ptr 1 j 0 0),(3,.own 5003<|u 0),(8,rL n1.Flow),(9,rI x2)],[(1,some<|.box j 46<|BY n1),(5003,some<|.arr (u 0) 3 1<|l.map<|Ak .i64)],(u 1),56⟩:=by
   intro l u e
   have aw:=av _ e
   exact aq _<|aR<|AE aw λx9 ax ay=>xA R ax<|mM R<|Zi<|ZL ay (AH [(u 0),(u 1)]) wk
  refine aU<|mM R<|mA R<|aZ<|aU<|lF Em B0 R R<|mM R<|AE ar λX U az=>xI Ar R U<|sQ R (A6 R Ek iL)<|xV (.int .i64 X.Ref) AJ R<|xU R<|aZ<|cI R az (λY=>?_) λY=>?_
  ·refine aG [1,3,4,8,9] [1,5003] ?_
   exact aR<|mM R<|lF Em B0 R R<|mM R<|xI Ar R U<|sQ R (A6 R Ek iL)<|xV (.int .i64 X.Ref) AJ R<|sS R (Bm 26 R B8 (f:=(Ak .i64)) (l:=([X.Ref]:List Int)) ⟨R,⟨_,iL,R⟩,Za⟩ R (λ_=>R) R)<|AE Y λb0 M b1=>sS R (Ci R B8 iL R (.inr<|.inl ⟨_,_,iL,R⟩) M)<|mA R<|Zi<|T _ _ wk<|J4 _ (AH [((F 1)+1),((F 1)+2)]) (Zb b1).symm
  exact Zd<|T _ _ wk<|J4 _ (AH [(F 0),(F 1)]) (Zb Y).symm
 exact Zn<|a7 _ _ wk<|J1 _ (AH [(F 0),(F 1)])<|xH al V
theorem Ra{d1 i r}(h:FP d1 i=some r):AO prog 16 [.agg [qg d1.Nodes],rI i] (rI r):=by
 unfold FP at h
 refine mF func16 ntmps16 R λu=>aU<|sS R (Az (cs:=[qg d1.Nodes]) 2 R iL R R)<|mA R<|aZ<|aS λX Y w=>aU<|lF Dd DZ R R<|xL C0 R<|mM R<|aZ<|Zf<|BJ h λZ j A B=>?_
 have J1:∀(T:Unit) (U:NN),Z=.nrm T→X ⟨[],[],(U 0),22⟩:=by
  intro T U e
  have h1:=A _ e
  exact Y _<|zI h1 R id
 refine ZC (λ(C:Int) q=>⟨[(1,rI i),(2,.ptr 2 u 0 0),(8,rL d1.Nodes),(9,rI C)],[(2,some<|.box u 24 [qg d1.Nodes])],(q 0),22⟩) (AH [(u+1)]) j wk ?_
 intro C q v1 E l
 have V:Oe d1 i C=some v1:=E;unfold Oe at V
 refine aU<|xS R<|aZ<|aT λc6=>cI R V (λF=>?_) λF=>?_
 ·refine Zd<|c6 _<|aT λc7=>Zf<|aU<|mM R<|mA R<|aZ<|aU<|lF Dd DZ R R<|mM R<|AE F λx4 I h4=>xI C0 R I<|sQ R (A6 R EQ iL)<|xV (.int .i64 x4.ID) AJ R<|mM R<|xQ R<|aZ<|cI R h4 (λJ=>?_) λJ=>?_
  ·refine aT λM=>aF [5] ?_
   exact aR<|mM R<|mA R<|aZ<|M _<|Zk<|yI (B _<|xH l J) R
  refine Zd<|c7 _<|aG [1,2,8,9] [2] ?_
  exact aR<|AE J λx5 O h6=>xA R O<|mM R<|Zi<|Zx h6 (AH [(q 0)]) wk
 exact Zn<|w _ _ wk<|J1 _ (AH [(q 0)])<|xH l F
theorem fE{p k r}(h:L3 p k=some r):AO prog 36 [rI p,rI k] (rB r):=by
 unfold L3 at h
 refine mF func36 ntmps36 R λI=>aU<|mA R<|aZ<|aT λc2=>aU<|mM R<|aZ<|Zf<|aS λK4 c4 j=>aU<|xQ R<|mA R<|aZ<|BA h λp1 J U=>?_
 have M:∀(V:Bool) (T:NN),p1=V→K4 ⟨[(0,rI p),(5,rI k),(6,rB V)],[],(T 0),51⟩:=by
  intro V T e
  have h1:=U _ e
  refine c4 _<|cI R h1 (λX=>?_) λX=>?_
  ·exact aU<|mM R<|xQ R<|mA R<|aZ<|Zk<|yB X R
  refine aU<|xQ R<|mA R<|aZ<|cI R X (λY=>?_) λY=>?_
  ·exact aU<|mM R<|xQ R<|mM R<|vM R<|vQ R (Aw R (iR R) iL)<|xO R<|mM R<|vM R<|vQ R (Aw R (iR R) iL)<|xO R<|mA R<|aZ<|Zk<|yB Y R
  refine aU<|xQ R<|mA R<|aZ<|cI R Y (λZ=>?_) λZ=>?_
  ·exact aU<|mM R<|xQ R<|mA R<|aZ<|Zk<|yB Z R
  refine aU<|xQ R<|mA R<|aZ<|cI R Z (λh5=>?_) λh5=>?_
  ·exact aU<|mM R<|xQ R<|mM R<|vM R<|vQ R (Aw R (iR R) iL)<|xO R<|mA R<|aZ<|Zk<|yB h5 R
  refine aU<|xQ R<|mA R<|aZ<|cI R h5 (λh6=>?_) λh6=>?_
  ·refine aT λa0=>aF [0] ?_
   exact aR<|mM R<|AE h6 λr1 a1 h7=>cL (UH<|a1) R<|mA R<|aZ<|a0 _<|Zk<|yB h7 R
  refine aT λa2=>aF [0,5] ?_
  refine aR<|xQ R<|mA R<|aZ<|a2 _<|cI R h6 (λh8=>?_) λh8=>?_
  ·exact aU<|mM R<|xQ R<|mA R<|aZ<|Zk<|yB h8 R
  refine aS λa6 a7 l=>aU<|xQ R<|mA R<|aZ<|BA h8 λp2 O a8=>?_
  have J2:∀(x2:Bool) (i2:NN),p2=x2→a6 ⟨[(0,rI p),(46,rB x2)],[],(i2 0),51⟩:=by
   intro x2 i2 e
   have h9:=a8 _ e
   refine a7 _<|cI R h9 (λq=>?_) λq=>?_
   ·exact aU<|mM R<|xQ R<|mA R<|aZ<|Zk<|yB q R
   exact Zd<|c2 _<|zB q R id
  refine aC R (λu=>?_) λu=>?_
  ·have w:=Bk u O
   exact Zd<|l _ _ wk<|J2 _ (AH [(T 0)]) (Zb w).symm
  ·have w:=Bn u O
   exact aR<|xQ R<|mA R<|Zi<|l _ _ wk<|J2 _ (AH [(T 0)]) (Zb w).symm
 refine aC R (λA=>?_) λA=>?_
 ·have B:=Bk A J
  exact Zd<|j _ _ wk<|M _ (AH [I]) (Zb B).symm
 ·have B:=Bn A J
  refine aU<|xQ R<|mA R<|aZ<|cI R B (λC=>?_) λC=>?_
  ·exact Zd<|j _ _ wk<|M _ (AH [I]) (Zb C).symm
  refine aU<|xQ R<|mA R<|aZ<|cI R C (λE=>?_) λE=>?_
  ·exact Zd<|j _ _ wk<|M _ (AH [I]) (Zb E).symm
  refine aU<|xQ R<|mA R<|aZ<|cI R E (λF=>?_) λF=>?_
  ·exact Zd<|j _ _ wk<|M _ (AH [I]) (Zb F).symm
  exact aR<|xQ R<|mA R<|Zi<|j _ _ wk<|M _ (AH [I]) (Zb F).symm
theorem kS{d1 k a r}(h:Qm d1 k a=some r):AO prog 80 [.agg [qg d1.Nodes],rI k,.r<|.sl<|a.map<|Ak .i64] (rI r):=by
 unfold Qm at h
 refine mF func80 ntmps80 R λw=>aU<|sS R (Az (cs:=[qg d1.Nodes]) 3 R iL R R)<|mA R<|aZ<|aS λK2 c2 A=>aU<|mM R<|xL B8 R<|mM R<|aZ<|Zf<|BJ h λo1 l B q=>?_
 have J1:∀(u2:Unit) (i5:NN),o1=.nrm u2→K2 ⟨[],[],(i5 0),32⟩:=by
  intro u2 i5 e
  have h1:=B _ e
  exact c2 _<|zI h1 R id
 refine ZC (λ(C:Int) u=>⟨[(1,rI k),(2,.r<|.sl<|a.map<|Ak .i64),(3,.ptr 3 w 0 0),(10,rL a),(11,rI C)],[(3,some<|.box w 24 [qg d1.Nodes])],(u 0),32⟩) (AH [(w+1)]) l wk ?_
 intro C u v1 E j
 have h2:N4 d1 k a C=some v1:=E;unfold N4 at h2
 refine aU<|xS R<|aZ<|aT λc6=>cI R h2 (λF=>?_) λF=>?_
 ·refine Zd<|c6 _<|aT λc7=>Zf<|aU<|mM R<|mA R<|aZ<|aT λc9=>?_
  refine ZB BF (by kernel_rfl) ?_
  refine qP R (D5 R DT iL R R)<|qP R (AK R iL)<|qP R (AK R iL)<|AE F λx4 I h4=>qP R (At R B8.slice iL iL (λ_=>R) λ_=>I)<|qP R (BV (d:=.int .i64 x4) R AJ iL R)<|AE h4 λk1 J h5=>FZ R R R (r:=rI k1) (caps:=[]) (bs:=[.agg [qg d1.Nodes],rI x4]) R iL R ⟨⟨_,iL,.g (cs:=[.sl<|d1.Nodes.map AX.row]) R R⟩,⟨_,iL,.d R⟩,Za⟩ (λ_=>Ra<|J) R<|qP R (DU R iL)<|AQ.nil<|c9 _<|aT λM=>aT λO=>aG [1,2,3,8,10,11] [3] ?_
  refine aR<|mM R<|xS R<|aZ<|O _<|cI R h5 (λT=>?_) λT=>?_
  ·exact zI (q _<|xH j T) R id
  refine Zd<|M _<|aU<|mM R<|lF Dd DZ R R<|mM R<|AE T λx5 U h7=>xI C0 R U<|sQ R (A6 R CR iL)<|xV (.int .i64 x5.Kind) AJ R<|AE h7 λr1 V h8=>cL (fE<|V) R<|sQ R (A3 R iL)<|aZ<|cI R h8 (λX=>?_) λX=>?_
  ·exact zI (q _<|xH j X) R id
  refine Zd<|c7 _<|aG [1,2,3,10,11] [3] ?_
  exact aR<|AE X λx6 Y Z=>xA R Y<|mM R<|Zi<|Zx Z (AH [(u 0)]) wk
 exact Zn<|A _ _ wk<|J1 _ (AH [(u 0)])<|xH j F
theorem gM{d1 r}(h:ME d1=some r):AO prog 29 [.agg [qg d1.Nodes]] (rI r):=by
 unfold ME at h
 refine mF func29 ntmps29 R λj=>aU<|sS R (Az (cs:=[qg d1.Nodes]) 1 R iL R R)<|mA R<|aZ<|aT λc2=>aU<|lF Dd DZ R R<|xL C0 R<|xQ R<|aZ<|cI R h (λh1=>?_) λh1=>?_
 ·exact zI h1 R id
 refine Zd<|c2 _<|aS λK5 c5 a0=>aU<|lF Dd DZ R R<|xL C0 R<|mM R<|aZ<|Zf<|BJ h1 λo1 C a1 E=>?_
 have J1:∀(u2:Unit) (i5:NN),o1=.nrm u2→K5 ⟨[(1,.ptr 1 j 0 0)],[(1,some<|.box j 24 [qg d1.Nodes])],(i5 0),81⟩:=by
  intro u2 i5 e
  have h2:=a1 _ e
  refine c5 _<|aS λK7 c7 a2=>aU<|lF Dd DZ R R<|xL C0 R<|mM R<|aZ<|Zf<|BJ h2 λo2 F a6 a7=>?_
  have J2:∀(u4:Unit) (I:NN),o2=.nrm u4→K7 ⟨[],[],(I 0),81⟩:=by
   intro u4 I e
   have h3:=a6 _ e
   exact c7 _<|zI h3 R id
  refine ZC (λ(q:Int) i8=>⟨[(1,.ptr 1 j 0 0),(59,rL d1.Nodes),(60,rI q)],[(1,some<|.box j 24 [qg d1.Nodes])],(i8 0),81⟩) (AH [(i5 0)]) F wk ?_
  intro q i8 v1 a8 J
  have h4:Kn d1 q=some v1:=a8;unfold Kn at h4
  refine aU<|xS R<|aZ<|aT λaa=>cI R h4 (λh5=>?_) λh5=>?_
  ·refine Zd<|aa _<|aT λab=>Zf<|aU<|mM R<|mA R<|aZ<|aT λac=>AE h5 λl M h6=>AE h6 λr1 ad h7=>?_
   refine rP 13 [pO 63<|.agg [qg d1.Nodes],pO 64<|.ptr 1 j 0 0,pO 65<|qg d1.Nodes,pO 66<|rI q,pO 67<|.rop (AX.row l) 0,pO 68<|.rop (AX.row l) 1,pO 69<|rI l.Kind,pO 70<|.ptr 1 j 0 0,pO 71<|qg d1.Nodes,pO 72<|rI q,pO 73<|.rop (AX.row l) 0,pO 74<|.agg<|BY l,pO 75<|.r<|.sl<|r1.map<|Ak .i64] BF R (by exact⟨oB [(1,.ptr 1 j 0 0)] [(1,some<|.box j 24 [qg d1.Nodes])]<|D5 R DT (.inl R) R R,oB [(1,.ptr 1 j 0 0)] [(1,some<|.box j 24 [qg d1.Nodes])]<|fB R Dd (.inl R) (λ_=>R) R,oB [(64,.ptr 1 j 0 0)] [(1,some<|.box j 24 [qg d1.Nodes])]<|AU (a:=qg d1.Nodes) R DZ (.inl R) R R,oB [(5,rI q)] []<|AK R<|.inl R,oB [(65,qg d1.Nodes),(66,rI q)] []<|At R C0.slice (.inl R) (.inl R) (λ_=>R) λ_=>M,oB [(67,.rop (AX.row l) 0)] []<|A6 R CR<|.inl R,oB [(68,.rop (AX.row l) 1)] []<|BV (d:=.int .i64 l.Kind) R AJ (.inl R) R,oB [(1,.ptr 1 j 0 0)] [(1,some<|.box j 24 [qg d1.Nodes])]<|fB R Dd (.inl R) (λ_=>R) R,oB [(70,.ptr 1 j 0 0)] [(1,some<|.box j 24 [qg d1.Nodes])]<|AU (a:=qg d1.Nodes) R DZ (.inl R) R R,oB [(5,rI q)] []<|AK R<|.inl R,oB [(71,qg d1.Nodes),(72,rI q)] []<|At R C0.slice (.inl R) (.inl R) (λ_=>R) λ_=>M,oB [(73,.rop (AX.row l) 0)] []<|CV (cs:=(BY l)) R El (.inl R) R R,oD (λ_=>[(74,.agg<|BY l)]) (λ_=>[]) λG1 e h' n=>B4 (r:=.r<|.sl<|r1.map<|Ak .i64) (caps:=[]) (bs:=(Nt l)) R (.inl R) R ⟨.inl ⟨(.inl R),R⟩,Za⟩ λ_=>jG<|ad,Za⟩) λG1 n1=>?_
   refine BC [1,5,59,60,61,62,63,64,65,66,67,68,69,70,71,72,73,74,75] [1] ?_
   refine AE h7 λe1 ae h8=>cL (kS<|ae) R<|mA R<|aZ<|ac _<|aT λaf=>aG [1,6,59,60] [1] ?_
   refine aR<|mM R<|xU R<|aZ<|af _<|cI R h8 (λh9=>?_) λh9=>?_
   ·exact aU<|mM R<|mA R<|aZ<|Zk<|yI (a7 _<|xH J h9) R
   exact Zd<|ab _<|aR<|AE h9 λx8 ag ah=>xA R ag<|mM R<|Zi<|Zx ah (AH [n1]) wk
  exact Zn<|a2 _ _ wk<|J2 _ (AH [(i8 0)])<|xH J h5
 refine ZC (λ(x2:Int) Z=>⟨[(1,.ptr 1 j 0 0),(13,rL d1.Nodes),(14,rI x2)],[(1,some<|.box j 24 [qg d1.Nodes])],(Z 0),81⟩) (AH [(j+1)]) C wk ?_
 intro x2 Z v2 ai u
 have O:MI d1 x2=some v2:=ai;unfold MI at O
 refine aU<|xS R<|aZ<|aT λaj=>cI R O (λw=>?_) λw=>?_
 ·refine Zd<|aj _<|aT λak=>Zf<|aU<|mM R<|mA R<|aZ<|aT λal=>aU<|lF Dd DZ R R<|mM R<|AE w λx9 T an=>xI C0 R T<|xB ((BY x9)) El R<|AE an λe2 ao aq=>cL (gb<|ao) R<|mA R<|aZ<|aU<|mM R<|xU R<|aZ<|cI R aq (λA=>?_) λA=>?_
  ·refine aT λar=>aF [4] ?_
   exact aR<|mM R<|mA R<|aZ<|ar _<|Zk<|yI (E _<|xH u A) R
  refine Zd<|al _<|aT λav=>aG [1,3,13,14] [1] ?_
  refine ZB BF (by kernel_rfl) ?_
  refine qP R (AK R iL)<|qP R (Aw R iL iL)<|qP R (AK R iL)<|qO R (fB R Dd iL fR R)<|qO R (AU (a:=qg d1.Nodes) R DZ (iR R) R R)<|AE A λaw U ax=>qO R (At R C0.slice (iR R) iL (λ_=>R)<|AP U)<|qO R (A6 R EQ<|iR R)<|qO R (BV (d:=.int .i64 aw.ID) R AJ (iR R) R)<|qO R (Cc R (iR R) iL)<|qP R (BQ R iL<|iR R)<|qP R (AK R iL)<|qO R (AK R iL)<|qO R (BD R (iR R) iL)<|qO R (AK R<|iR R)<|qT R (fB R Dd iL fR R)<|qT R (AU (a:=qg d1.Nodes) R DZ (iR R) R R)<|qT R (AK R iL)<|qT R (At R C0.slice (iR R) (iR R) (λ_=>R) λ_=>T)<|qT R (A6 R EQ<|iR R)<|qT R (BV (d:=.int .i64 x9.ID) R AJ (iR R) R)<|qT R (fB R Dd iL fR R)<|qT R (AU (a:=qg d1.Nodes) R DZ (iR R) R R)<|qT R (AK R iL)<|AE ax λb2 V ay=>qT R (B5 R (iR R) iL<|AP V)<|AE ay λaz X b0=>qT R (At R C0.slice (iR R) (iR R) (λ_=>R)<|AP X)<|qT R (A6 R EQ<|iR R)<|qT R (BV (d:=.int .i64 az.ID) R AJ (iR R) R)<|qT R (FJ R (iR R)<|iR R)<|qO R (BQ R (iR R)<|iR R)<|qP R (CB R iL<|iR R)<|AQ.nil<|av _<|cI R b0 (λB=>?_) λB=>?_
  ·exact zI (E _<|xH u B) R id
  exact Zd<|ak _<|aR<|AE B λb3 Y b1=>xA R Y<|mM R<|Zi<|Zx b1 (AH [(Z 0)]) wk
 exact Zn<|a0 _ _ wk<|J1 _ (AH [(Z 0)])<|xH u w
theorem ex{j r}(h:OB j=some r):AO prog 164 [rS j] (rB r):=by
 unfold OB at h
 refine mF func164 ntmps164 R λn0=>aU<|mA R<|aZ<|aT λC2=>aU<|mM R<|sQ R (CA R iL iL)<|mM R<|vM R<|vQ R (Dl R underlying9<|iR R)<|vQ R (BD R (iR R) iL)<|xO R<|mM R<|vM R<|AE h λa0 l h1=>vQ R (DO R underlying9 (iR R) iL<|AP l)<|vQ R (B7 R (iR R) iL)<|xO R<|mM R<|vM R<|AE h1 λa1 q h2=>vQ R (DO R underlying9 (iR R) iL<|AP q)<|vQ R (BD R (iR R) iL)<|xO R<|aZ<|cI R h2 (λB=>?_) λB=>?_
 ·exact zB B R id
 refine Zd<|C2 _<|aS λK5 C5 C=>aT λC6=>aF [0] ?_
 refine aR<|mM R<|sQ R (Dl R underlying9 iL)<|mM R<|aZ<|C6 _<|Zf<|BJ B λo1 u E F=>?_
 have J1:∀(X:Unit) (Y:NN),o1=.nrm X→K5 ⟨[],[],(Y 0),53⟩:=by
  intro X Y e
  have h4:=E _ e
  exact C5 _<|zB h4 R id
 refine ZC (λ(I:Int) A=>⟨[(0,rS j),(23,rL j),(24,rI I)],[],(A 0),53⟩) (AH [n0]) u wk ?_
 intro I A v1 J w
 have Z:M9 j I=some v1:=J;unfold M9 at Z
 refine aU<|xS R<|aZ<|aT λC9=>cI R Z (λM=>?_) λM=>?_
 ·refine Zd<|C9 _<|aT λO=>Zf<|aU<|mM R<|mA R<|aZ<|aU<|mM R<|mM R<|AE M λc1 T h7=>sQ R (DO R underlying9 iL iL λ_=>T)<|mA R<|aZ<|aU<|mM R<|xS R<|mM R<|vM R<|vQ R (BD R (iR R) iL)<|xO R<|mM R<|vM R<|vQ R (B7 R (iR R) iL)<|vQ R (AK R<|iR R)<|wQ R (AK R iL)<|wQ R (BD R (iR R) iL)<|vQ R (CB R (iR R)<|iR R)<|xN R<|mM R<|vM R<|vQ R (Cc R (iR R) iL)<|xN R<|mM R<|vM R<|vQ R (Cc R (iR R) iL)<|xN R<|aZ<|cI R h7 (λU=>?_) λU=>?_
  ·exact zB (F _<|xH w U) R id
  refine Zd<|O _<|aF [0,23,24] ?_
  exact aR<|AE U λx4 V h9=>xA R V<|mM R<|Zi<|Zx h9 (AH [(A 0)]) wk
 exact Zn<|C _ _ wk<|J1 _ (AH [(A 0)])<|xH w M
theorem Xw{l r}(h:Jj l=some r):AO prog 98 [rS l] (rB r):=by
 unfold Jj at h
 refine mF func98 ntmps98 R λY=>aU<|mA R<|aZ<|aT λZ=>aU<|mM R<|sQ R (CA R iL iL)<|mM R<|vM R<|vQ R (Dl R underlying9<|iR R)<|vQ R (BD R (iR R) iL)<|xO R<|aZ<|cI R h (λA=>?_) λA=>?_
 ·exact zB A R id
 refine Zd<|Z _<|aS λK5 c5 B=>aU<|mM R<|sQ R (Dl R underlying9 iL)<|mM R<|aZ<|Zf<|BJ A λo1 q C E=>?_
 have J1:∀(U:Unit) (V:NN),o1=.nrm U→K5 ⟨[],[],(V 0),27⟩:=by
  intro U V e
  have h2:=C _ e
  exact c5 _<|zB h2 R id
 refine ZC (λ(F:Int) w=>⟨[(0,rS l),(12,rL l),(13,rI F)],[],(w 0),27⟩) (AH [Y]) q wk ?_
 intro F w v1 I u
 have X:QS l F=some v1:=I;unfold QS at X
 refine aU<|xS R<|aZ<|aT λc9=>cI R X (λJ=>?_) λJ=>?_
 ·refine Zd<|c9 _<|aT λM=>Zf<|aU<|mM R<|mA R<|aZ<|aU<|mM R<|mM R<|AE J λa0 j h5=>sQ R (DO R underlying9 iL iL λ_=>j)<|xS R<|mM R<|vM R<|vM R<|vQ R (DO R underlying9 (iR R) (iR R) λ_=>j)<|vQ R (BD R (iR R) iL)<|xO R<|aZ<|cI R h5 (λO=>?_) λO=>?_
  ·exact zB (E _<|xH u O) R id
  refine Zd<|M _<|aF [0,12,13] ?_
  exact aR<|AE O λx4 T h7=>xA R T<|mM R<|Zi<|Zx h7 (AH [(w 0)]) wk
 exact Zn<|B _ _ wk<|J1 _ (AH [(w 0)])<|xH u J
theorem gU{u b r}(h:NL u b=some r):AO prog 119 [qa u,rB b] (rI r):=by
 unfold NL at h
 refine mF func119 ntmps119 R λn0=>aU<|mA R<|aZ<|aS λK2 c2 C=>aU<|mM R<|xL Af R<|mM R<|aZ<|Zf<|BJ h λo1 w E l=>?_
 have J1:∀(u2:Unit) (i5:NN),o1=.nrm u2→K2 ⟨[],[],(i5 0),48⟩:=by
  intro u2 i5 e
  have h1:=E _ e
  exact c2 _<|zI h1 R id
 refine ZC (λ(F:Int) A=>⟨[(0,qa u),(1,rB b),(7,qa u),(8,rL u),(9,rI F)],[],(A 0),48⟩) (AH [n0]) w wk ?_
 intro F A v1 I j
 have h2:Mu u b F=some v1:=I;unfold Mu at h2
 refine aU<|xS R<|aZ<|aT λc6=>cI R h2 (λJ=>?_) λJ=>?_
 ·refine Zd<|c6 _<|aT λc7=>Zf<|aU<|mM R<|AE J λB M h4=>xI Af R M<|xB ((BL B)) CO R<|sS R (BB (cs:=[.r<|.str [],.r<|.str []]) 6 R P4 R R)<|mA R<|Zj R R (Ac (ds:=(BL B)) R Nw iL R iL R R R R)<|aZ<|Zf<|aU<|lF Cb BG R R<|AE h4 λr1 O h5=>cL (ex<|O) R<|sQ R (A3 R iL)<|mA R<|aZ<|cI R h5 (λT=>?_) λT=>?_
  ·exact zI (l _<|xH j T) R id
  refine aT λU=>aG [0,1,5,6,7,8,9] [6] ?_
  refine aR<|lF IP BG R R<|AE T λr2 V h7=>cL (Xw<|V) R<|sQ R (A3 R iL)<|mM R<|vM R<|vQ R (AK R<|iR R)<|wQ R (fB R IP iL fR R)<|wQ R (AU (a:=rS B.Value) R BG (iR R) R R)<|wQ R (CA R (iR R) iL)<|vQ R (BQ R (iR R)<|iR R)<|vQ R (A3 R<|iR R)<|xN R<|mA R<|aZ<|U _<|cI R h7 (λX=>?_) λX=>?_
  ·exact zI (l _<|xH j X) R id
  refine aT λY=>?_
  refine ZB BF (by kernel_rfl) ?_
  refine qP R (AK R iL)<|qP R (BD R iL iL)<|qP R (AK R iL)<|qO R (fB R Cb iL fR R)<|qO R (AU (a:=rS B.Name) R BG (iR R) R R)<|qO R (AK R iL)<|qO R (AK R iL)<|AE X λx5 Z h9=>qO R (B5 R (iR R) iL<|AP Z)<|AE h9 λx6 a0 a1=>qO R (At R Af.slice (iR R) (iR R) (λ_=>R)<|AP a0)<|qO R (A6 R Cb<|iR R)<|qO R (BV (d:=.str x6.Name) R BG (iR R) R)<|qO R (iu R (iR R)<|iR R)<|qP R (BQ R iL<|iR R)<|qP R (DU R iL)<|AQ.nil<|Y _<|cI R a1 (λq=>?_) λq=>?_
  ·exact zI (l _<|xH j q) R id
  refine Zd<|c7 _<|aF [0,1,7,8,9] ?_
  exact aR<|AE q λx7 a2 a6=>xA R a2<|mM R<|Zi<|Zx a6 (AH [((A 0)+1)]) wk
 exact Zn<|C _ _ wk<|J1 _ (AH [(A 0)])<|xH j J
theorem Si{l r}(h:HM l=some r):AO prog 85 [qa l] (rI r):=by
 unfold HM at h
 exact mF func85 ntmps85 R λu=>aU<|mA R<|aZ<|aU<|mM R<|AE h λw j q=>cL (gU<|j) R<|mA R<|aZ<|Zk<|yI q R
theorem X0{k r}(h:F7 k=some r):AO prog 96 [rI k] (rB r):=by
 unfold F7 at h
 exact mF func96 ntmps96 R λj=>aU<|mA R<|aZ<|aU<|mM R<|xQ R<|mM R<|vM R<|vQ R (Aw R (iR R) iL)<|xO R<|mM R<|vM R<|vQ R (Aw R (iR R) iL)<|xO R<|mM R<|vM R<|vQ R (Aw R (iR R) iL)<|xO R<|mA R<|aZ<|Zk<|yB h R
theorem oF{k r}(h:Iq k=some r):AO prog 167 [rI k] (rB r):=by
 unfold Iq at h
 exact mF func167 ntmps167 R λj=>aU<|mA R<|aZ<|aU<|mM R<|xQ R<|mM R<|vM R<|vQ R (Aw R (iR R) iL)<|xO R<|mA R<|aZ<|Zk<|yB h R
theorem lS{k r}(h:JE k=some r):AO prog 135 [rI k] (rB r):=by
 unfold JE at h
 exact mF func135 ntmps135 R λj=>aU<|mA R<|aZ<|aU<|mM R<|xQ R<|mM R<|vM R<|vQ R (Aw R (iR R) iL)<|xO R<|mA R<|aZ<|Zk<|yB h R
theorem nt{s a r}(h:Qy s a=some r):AO prog 192 [qc s,qc a] (rB r):=by
 unfold Qy at h
 refine mF func192 ntmps192 R λZ=>aU<|mA R<|aZ<|aT λc2=>aU<|mM R<|xL Cs R<|mM R<|xL Cs R<|xU R<|aZ<|cI R h (λu=>?_) λu=>?_
 ·exact zB u R id
 refine Zd<|c2 _<|aS λK5 c5 w=>aU<|mM R<|xL Cs R<|mM R<|aZ<|Zf<|BJ u λo1 j A B=>?_
 have J1:∀(V:Unit) (X:NN),o1=.nrm V→K5 ⟨[],[],(X 0),26⟩:=by
  intro V X e
  have h2:=A _ e
  exact c5 _<|zB h2 R id
 refine ZC (λ(C:Int) q=>⟨[(0,qc s),(1,qc a),(12,rL s),(13,rI C)],[],(q 0),26⟩) (AH [Z]) j wk ?_
 intro C q v1 E l
 have Y:PJ s a C=some v1:=E;unfold PJ at Y
 refine aU<|xS R<|aZ<|aT λc9=>cI R Y (λF=>?_) λF=>?_
 ·refine Zd<|c9 _<|aT λI=>Zf<|aU<|mM R<|mA R<|aZ<|aT λJ=>?_
  refine ZB BF (by kernel_rfl) ?_
  refine qP R (AK R iL)<|qP R (AK R iL)<|AE F λx4 M h5=>qP R (At R Cs.slice iL iL (λ_=>R) λ_=>M)<|qP R (CV (cs:=(BW x4)) R FB iL R R)<|qP R (AK R iL)<|qP R (AK R iL)<|AE h5 λx5 O h6=>qP R (At R Cs.slice iL iL (λ_=>R) λ_=>O)<|qP R (CV (cs:=(BW x5)) R FB iL R R)<|qP R (KN R iI iL iL R)<|AQ.nil<|J _<|cI R h6 (λT=>?_) λT=>?_
  ·exact zB (B _<|xH l T) R id
  refine Zd<|I _<|aF [0,1,12,13] ?_
  exact aR<|AE T λx6 U h8=>xA R U<|mM R<|Zi<|Zx h8 (AH [(q 0)]) wk
 exact Zn<|w _ _ wk<|J1 _ (AH [(q 0)])<|xH l F
theorem Xt{j u r}(h:HC j u=some r):AO prog 185 [qa j,qa u] (rB r):=by
 unfold HC at h
 refine mF func185 ntmps185 R λn0=>aU<|mA R<|aZ<|aT λc2=>aU<|mM R<|xL Af R<|mM R<|xL Af R<|xU R<|aZ<|cI R h (λA=>?_) λA=>?_
 ·exact zB A R id
 refine Zd<|c2 _<|aS λK5 c5 B=>aU<|mM R<|xL Af R<|mM R<|aZ<|Zf<|BJ A λo1 l C E=>?_
 have J1:∀(Y:Unit) (Z:NN),o1=.nrm Y→K5 ⟨[],[],(Z 0),26⟩:=by
  intro Y Z e
  have h2:=C _ e
  exact c5 _<|zB h2 R id
 refine ZC (λ(F:Int) w=>⟨[(0,qa j),(1,qa u),(12,rL j),(13,rI F)],[],(w 0),26⟩) (AH [n0]) l wk ?_
 intro F w v1 I q
 have h3:RJ j u F=some v1:=I;unfold RJ at h3
 refine aU<|xS R<|aZ<|aT λc9=>cI R h3 (λJ=>?_) λJ=>?_
 ·refine Zd<|c9 _<|aT λM=>Zf<|aU<|mM R<|mA R<|aZ<|aT λO=>?_
  refine ZB BF (by kernel_rfl) ?_
  refine qP R (AK R iL)<|qP R (AK R iL)<|AE J λx4 T h5=>qP R (At R Af.slice iL iL (λ_=>R) λ_=>T)<|qP R (CV (cs:=(BL x4)) R CO iL R R)<|qP R (AK R iL)<|qP R (AK R iL)<|AE h5 λx5 U h6=>qP R (At R Af.slice iL iL (λ_=>R) λ_=>U)<|qP R (CV (cs:=(BL x5)) R CO iL R R)<|qP R (KN R ek iL iL R)<|AQ.nil<|O _<|cI R h6 (λV=>?_) λV=>?_
  ·exact zB (E _<|xH q V) R id
  refine Zd<|M _<|aF [0,1,12,13] ?_
  exact aR<|AE V λx6 X h8=>xA R X<|mM R<|Zi<|Zx h8 (AH [(w 0)]) wk
 exact Zn<|B _ _ wk<|J1 _ (AH [(w 0)])<|xH q J
theorem uK{j l r}(h:OU j l=some r):AO prog 194 [.agg<|B6 j,.agg<|B6 l] (rB r):=by
 unfold OU at h
 exact mF func194 ntmps194 R λA=>aU<|sS R (Az (cs:=(B6 j)) 2 R iL R R)<|sS R (Az (cs:=(B6 l)) 3 R iL R R)<|mA R<|aZ<|aT λu=>aR<|lF GO AJ R R<|lF GO AJ R R<|xQ R<|mM R<|vF HE AJ R R<|vF HE AJ R R<|vQ R (Aw R (iR R)<|iR R)<|xN R<|mM R<|vF Hp BG R R<|vF Hp BG R R<|vQ R (CA R (iR R)<|iR R)<|xN R<|mM R<|vF Fg AJ R R<|vF Fg AJ R R<|vQ R (Aw R (iR R)<|iR R)<|xN R<|mM R<|vF Ht BE R R<|vF Ht BE R R<|AE h λB q w=>vL (λhg=>Xt<|AP q hg) R<|xN R<|mA R<|aZ<|u _<|Zk<|yB w R
theorem nJ{s a r}(h:Pm s a=some r):AO prog 193 [qe s,qe a,.fn 194 []] (rB r):=by
 unfold Pm at h
 refine mF func193 ntmps193 R λn0=>aU<|mA R<|aZ<|aT λc2=>aU<|mM R<|xL Cq R<|mM R<|xL Cq R<|xU R<|aZ<|cI R h (λu=>?_) λu=>?_
 ·exact zB u R id
 refine Zd<|c2 _<|aS λK5 c5 w=>aU<|mM R<|xL Cq R<|mM R<|aZ<|Zf<|BJ u λo1 j A B=>?_
 have J1:∀(X:Unit) (Y:NN),o1=.nrm X→K5 ⟨[],[],(Y 0),32⟩:=by
  intro X Y e
  have h2:=A _ e
  exact c5 _<|zB h2 R id
 refine ZC (λ(C:Int) q=>⟨[(1,qe a),(2,.fn 194 []),(15,qe s),(16,rL s),(17,rI C)],[],(q 0),32⟩) (AH [n0]) j wk ?_
 intro C q v1 E l
 have Z:P1 s a C=some v1:=E;unfold P1 at Z
 refine aU<|xS R<|aZ<|aT λc9=>cI R Z (λF=>?_) λF=>?_
 ·refine Zd<|c9 _<|aT λI=>Zf<|aU<|mM R<|AE F λx4 J h5=>xI Cq R J<|xB ((B6 x4)) Fv R<|sS R (BB (cs:=Mn) 8 R N3 R R)<|mA R<|Zj R R (Ac (ds:=(B6 x4)) R MY iL R iL R R R R)<|aZ<|aU<|mM R<|mM R<|AE h5 λx5 M h6=>xI Cq R M<|xB ((B6 x5)) Fv R<|sS R (BB (cs:=Mn) 9 R N3 R R)<|Zj R R (Ac (ds:=(B6 x5)) R MY iL R iL R R R R)<|aZ<|aT λO=>aG [1,2,8,9,15,16,17] [8,9] ?_
  refine aR<|mM R<|xC Fv R<|xC Fv R<|AE h6 λr1 T h7=>cL (uK<|T) R<|sQ R (A3 R iL)<|aZ<|O _<|cI R h7 (λU=>?_) λU=>?_
  ·exact zB (B _<|xH l U) R id
  exact Zd<|I _<|aR<|AE U λx6 V h9=>xA R V<|mM R<|Zi<|Zx h9 (AH [((q 0)+2)]) wk
 exact Zn<|w _ _ wk<|J1 _ (AH [(q 0)])<|xH l F
theorem kg{j l r}(h:Lw j l=some r):AO prog 168 [.agg<|Dh j,.agg<|Dh l] (rB r):=by
 unfold Lw at h
 exact mF func168 ntmps168 R λC=>aU<|sS R (Az (cs:=(Dh j)) 2 R iL R R)<|sS R (Az (cs:=(Dh l)) 3 R iL R R)<|mA R<|aZ<|aU<|lF Gg AJ R R<|lF Gg AJ R R<|xQ R<|mM R<|vF Gh AJ R R<|vF Gh AJ R R<|vQ R (Aw R (iR R)<|iR R)<|xN R<|mM R<|vF Fs DQ R R<|vF Fs DQ R R<|AE h λE q w=>vL (λhg=>nt<|AP q hg) R<|xN R<|mM R<|vF GK E0 R R<|vF GK E0 R R<|AE w λA u B=>AM.stepW (.one R R R) R R (EG (r:=rB A) (caps:=[]) (bs:=[qe j.Cells,qe l.Cells,.fn 194 []]) R iL R ⟨⟨_,(iR R),.d R⟩,⟨_,(iR R),.d R⟩,⟨_,iL,.one<|.closed (.fn 194 []) R⟩,Za⟩ (λhg=>nJ<|AP u hg) R)<|xN R<|mA R<|aZ<|Zk<|yB B R
theorem VC{k r}(h:HB k=some r):AO prog 169 [rI k] (rB r):=by
 unfold HB at h
 exact mF func169 ntmps169 R λj=>aU<|mA R<|aZ<|aU<|mM R<|xQ R<|mM R<|vM R<|vQ R (Aw R (iR R) iL)<|xO R<|mM R<|vM R<|vQ R (Aw R (iR R) iL)<|xO R<|mA R<|aZ<|Zk<|yB h R
theorem Ym{j r}(h:MQ j=some r):AO prog 99 [rI j] (rB r):=by
 unfold MQ at h
 exact mF func99 ntmps99 R λl=>aU<|mA R<|aZ<|aU<|mM R<|xQ R<|mM R<|vM R<|vQ R (Aw R (iR R) iL)<|xO R<|mM R<|vM R<|vQ R (Cv R (iR R) iL)<|vQ R (AK R<|iR R)<|wQ R (AK R iL)<|wQ R (B7 R (iR R) iL)<|vQ R (BQ R (iR R)<|iR R)<|xO R<|mM R<|vM R<|vQ R (Cv R (iR R) iL)<|vQ R (AK R<|iR R)<|wQ R (AK R iL)<|wQ R (B7 R (iR R) iL)<|vQ R (BQ R (iR R)<|iR R)<|xO R<|mM R<|vM R<|vQ R (BD R (iR R) iL)<|vQ R (AK R<|iR R)<|wQ R (AK R iL)<|wQ R (FJ R (iR R) iL)<|vQ R (BQ R (iR R)<|iR R)<|xO R<|mA R<|aZ<|Zk<|yB h R
theorem f8{l r}(h:NA l=some r):AO prog 117 (iV l) (rI r):=by
 unfold NA at h
 refine mF func117 ntmps117 R λw=>aU<|sS R (Az (cs:=(Ag l)) 1 R iL R R)<|mA R<|aZ<|aT λT=>Zf<|aU<|lF Eb AJ R R<|xU R<|lF Ek AJ R R<|xU R<|sQ R (en R underlying4 iL iL)<|mA R<|aZ<|cI R h (λA=>?_) λA=>?_
 ·exact zI A R id
 refine aS λU V q=>aT λX=>aG [1] [1] ?_
 refine aR<|lF Ek AJ R R<|xQ R<|mM R<|vF Eb AJ R R<|AE A λr1 B Y=>vL (λhg=>Ym<|AP B hg) R<|vQ R (A3 R<|iR R)<|xN R<|mA R<|aZ<|X _<|BA Y λZ u C=>?_
 have M:∀(E:Bool) (O:NN),Z=E→U ⟨[(1,.ptr 1 w 0 0),(11,rB E)],[(1,some<|.box w 51<|Ag l)],(O 0),37⟩:=by
  intro E O e
  have h3:=C _ e
  refine V _<|cI R h3 (λF=>?_) λF=>?_
  ·exact zI F R id
  exact Zd<|T _<|aU<|lF Cr BE R R<|AE F λr2 I h5=>cL (Si<|I) R<|mA R<|aZ<|Zk<|yI h5 R
 refine aC R (λj=>?_) λj=>?_
 ·have J:=Bk j u
  exact Zd<|q _ _ wk<|M _ (AH [(w+1)]) (Zb J).symm
 ·have J:=Bn j u
  refine aG [1] [1] ?_
  exact aR<|lF Ek AJ R R<|xU R<|mM R<|vF Ek AJ R R<|vQ R (B7 R (iR R) iL)<|vQ R (AK R<|iR R)<|wQ R (fB R Ek iL fR R)<|wQ R (AU (a:=rI l.Ref) R AJ (iR R) R R)<|wQ R (BD R (iR R) iL)<|vQ R (CB R (iR R)<|iR R)<|xN R<|mA R<|Zi<|q _ _ wk<|M _ (AH [(w+1)]) (Zb J).symm
theorem tc{j a r}(h:Gp j a=some r):AO prog 170 [qb j,rB a] (rI r):=by
 unfold Gp at h
 refine mF func170 ntmps170 R λn0=>aU<|mA R<|aZ<|aS λK2 c2 B=>aU<|mM R<|xL Ar R<|mM R<|aZ<|Zf<|BJ h λo1 u C w=>?_
 have J1:∀(u2:Unit) (i5:NN),o1=.nrm u2→K2 ⟨[(0,qb j),(1,rB a)],[],(i5 0),43⟩:=by
  intro u2 i5 e
  have h1:=C _ e
  refine c2 _<|aT λc4=>aU<|mM R<|mM R<|vM R<|vQ R (Bq R Ar.slice<|iR R)<|vQ R (Aw R (iR R) iL)<|vQ R (AK R<|iR R)<|wQ R (AK R iL)<|wQ R (AK R iL)<|wQ R (Bq R Ar.slice<|iR R)<|AE h1 λx4 E h2=>wQ R (B5 R (iR R) iL<|AP E)<|AE h2 λx5 F h3=>wQ R (At R Ar.slice (iR R) (iR R) (λ_=>R)<|AP F)<|wQ R (A6 R Eb<|iR R)<|wQ R (BV (d:=.int .i64 x5.Char) R AJ (iR R) R)<|wQ R (Cc R (iR R) iL)<|vQ R (CB R (iR R)<|iR R)<|xN R<|aZ<|cI R h3 (λI=>?_) λI=>?_
  ·exact zI I R id
  exact Zd<|c4 _<|zI I R id
 refine ZC (λ(J:Int) A=>⟨[(0,qb j),(1,rB a),(8,qb j),(9,rL j),(10,rI J)],[],(A 0),43⟩) (AH [n0]) u wk ?_
 intro J A v1 M l
 have h5:Ki j a J=some v1:=M;unfold Ki at h5
 refine aU<|xS R<|aZ<|aT λc9=>cI R h5 (λO=>?_) λO=>?_
 ·refine Zd<|c9 _<|aT λT=>Zf<|aU<|AE O λx6 U h7=>xI Ar R U<|xB ((Ag x6)) Cf R<|sS R (BB (cs:=Ec) 6 R EV R R)<|Zj R R (Ac (ds:=(Ag x6)) R DK iL R iL R R R R)<|aZ<|aT λV=>aU<|xC Cf R<|AE h7 λe1 X h8=>cL (f8<|X) R<|mA R<|aZ<|aU<|mM R<|xU R<|aZ<|cI R h8 (λY=>?_) λY=>?_
  ·refine aT λZ=>aF [7] ?_
   exact aR<|mM R<|mA R<|aZ<|Z _<|Zk<|yI (w _<|xH l Y) R
  refine Zd<|V _<|aU<|mM R<|sQ R (A3 R iL)<|mM R<|vF Ek AJ R R<|vQ R (Aw R (iR R) iL)<|xN R<|aZ<|cI R Y (λq=>?_) λq=>?_
  ·exact zI (w _<|xH l q) R id
  refine Zd<|T _<|aF [0,1,8,9,10] ?_
  exact aR<|AE q λx7 a0 a1=>xA R a0<|mM R<|Zi<|Zx a1 (AH [((A 0)+1)]) wk
 exact Zn<|B _ _ wk<|J1 _ (AH [(A 0)])<|xH l O
theorem mV{s1 r}(h:P3 s1=some r):AO prog 109 [rS s1] (.tup [.r<|.int .i32 r.1,rI r.2]):=by
 unfold P3 at h
 refine mF func109 ntmps109 R λn0=>aU<|mA R<|mA R<|aZ<|aU<|mM R<|sQ R (Dl R underlying9 iL)<|mA R<|aZ<|aT λc3=>aU<|mM R<|xS R<|aZ<|cI R h (λE=>?_) λE=>?_
 ·exact aU<|mA R<|mA R<|aZ<|Zk<|Ct (P:=prog) (λ(r:Int × Int)=>.r<|.int .i32 r.1) (λ(r:Int × Int)=>rI r.2) E iL (.t<|.d R)<|.t<|.d R
 refine Zd<|c3 _<|aU<|mM R<|AE E λaf j h2=>sQ R (DO R underlying9 iL iL λ_=>j)<|mA R<|aZ<|aT λc7=>aR<|mM R<|AE h2 λx1 F h3=>?_
 refine sQ R (bF (f:=(Ak .u8)) (l:=GX) R pB p9 (by kernel_rfl) iL (λ_=>R) (by decide) λ_=>F) ?_
 refine xV (.int .u8 x1) YA R<|mA R<|aZ<|c7 _<|aT λc8=>aT λc9=>aF [0,4,5,6] ?_
 refine aR<|mM R<|sQ R (Cv R iL iL)<|aZ<|c9 _<|cI R h3 (λI=>?_) λI=>?_
 ·refine aU<|mM R<|sQ R (Es R underlying5 underlying21 iL)<|sQ R (JA (b:=31) R iL iL)<|sQ R (RI (b:=31) R iL iL)<|mA R<|aZ<|aT λJ=>aF [0,7] ?_
  exact aR<|mM R<|sQ R (DO R underlying9 iL iL λ_=>j)<|sQ R (Es R underlying5 underlying21 iL)<|mM R<|sQ R (Yl R iL iL)<|mM R<|sQ R (F8 R iL iL)<|sQ R (J8 R iL iL)<|mA R<|mA R<|aZ<|J _<|Zk<|Ct (P:=prog) (λ(r:Int × Int)=>.r<|.int .i32 r.1) (λ(r:Int × Int)=>rI r.2) I iL (.t<|.d R)<|.t<|.d R
 refine Zd<|c8 _<|aU<|mM R<|sQ R (F8 R iL iL)<|sQ R (Es R underlying5 underlying3 iL)<|mA R<|aZ<|aT λM=>aR<|mM R<|sQ R (RI (b:=4) R iL iL)<|AE I λC O h5=>?_
 refine sQ R (bF (f:=JM.row) (l:=Tu) R mz kz (by kernel_rfl) iL (λ_=>R) (by decide) λ_=>O) ?_
 refine xB ([.r<|.int .u8 C.lo,.r<|.int .u8 C.hi]) tr R<|sS R (BB (cs:=[.r<|.int .u8 0,.r<|.int .u8 0]) 9 R nO R R)<|Zj R R (Ac (ds:=[.r<|.int .u8 C.lo,.r<|.int .u8 C.hi]) R jE iL R iL R R R R)<|aZ<|M _<|aT λT=>aT λU=>aG [0,4,5,8,9] [9] ?_
 refine aR<|mM R<|mM R<|xS R<|aZ<|U _<|cI R h5 (λV=>?_) λV=>?_
 ·exact aU<|mA R<|mA R<|aZ<|Zk<|Ct (P:=prog) (λ(r:Int × Int)=>.r<|.int .i32 r.1) (λ(r:Int × Int)=>rI r.2) V iL (.t<|.d R)<|.t<|.d R
 refine Zd<|T _<|aU<|mM R<|AE V λag w h7=>sQ R (DO R underlying9 iL iL λ_=>w)<|mA R<|aZ<|aT λX=>aU<|mM R<|lF oe YA R R<|xS R<|mM R<|vF ov YA R R<|vM R<|vQ R (B7 R (iR R)<|iR R)<|xO R<|aZ<|cI R h7 (λY=>?_) λY=>?_
 ·refine aT λZ=>aF [] ?_
  exact aR<|mA R<|mA R<|aZ<|Z _<|Zk<|Ct (P:=prog) (λ(r:Int × Int)=>.r<|.int .i32 r.1) (λ(r:Int × Int)=>rI r.2) Y iL (.t<|.d R)<|.t<|.d R
 refine Zd<|X _<|aT λa0=>aT λa1=>aF [0,5,8,10] ?_
 refine aR<|mM R<|sQ R (FJ R iL iL)<|aZ<|a1 _<|cI R Y (λh9=>?_) λh9=>?_
 ·exact aU<|mM R<|sQ R (F8 R iL iL)<|sQ R (Es R underlying5 underlying21 iL)<|sQ R (JA (b:=6) R iL iL)<|mM R<|sQ R (F8 R iL iL)<|sQ R (Es R underlying5 underlying21 iL)<|sQ R (J8 R iL iL)<|mA R<|mA R<|aZ<|Zk<|Ct (P:=prog) (λ(r:Int × Int)=>.r<|.int .i32 r.1) (λ(r:Int × Int)=>rI r.2) h9 iL (.t<|.d R)<|.t<|.d R
 refine Zd<|a0 _<|aU<|mM R<|AE h9 λah A a2=>sQ R (DO R underlying9 iL iL λ_=>A)<|mA R<|aZ<|aT λa6=>aU<|mM R<|xS R<|mM R<|vM R<|vQ R (B7 R iL<|iR R)<|xO R<|aZ<|cI R a2 (λl=>?_) λl=>?_
 ·refine aT λa7=>aF [] ?_
  exact aR<|mA R<|mA R<|aZ<|a7 _<|Zk<|Ct (P:=prog) (λ(r:Int × Int)=>.r<|.int .i32 r.1) (λ(r:Int × Int)=>rI r.2) l iL (.t<|.d R)<|.t<|.d R
 refine Zd<|a6 _<|aT λa8=>aT λaa=>aF [0,5,8,10,11] ?_
 refine aR<|mM R<|sQ R (FJ R iL iL)<|aZ<|aa _<|cI R l (λq=>?_) λq=>?_
 ·exact aU<|mM R<|sQ R (F8 R iL iL)<|sQ R (Es R underlying5 underlying21 iL)<|sQ R (JA (b:=12) R iL iL)<|mM R<|sQ R (F8 R iL iL)<|sQ R (Es R underlying5 underlying21 iL)<|sQ R (JA (b:=6) R iL iL)<|sQ R (J8 R iL iL)<|mM R<|sQ R (F8 R iL iL)<|sQ R (Es R underlying5 underlying21 iL)<|sQ R (J8 R iL iL)<|mA R<|mA R<|aZ<|Zk<|Ct (P:=prog) (λ(r:Int × Int)=>.r<|.int .i32 r.1) (λ(r:Int × Int)=>rI r.2) q iL (.t<|.d R)<|.t<|.d R
 refine Zd<|a8 _<|aU<|mM R<|AE q λai B ab=>sQ R (DO R underlying9 iL iL λ_=>B)<|mA R<|aZ<|aT λac=>aU<|mM R<|xS R<|mM R<|vM R<|vQ R (B7 R iL<|iR R)<|xO R<|aZ<|cI R ab (λu=>?_) λu=>?_
 ·refine aT λad=>aF [] ?_
  exact aR<|mA R<|mA R<|aZ<|ad _<|Zk<|Ct (P:=prog) (λ(r:Int × Int)=>.r<|.int .i32 r.1) (λ(r:Int × Int)=>rI r.2) u iL (.t<|.d R)<|.t<|.d R
 refine Zd<|ac _<|aT λae=>aF [5,10,11,12] ?_
 exact aR<|mM R<|sQ R (F8 R iL iL)<|sQ R (Es R underlying5 underlying21 iL)<|sQ R (JA (b:=18) R iL iL)<|mM R<|sQ R (F8 R iL iL)<|sQ R (Es R underlying5 underlying21 iL)<|sQ R (JA (b:=12) R iL iL)<|sQ R (J8 R iL iL)<|mM R<|sQ R (F8 R iL iL)<|sQ R (Es R underlying5 underlying21 iL)<|sQ R (JA (b:=6) R iL iL)<|sQ R (J8 R iL iL)<|mM R<|sQ R (F8 R iL iL)<|sQ R (Es R underlying5 underlying21 iL)<|sQ R (J8 R iL iL)<|mA R<|mA R<|aZ<|ae _<|Zk<|Ct (P:=prog) (λ(r:Int × Int)=>.r<|.int .i32 r.1) (λ(r:Int × Int)=>rI r.2) u iL (.t<|.d R)<|.t<|.d R
theorem sv{w r}(h:Qv w=some r):AO prog 54 [rS w] (.tup [.r<|.int .i32 r.1,rI r.2]):=by
 unfold Qv at h
 refine mF func54 ntmps54 R λM=>aU<|mA R<|mA R<|aZ<|aT λA=>aU<|mM R<|sQ R (D7 R iL iL)<|mM R<|vM R<|AE h λB j C=>vQ R (DO R underlying9 (iR R) iL<|AP j)<|vQ R (B7 R (iR R) iL)<|xN R<|aZ<|cI R C (λq=>?_) λq=>?_
 ·refine aT λE=>aF [0] ?_
  exact aR<|mM R<|AE q λF l I=>sQ R (DO R underlying9 iL iL λ_=>l)<|sQ R (Es R underlying5 underlying21 iL)<|mA R<|mA R<|aZ<|E _<|Zk<|Ct (P:=prog) (λ(r:Int × Int)=>.r<|.int .i32 r.1) (λ(r:Int × Int)=>rI r.2) I iL (.t<|.d R)<|.t<|.d R
 refine aF [0] ?_
 exact aR<|mM R<|D2 q λO T u J=>cL (mV<|u) R<|mM R<|xX R<|xX R<|mA R<|mA R<|aZ<|A _<|Zk<|Ct (P:=prog) (λ(r:Int × Int)=>.r<|.int .i32 r.1) (λ(r:Int × Int)=>rI r.2) J iL (.t<|.d R)<|.t<|.d R
theorem tf{O r}(h:QR O=some r):AO prog 216 [rS O] (rB r):=by
 unfold QR at h
 refine mF func216 ntmps216 R λX=>aU<|mA R<|aZ<|aS λY Z u=>Zf<|BJ h λo1 j w A=>?_
 have J1:∀(T:Unit) (U:NN),o1=.nrm T→Y ⟨[],[],(U 0),31⟩:=by
  intro T U e
  have h1:=w _ e
  exact Z _<|zB h1 R id
 refine ZC (λ(B:List UInt8) q=>⟨[(0,rS B)],[],(q 0),31⟩) (AH [X]) j wk ?_
 intro B q v1 C l
 have V:F3 B=some v1:=C;unfold F3 at V
 refine aT λc4=>aU<|mM R<|sQ R (D7 R iL iL)<|aZ<|cI R V (λE=>?_) λE=>?_
 ·refine Zd<|c4 _<|Zf<|aU<|mM R<|D2 E λr1 r2 F h4=>cL (sv<|F) R<|mM R<|xX R<|xX R<|mA R<|mA R<|aZ<|aT λc7=>aU<|mM R<|xQ R<|mM R<|vM R<|vQ R (Aw R (iR R) iL)<|xN R<|mM R<|vM R<|vQ R (Aw R (iR R) iL)<|xO R<|mM R<|vM R<|vQ R (Es R underlying21 underlying3<|iR R)<|AE h4 λr3 I h5=>vL (λhg=>Ym<|AP I hg) R<|vQ R (A3 R<|iR R)<|xO R<|aZ<|cI R h5 (λJ=>?_) λJ=>?_
  ·exact zB (A _<|xH l J) R id
  refine Zd<|c7 _<|aF [0,4] ?_
  refine aR<|mM R<|mM R<|AE J λs5 M h7=>?_
  refine sQ R (Pe R underlying9 iL (by exact⟨_,iL⟩) (by exact R) λ_=>M) ?_
  exact mA R<|Zi<|Zx h7 (AH [(q 0)]) wk
 exact Zn<|u _ _ wk<|J1 _ (AH [(q 0)])<|xH l E
theorem nK{j r}(h:PH j=some r):AO prog 217 (cO j) (rB r):=by
 unfold PH at h
 exact mF func217 ntmps217 R λl=>aU<|sS R (Az (cs:=(B6 j)) 1 R iL R R)<|mA R<|aZ<|aU<|lF Hp BG R R<|sQ R (CA R iL iL)<|mM R<|vF Fg AJ R R<|vQ R (Aw R (iR R) iL)<|xN R<|mM R<|vF Ht BE R R<|vQ R (Bq R Af.slice<|iR R)<|vQ R (Aw R (iR R) iL)<|xN R<|mA R<|aZ<|Zk<|yB h R
theorem dD{j r}(h:RF j=some r):AO prog 243 [rI j] (rB r):=by
 unfold RF at h
 exact mF func243 ntmps243 R λl=>aU<|mA R<|aZ<|aU<|mM R<|mM R<|xU R<|mA R<|aZ<|Zk<|yB h R
theorem TG{O T r}(h:KM O T=some r):AO prog 222 [rI O,rI T] (rI r):=by
 unfold KM at h
 refine mF func222 ntmps222 R λn0=>aU<|mA R<|aZ<|aU<|mM R<|AE h λq j U=>cL (dD<|j) R<|mA R<|aZ<|aU<|mM R<|AE U λu l V=>cL (dD<|l) R<|mA R<|aZ<|aT λX=>aU<|mM R<|aZ<|cI R V (λw=>?_) λw=>?_
 ·refine aT λY=>aT λZ=>aF [6] ?_
  refine aR<|mM R<|aZ<|Z _<|cI R w (λA=>?_) λA=>?_
  ·exact zI A R id
  exact Zd<|Y _<|zI A R id
 refine Zd<|X _<|aT λB=>aU<|mM R<|aZ<|cI R w (λC=>?_) λC=>?_
 ·exact zI C R id
 refine Zd<|B _<|aT λE=>aT λF=>aF [0,1] ?_
 refine aR<|mM R<|mM R<|xS R<|aZ<|F _<|cI R C (λI=>?_) λI=>?_
 ·exact zI I R id
 refine Zd<|E _<|aT λJ=>aU<|mM R<|mM R<|sQ R (BD R iL iL)<|aZ<|cI R I (λM=>?_) λM=>?_
 ·exact zI M R id
 exact Zd<|J _<|zI M R id
theorem fA{v r}(h:M3 v=some r):AO prog 221 [.r<|.sl<|v.map<|Ak .i64] (rI r):=by
 unfold M3 at h
 refine mF func221 ntmps221 R λV=>aU<|mA R<|aZ<|aU<|mA R<|aZ<|aS λX Y u=>aU<|mM R<|xL B8 R<|mM R<|aZ<|Zf<|BJ h λZ j w A=>?_
 have J1:∀(O:Unit) (T:NN),Z=.nrm O→X ⟨[(3,rI 0)],[],(T 0),18⟩:=by
  intro O T e
  have h1:=w _ e
  exact Y _<|aU<|mM R<|mA R<|aZ<|Zk<|yI h1 R
 refine ZC (λ(B:Int) q=>⟨[(3,rI 0),(6,.r<|.sl<|v.map<|Ak .i64),(7,rL v),(8,rI B)],[],(q 0),18⟩) (AH [V]) j wk ?_
 intro B q v1 C l
 have U:Eh v B=some v1:=C;unfold Eh at U
 refine aU<|xS R<|aZ<|aT λc7=>cI R U (λE=>?_) λE=>?_
 ·refine Zd<|c7 _<|aT λc8=>Zf<|aU<|AE E λx4 F h4=>xI B8 R F<|xV (.int .i64 x4) AJ R<|mA R<|aZ<|aU<|mM R<|mM R<|xU R<|aZ<|cI R h4 (λI=>?_) λI=>?_
  ·refine aT λJ=>aF [5] ?_
   exact aR<|mM R<|mA R<|aZ<|J _<|Zk<|yI (A _<|xH l I) R
  exact Zd<|c8 _<|aR<|AE I λx5 M h6=>xA R M<|mM R<|Zi<|Zx h6 (AH [(q 0)]) wk
 exact Zn<|u _ _ wk<|J1 _ (AH [(q 0)])<|xH l E
theorem ur{l q r}(h:L9 l q=some r):AO prog 218 [.agg<|B6 l,.agg<|B6 q] (rI r):=by
 unfold L9 at h
 refine mF func218 ntmps218 R λj=>aU<|sS R (Az (cs:=(B6 l)) 2 R iL R R)<|sS R (Az (cs:=(B6 q)) 3 R iL R R)<|mA R<|aZ<|aT λC=>AE h λu w E=>?_
 refine rP 9 [pO 5<|.ptr 2 j 0 0,pO 6<|rI l.Row,pO 7<|.ptr 3 (j+1) 0 0,pO 8<|rI q.Row,pO 9<|rI u,pO 10<|.ptr 2 j 0 1,pO 11<|rI l.Col,pO 12<|.ptr 3 (j+1) 0 1,pO 13<|rI q.Col] BF R (by exact⟨oB [(2,.ptr 2 j 0 0)] [(2,some<|.box j 140<|B6 l)]<|fB R GO (.inl R) (λ_=>R) R,oB [(5,.ptr 2 j 0 0)] [(2,some<|.box j 140<|B6 l)]<|AU (a:=rI l.Row) R AJ (.inl R) R R,oB [(3,.ptr 3 (j+1) 0 0)] [(3,some<|.box (j+1) 140<|B6 q)]<|fB R GO (.inl R) (λ_=>R) R,oB [(7,.ptr 3 (j+1) 0 0)] [(3,some<|.box (j+1) 140<|B6 q)]<|AU (a:=rI q.Row) R AJ (.inl R) R R,oD (λ_=>[(6,rI l.Row),(8,rI q.Row)]) (λ_=>[]) λF e O n=>EG (r:=rI u) (caps:=[]) (bs:=[rI l.Row,rI q.Row]) R (.inl R) R ⟨⟨_,(.inl R),.d R⟩,⟨_,(.inl R),.d R⟩,Za⟩ (λ_=>TG<|w) R,oB [(2,.ptr 2 j 0 0)] [(2,some<|.box j 140<|B6 l)]<|fB R HE (.inl R) (λ_=>R) R,oB [(10,.ptr 2 j 0 1)] [(2,some<|.box j 140<|B6 l)]<|AU (a:=rI l.Col) R AJ (.inl R) R R,oB [(3,.ptr 3 (j+1) 0 0)] [(3,some<|.box (j+1) 140<|B6 q)]<|fB R HE (.inl R) (λ_=>R) R,oB [(12,.ptr 3 (j+1) 0 1)] [(3,some<|.box (j+1) 140<|B6 q)]<|AU (a:=rI q.Col) R AJ (.inl R) R R,Za⟩) λF T=>?_
 refine BC [0,1,2,3,4,5,6,7,8,9,10,11,12,13] [2,3] ?_
 exact AE E λI A J=>cL (TG<|A) R<|sS R (Bm 15 R B8 (f:=(Ak .i64)) (l:=([u,I]:List Int)) ⟨R,⟨_,iL,R⟩,R,⟨_,iL,R⟩,Za⟩ R (λ_=>R) R)<|AE J λU B M=>cL (fA<|B) R<|mA R<|aZ<|C _<|Zk<|yI M R
theorem pK{C a c n r}(h:Q7 C a c n=some r):AO prog 195 [qe C,rI a,rI c,rB n] (rI r):=by
 unfold Q7 at h
 refine mF func195 ntmps195 R λn0=>aU<|mA R<|aZ<|aS λK2 c2 I=>aU<|mM R<|xL Cq R<|mM R<|aZ<|Zf<|BJ h λo1 E J l=>?_
 have J1:∀(u2:Unit) (i5:NN),o1=.nrm u2→K2 ⟨[],[],(i5 0),79⟩:=by
  intro u2 i5 e
  have h1:=J _ e
  exact c2 _<|zI h1 R id
 refine ZC (λ(M:Int) F=>⟨[(0,qe C),(1,rI a),(2,rI c),(3,rB n),(12,qe C),(13,rL C),(14,rI M)],[],(F 0),79⟩) (AH [n0]) E wk ?_
 intro M F v1 O j
 have h2:Rb C a c n M=some v1:=O;unfold Rb at h2
 refine aU<|xS R<|aZ<|aT λc6=>cI R h2 (λT=>?_) λT=>?_
 ·refine Zd<|c6 _<|aT λc7=>Zf<|aU<|mM R<|AE T λq U h4=>xI Cq R U<|xB ((B6 q)) Fv R<|sS R (BB (cs:=Mn) 10 R N3 R R)<|mA R<|Zj R R (Ac (ds:=(B6 q)) R MY iL R iL R R R R)<|aZ<|aT λc9=>Zf<|aU<|lF GO AJ R R<|xS R<|mM R<|vF GO AJ R R<|vM R<|vQ R (Cv R (iR R)<|iR R)<|xO R<|mM R<|vF HE AJ R R<|vQ R (B7 R (iR R) iL)<|xO R<|mM R<|vF HE AJ R R<|vM R<|vQ R (Cv R (iR R)<|iR R)<|xO R<|mA R<|aZ<|cI R h4 (λV=>?_) λV=>?_
  ·exact zI (l _<|xH j V) R id
  refine aT λX=>aG [0,1,2,3,9,10,12,13,14] [10] ?_
  refine aR<|lF Fg AJ R R<|xS R<|mM R<|vF Fg AJ R R<|vQ R (BD R (iR R) iL)<|xO R<|mA R<|aZ<|X _<|cI R V (λY=>?_) λY=>?_
  ·exact zI (l _<|xH j Y) R id
  refine aU<|lF Hp BG R R<|AE Y λr1 Z h7=>cL (tf<|Z) R<|sQ R (A3 R iL)<|mA R<|aZ<|cI R h7 (λh8=>?_) λh8=>?_
  ·exact zI (l _<|xH j h8) R id
  refine Zd<|c9 _<|aT λa0=>aT λa1=>aG [0,1,2,3,9,10,12,13,14] [10] ?_
  refine aR<|lF Ht BE R R<|AE h8 λe1 a2 h9=>cL (Si<|a2) R<|mA R<|aZ<|a1 _<|aU<|mM R<|xU R<|aZ<|cI R h9 (λu=>?_) λu=>?_
  ·refine aT λa6=>aF [11] ?_
   exact aR<|mM R<|mA R<|aZ<|a6 _<|Zk<|yI (l _<|xH j u) R
  refine Zd<|a0 _<|aT λa7=>aU<|xC Fv R<|AE u λr2 a8 aa=>cL (nK<|a8) R<|mM R<|vM R<|vQ R (A3 R<|iR R)<|xN R<|aZ<|cI R aa (λw=>?_) λw=>?_
  ·exact zI (l _<|xH j w) R id
  refine Zd<|a7 _<|aT λab=>aG [0,1,2,3,9,10,12,13,14] [10] ?_
  refine ZB BF (by kernel_rfl) ?_
  refine qP R (AK R iL)<|qP R (BD R iL iL)<|qP R (AK R iL)<|qO R (AK R iL)<|qO R (AK R iL)<|AE w λx5 ac ad=>qO R (B5 R (iR R) iL<|AP ac)<|AE ad λA ae af=>qO R (At R Cq.slice (iR R) (iR R) (λ_=>R)<|AP ae)<|qO R (CV (cs:=(B6 A)) R Fv (iR R) R R)<|qO R (D5 R Fv iL R R)<|AE af λr3 ag ah=>He (.one R R R) R R (r:=rI r3) (caps:=[]) (bs:=[.agg<|B6 A,.agg<|B6 q]) R iL R ⟨⟨_,(iR R),.g (cs:=[.int .i64 A.Row,.int .i64 A.Col,.str A.Text,.int .i64 A.Ref,.sl<|A.Attrs.map AC.row]) R R⟩,⟨_,(iR R),.g (cs:=[.int .i64 q.Row,.int .i64 q.Col,.str q.Text,.int .i64 q.Ref,.sl<|q.Attrs.map AC.row]) R R⟩,Za⟩ (λhg=>ur<|AP ag hg) R<|qO R (Cv R (iR R) iL)<|qP R (BQ R iL<|iR R)<|AQ.nil<|ab _<|cI R ah (λB=>?_) λB=>?_
  ·exact zI (l _<|xH j B) R id
  exact Zd<|c7 _<|aR<|AE B λx7 ai aj=>xA R ai<|mM R<|Zi<|Zx aj (AH [((F 0)+1)]) wk
 exact Zn<|I _ _ wk<|J1 _ (AH [(F 0)])<|xH j T
theorem ui{j a c r}(h:O3 j a c=some r):AO prog 196 [.agg<|BW j,rI a,rI c] (rB r):=by
 unfold O3 at h
 refine mF func196 ntmps196 R λA=>aU<|sS R (Az (cs:=(BW j)) 3 R iL R R)<|mA R<|aZ<|aU<|lF EC AJ R R<|sQ R (Cv R iL iL)<|mM R<|vF FD AJ R R<|vQ R (Cv R (iR R) iL)<|xN R<|mM R<|vF H6 AJ R R<|vQ R (Cv R (iR R) iL)<|xN R<|mM R<|vF IE AJ R R<|vQ R (Cv R (iR R) iL)<|xN R<|mM R<|vF EC AJ R R<|vM R<|vQ R (B7 R (iR R)<|iR R)<|xN R<|mM R<|vF FD AJ R R<|vM R<|vQ R (B7 R (iR R)<|iR R)<|xN R<|mM R<|vF H6 AJ R R<|vM R<|vF EC AJ R R<|AE h λB l u=>vQ R (B5 R (iR R) (iR R)<|AP l)<|vQ R (FJ R (iR R)<|iR R)<|xN R<|mM R<|vF IE AJ R R<|vM R<|vF FD AJ R R<|AE u λC q w=>vQ R (B5 R (iR R) (iR R)<|AP q)<|vQ R (FJ R (iR R)<|iR R)<|xN R<|mA R<|aZ ?_
 exact Zk<|yB w R
theorem kD{j l r}(h:Qg j l=some r):AO prog 197 [.agg<|BW j,.agg<|BW l] (rB r):=by
 unfold Qg at h
 exact mF func197 ntmps197 R λq=>aU<|sS R (Az (cs:=(BW j)) 2 R iL R R)<|sS R (Az (cs:=(BW l)) 3 R iL R R)<|mA R<|aZ<|aU<|lF EC AJ R R<|lF EC AJ R R<|xS R<|mM R<|vF EC AJ R R<|vF EC AJ R R<|vQ R (Aw R (iR R)<|iR R)<|vQ R (AK R<|iR R)<|wQ R (fB R FD iL fR R)<|wQ R (AU (a:=rI j.Col) R AJ (iR R) R R)<|wQ R (fB R FD iL fR R)<|wQ R (AU (a:=rI l.Col) R AJ (iR R) R R)<|wQ R (B7 R (iR R)<|iR R)<|vQ R (BQ R (iR R)<|iR R)<|xO R<|mA R<|aZ<|Zk<|yB h R
theorem mC{j l r}(h:Oh j l=some r):AO prog 200 [.agg<|BW j,.agg<|BW l] (rB r):=by
 unfold Oh at h
 exact mF func200 ntmps200 R λI=>aU<|sS R (Az (cs:=(BW j)) 2 R iL R R)<|sS R (Az (cs:=(BW l)) 3 R iL R R)<|mA R<|aZ<|aU<|lF EC AJ R R<|lF EC AJ R R<|lF H6 AJ R R<|AE h λJ q B=>xA R q<|xS R<|mM R<|vF EC AJ R R<|vF EC AJ R R<|vF H6 AJ R R<|AE B λM u C=>vQ R (Gj R (iR R) (iR R)<|AP u)<|vQ R (B7 R (iR R)<|iR R)<|xN R<|mM R<|vF FD AJ R R<|vF FD AJ R R<|vF IE AJ R R<|AE C λO w E=>vQ R (Gj R (iR R) (iR R)<|AP w)<|vQ R (B7 R (iR R)<|iR R)<|xN R<|mM R<|vF FD AJ R R<|vF FD AJ R R<|vF IE AJ R R<|AE E λT A F=>vQ R (Gj R (iR R) (iR R)<|AP A)<|vQ R (B7 R (iR R)<|iR R)<|xN R<|mA R<|aZ<|Zk<|yB F R
theorem kB{l:Ax}{q:Ax}{r:Bool}{j:Nat}(h:SO l q=some r):Bf prog 199 1 [.agg<|BW q,.ptr 1000 j 0 0] [(1000,some<|.box j 211<|BW l)] (λu h'=>∃(i:Nat→Nat),u=rB r∧h'=[(1000,some<|.box j 211<|BW l)]):=by
 unfold SO at h
 refine EI func199 R R ntmps199 (Zz R) λB=>aU<|sS R (Az (cs:=(BW q)) 2 R iL R R)<|mA R<|aZ<|aU<|xC FB R<|xC FB R<|AE h λA w C=>cL (mC<|w) R<|mA R<|aZ ?_
 exact Zk<|CM.mk (s':=⟨[(3,rB A)],[(1000,some<|.box j 211<|BW l)],(B+1),7⟩) wk<|Ck (λ(r:Bool) u h'=>∃(i:Nat→Nat),u=rB r∧h'=[(1000,some<|.box j 211<|BW l)]) C<|by exact⟨rB A,[(1000,some<|.box j 211<|BW l)],R,⟨.inr R,Za⟩,R,R,AH [],R,R⟩
theorem vB{l:Ax}{q:List Ax}{r:Int}{j:Nat}(h:R3 l q=some r):Bf prog 219 1 [qc q,.fn 199 [.ptr 1000 j 0 0]] [(1000,some<|.box j 211<|BW l)] (λu h'=>∃(i:Nat→Nat),u=rI r∧h'=[(1000,some<|.box j 211<|BW l)]):=by
 unfold R3 at h
 refine EI func219 R R ntmps219 (Zz R) λn0=>aU<|mA R<|aZ<|aS λK2 c2 C=>aU<|mM R<|xL Cs R<|mM R<|aZ<|Zf<|BJ h λo1 w E F=>?_
 have J1:∀(Z:Unit) (I:NN),o1=.nrm Z→K2 ⟨[],[(1000,some<|.box j 211<|BW l)],(I 0),19⟩:=by
  intro Z I e
  have h1:=E _ e
  refine c2 _<|aU<|mA R<|aZ ?_
  exact Zk<|CM.mk (s':=⟨[(4,rI<|(-1))],[(1000,some<|.box j 211<|BW l)],(I 0),19⟩) wk<|Ck (λ(r:Int) u h'=>∃(i:Nat→Nat),u=rI r∧h'=[(1000,some<|.box j 211<|BW l)]) h1<|by exact⟨rI<|(-1),[(1000,some<|.box j 211<|BW l)],R,⟨.inr R,Za⟩,R,R,AH [],R,R⟩
 refine ZC (λ(A:Int) J=>⟨[(0,qc q),(1,.fn 199 [.ptr 1000 j 0 0]),(7,rL q),(8,rI A)],[(1000,some<|.box j 211<|BW l)],(J 0),19⟩) (AH [n0]) w wk ?_
 intro A J v1 M B
 have h2:Ou l q A=some v1:=M;unfold Ou at h2
 refine aU<|xS R<|aZ<|aT λc6=>cI R h2 (λO=>?_) λO=>?_
 ·refine Zd<|c6 _<|aT λc7=>Zf<|aU<|mM R<|mA R<|aZ<|aT λc9=>aR<|mM R<|mM R<|mM R<|AE O λx4 T h4=>xI Cs R T<|xB ((BW x4)) FB R<|AE h4 λr1 U h5=>?_
  refine Zq [1000] (hc:=[(1000,some<|.box j 211<|BW l)]) (bs:=[.agg<|BW x4]) (caps:=[.ptr 1000 j 0 0]) R R R R iL R ⟨.inl ⟨iL,R⟩,Za⟩ ⟨R,R,R,Za⟩ (by decide) (kB U) ?_
  intro i6 n1
  refine BC [0,1,5,7,8,9,10,11,12,13,14,15,16] [1000] ?_
  refine aZ<|c9 _<|cI R h5 (λV=>?_) λV=>?_
  ·refine aT λX=>aG [5] [1000] ?_
   refine aR<|mM R<|mA R<|oZ X ?_
   exact Zk<|CM.mk (s':=⟨[(4,rI A)],[(1000,some<|.box j 211<|BW l)],n1,19⟩) wk<|Ck (λ(r:Int) u h'=>∃(i:Nat→Nat),u=rI r∧h'=[(1000,some<|.box j 211<|BW l)]) (F _<|xH B V)<|by exact⟨rI A,[(1000,some<|.box j 211<|BW l)],R,⟨.inr R,Za⟩,R,R,AH [],R,R⟩
  refine Zd<|c7 _<|aG [0,1,7,8] [1000] ?_
  exact aR<|AE V λx5 Y h7=>xA R Y<|mM R<|Zi<|Zx h7 (AH [n1]) wk
 exact Zn<|C _ _ wk<|J1 _ (AH [(J 0)])<|xH B O
theorem rc{l:Ax}{q:List Ax}{r:Bool}{j:Nat}(h:Mt l q=some r):Bf prog 198 1 [qc q,.fn 199 [.ptr 1000 j 0 0]] [(1000,some<|.box j 211<|BW l)] (λu h'=>∃(i:Nat→Nat),u=rB r∧h'=[(1000,some<|.box j 211<|BW l)]):=by
 unfold Mt at h
 refine EI func198 R R ntmps198 (Zz R) λF=>aU<|mA R<|aZ<|aT λB=>aR<|mM R<|mM R<|AE h λA w C=>?_
 refine Zq [1000] (hc:=[(1000,some<|.box j 211<|BW l)]) (bs:=[qc q,.fn 199 [.ptr 1000 j 0 0]]) (caps:=[]) R R R R iL R ⟨.inl ⟨iL,R⟩,.inl ⟨iL,R⟩,Za⟩ ⟨R,R,R,Za⟩ (by decide) (vB w) ?_
 intro I E
 refine BC [0,1,4,5,6,7] [1000] ?_
 refine sQ R (Cv R iL iL)<|mA R<|oZ B ?_
 exact Zk<|CM.mk (s':=⟨[(4,rB<|(decide<|0≤A))],[(1000,some<|.box j 211<|BW l)],E,9⟩) wk<|Ck (λ(r:Bool) u h'=>∃(i:Nat→Nat),u=rB r∧h'=[(1000,some<|.box j 211<|BW l)]) C<|by exact⟨rB<|(decide<|0≤A),[(1000,some<|.box j 211<|BW l)],R,⟨.inr R,Za⟩,R,R,AH [],R,R⟩
theorem nV{q r}(h:LA q=some r):AO prog 171 (W4 q) (rI r):=by
 unfold LA at h
 refine mF func171 ntmps171 R λI=>aU<|sS R (Az (cs:=(Dh q)) 1 R iL R R)<|mA R<|aZ<|aT λc2=>aU<|lF Gg AJ R R<|xS R<|mM R<|vF Gg AJ R R<|vQ R (BD R (iR R) iL)<|xO R<|mM R<|vF Gh AJ R R<|vQ R (B7 R (iR R) iL)<|xO R<|mM R<|vF Gh AJ R R<|vQ R (BD R (iR R) iL)<|xO R<|aZ<|cI R h (λJ=>?_) λJ=>?_
 ·exact zI J R id
 refine Zd<|c2 _<|aT λc5=>aT λc6=>aG [1] [1] ?_
 refine aR<|lF GK E0 R R<|lF Gg AJ R R<|lF Gh AJ R R<|AE J λe1 M h2=>cL (pK<|M) R<|mA R<|aZ<|c6 _<|aU<|mM R<|xU R<|aZ<|cI R h2 (λO=>?_) λO=>?_
 ·refine aT λc8=>aF [3] ?_
  exact aR<|mM R<|mA R<|aZ<|c8 _<|Zk<|yI O R
 refine Zd<|c5 _<|aS λK9 c9 T=>aT λU=>aG [1] [1] ?_
 refine aR<|lF Fs DQ R R<|xL Cs R<|mM R<|aZ<|U _<|Zf<|BJ O λo1 F V l=>?_
 have J1:∀(u2:Unit) (i5:NN),o1=.nrm u2→K9 ⟨[],[],(i5 0),81⟩:=by
  intro u2 i5 e
  have h4:=V _ e
  exact c9 _<|zI h4 R id
 refine ZC (λ(X:Int) C=>⟨[(1,.ptr 1 I 0 0),(35,qc q.Merges),(36,rL q.Merges),(37,rI X)],[(1,some<|.box I 43<|Dh q)],(C 0),81⟩) (AH [(I+1)]) F wk ?_
 intro X C v1 Y j
 have h5:OO q X=some v1:=Y;unfold OO at h5
 refine aU<|xS R<|aZ<|aT λZ=>cI R h5 (λh6=>?_) λh6=>?_
 ·refine Zd<|Z _<|aT λa0=>Zf<|aU<|mM R<|AE h6 λu a1 h7=>xI Cs R a1<|xB ((BW u)) FB R<|sS R (BB (cs:=[rI 0,rI 0,rI 0,rI 0]) 5 R cQ R R)<|mA R<|Zj R R (Ac (ds:=(BW u)) R eg iL R iL R R R R)<|aZ<|Zf<|aU<|xC FB R<|lF Gg AJ R R<|lF Gh AJ R R<|AE h7 λr1 a2 h8=>cL (ui<|a2) R<|sQ R (A3 R iL)<|mA R<|aZ<|cI R h8 (λh9=>?_) λh9=>?_
  ·exact zI (l _<|xH j h9) R id
  refine aT λa6=>aG [1,4,5,35,36,37] [1,5] ?_
  refine aR<|lF H6 AJ R R<|xQ R<|mM R<|vF IE AJ R R<|vQ R (Aw R (iR R) iL)<|xN R<|mA R<|aZ<|a6 _<|cI R h9 (λw=>?_) λw=>?_
  ·exact zI (l _<|xH j w) R id
  refine aT λa7=>?_
  refine ZB BF (by kernel_rfl) ?_
  refine qP R (AK R iL)<|qP R (BD R iL iL)<|qP R (AK R iL)<|qO R (fB R Fs iL fR R)<|qO R (AU (a:=qc q.Merges) R DQ (iR R) R R)<|qO R (AK R iL)<|AE w λx5 a8 aa=>qO R (B5 R (iR R) iL<|AP a8)<|AE aa λE ab ac=>qO R (At R Cs.slice (iR R) (iR R) (λ_=>R)<|AP ab)<|qO R (CV (cs:=(BW E)) R FB (iR R) R R)<|qO R (D5 R FB iL R R)<|AE ac λr2 ad ae=>He (.one R R R) R R (r:=rB r2) (caps:=[]) (bs:=[.agg<|BW E,.agg<|BW u]) R iL R ⟨⟨_,(iR R),.g (cs:=[.int .i64 E.Row,.int .i64 E.Col,.int .i64 E.H,.int .i64 E.W]) R R⟩,⟨_,(iR R),.g (cs:=[.int .i64 u.Row,.int .i64 u.Col,.int .i64 u.H,.int .i64 u.W]) R R⟩,Za⟩ (λhg=>kD<|AP ad hg) R<|qO R (A3 R<|iR R)<|qP R (BQ R iL<|iR R)<|qP R (DU R iL)<|AQ.nil<|a7 _<|cI R ae (λA=>?_) λA=>?_
  ·exact zI (l _<|xH j A) R id
  refine aT λaf=>aG [1,4,5,35,36,37] [1,5] ?_
  refine aR<|lF Fs DQ R R<|mM R<|AE A λl1 ag ah=>?_
  refine sQ R (Qr R Cs.slice iL (by exact R) (by exact⟨_,iL⟩) (λ_=>R) λ_=>ag) ?_
  refine sQ R (RD (bs:=[.ptr 5 (C 0) 0 0]) R<|by exact⟨iL,Za⟩) ?_
  refine AE ah λr3 ai aj=>?_
  refine Zq [5] (hc:=[(1000,some<|.box (C 0) 211<|BW u)]) (bs:=[qc l1,.fn 199 [.ptr 1000 (C 0) 0 0]]) (caps:=[]) R R R R iL R ⟨.inl ⟨iL,R⟩,.inl ⟨iL,R⟩,Za⟩ ⟨R,R,R,Za⟩ (by decide) (rc ai) ?_
  intro i6 n1
  refine BC [1,4,5,35,36,37,74,75,76,77,78,79] [1,5] ?_
  refine mA R<|aZ<|af _<|cI R aj (λB=>?_) λB=>?_
  ·exact zI (l _<|xH j B) R id
  refine Zd<|a0 _<|aG [1,35,36,37] [1] ?_
  exact aR<|AE B λx7 ak al=>xA R ak<|mM R<|Zi<|Zx al (AH [n1]) wk
 exact Zn<|T _ _ wk<|J1 _ (AH [(C 0)])<|xH j h6
theorem pC{k j r}(h:Qf k j=some r):AO prog 172 [rI k,qe j] (rI r):=by
 unfold Qf at h
 refine mF func172 ntmps172 R λX=>aU<|mA R<|aZ<|aS λY Z A=>aU<|mM R<|xL Cq R<|mM R<|aZ<|Zf<|BJ h λo1 l B C=>?_
 have J1:∀(T:Unit) (U:NN),o1=.nrm T→Y ⟨[],[],(U 0),36⟩:=by
  intro T U e
  have h1:=B _ e
  exact Z _<|zI h1 R id
 refine ZC (λ(E:Int) u=>⟨[(0,rI k),(7,qe j),(8,rL j),(9,rI E)],[],(u 0),36⟩) (AH [X]) l wk ?_
 intro E u v1 F q
 have V:Qp k j E=some v1:=F;unfold Qp at V
 refine aU<|xS R<|aZ<|aT λc6=>cI R V (λI=>?_) λI=>?_
 ·refine Zd<|c6 _<|aT λc7=>Zf<|aU<|AE I λw J h4=>xI Cq R J<|xB ((B6 w)) Fv R<|sS R (BB (cs:=Mn) 6 R N3 R R)<|Zj R R (Ac (ds:=(B6 w)) R MY iL R iL R R R R)<|aZ<|aU<|mM R<|xQ R<|mM R<|vF Hp BG R R<|vQ R (D7 R (iR R) iL)<|vQ R (AK R<|iR R)<|wQ R (fB R Ht iL fR R)<|wQ R (AU (a:=qa w.Attrs) R BE (iR R) R R)<|wQ R (Bq R Af.slice<|iR R)<|wQ R (BD R (iR R) iL)<|vQ R (CB R (iR R)<|iR R)<|xN R<|mM R<|vM R<|vQ R (Aw R (iR R) iL)<|vQ R (AK R<|iR R)<|wQ R (fB R Fg iL fR R)<|wQ R (AU (a:=rI w.Ref) R AJ (iR R) R R)<|wQ R (Cc R (iR R) iL)<|vQ R (BQ R (iR R)<|iR R)<|xO R<|aZ<|cI R h4 (λM=>?_) λM=>?_
  ·exact zI (C _<|xH q M) R id
  refine Zd<|c7 _<|aF [0,7,8,9] ?_
  exact aR<|AE M λx5 O h6=>xA R O<|mM R<|Zi<|Zx h6 (AH [((u 0)+1)]) wk
 exact Zn<|A _ _ wk<|J1 _ (AH [(u 0)])<|xH q I
theorem uT{l r}(h:QQ l=some r):AO prog 220 [rS l] (rB r):=by
 unfold QQ at h
 refine mF func220 ntmps220 R λn0=>aU<|mA R<|aZ<|aT λc2=>aU<|mM R<|sQ R (CA R iL iL)<|mM R<|vM R<|vQ R (Dl R underlying9<|iR R)<|vQ R (BD R (iR R) iL)<|xO R<|mM R<|vM R<|vM R<|vQ R (Dl R underlying9<|iR R)<|AE h λx1 B h1=>vQ R (B5 R (iR R) iL<|AP B)<|AE h1 λa0 q h2=>vQ R (DO R underlying9 (iR R) (iR R)<|AP q)<|vQ R (Aw R (iR R) iL)<|xO R<|aZ<|cI R h2 (λC=>?_) λC=>?_
 ·exact zB C R id
 refine Zd<|c2 _<|aS λK5 c5 E=>aT λc6=>aF [0] ?_
 refine aR<|mM R<|sQ R (Dl R underlying9 iL)<|mM R<|aZ<|c6 _<|Zf<|BJ C λo1 u F I=>?_
 have J1:∀(X:Unit) (Y:NN),o1=.nrm X→K5 ⟨[],[],(Y 0),35⟩:=by
  intro X Y e
  have h4:=F _ e
  exact c5 _<|zB h4 R id
 refine ZC (λ(J:Int) A=>⟨[(0,rS l),(20,rL l),(21,rI J)],[],(A 0),35⟩) (AH [n0]) u wk ?_
 intro J A v1 M w
 have Z:UD l J=some v1:=M;unfold UD at Z
 refine aU<|xS R<|aZ<|aT λc9=>cI R Z (λO=>?_) λO=>?_
 ·refine Zd<|c9 _<|aT λT=>Zf<|aU<|mM R<|mA R<|aZ<|aU<|mM R<|mM R<|AE O λa1 j h7=>sQ R (DO R underlying9 iL iL λ_=>j)<|xS R<|mM R<|vM R<|vM R<|vQ R (DO R underlying9 (iR R) (iR R) λ_=>j)<|vQ R (BD R (iR R) iL)<|xO R<|aZ<|cI R h7 (λU=>?_) λU=>?_
  ·exact zB (I _<|xH w U) R id
  refine Zd<|T _<|aF [0,20,21] ?_
  exact aR<|AE U λx5 V h9=>xA R V<|mM R<|Zi<|Zx h9 (AH [(A 0)]) wk
 exact Zn<|E _ _ wk<|J1 _ (AH [(A 0)])<|xH w O
theorem rx{j r}(h:RS j=some r):AO prog 201 (pL j) (rI r):=by
 unfold RS at h
 refine mF func201 ntmps201 R λC=>aU<|sS R (Az (cs:=(Cm j)) 1 R iL R R)<|mA R<|aZ<|aT λc2=>Zf<|aU<|lF HJ AJ R R<|xU R<|mM R<|vF HJ AJ R R<|vQ R (Cc R (iR R) iL)<|xN R<|mA R<|aZ<|cI R h (λM=>?_) λM=>?_
 ·exact zI M R id
 refine aT λc5=>aG [1] [1] ?_
 refine aR<|lF Ih AJ R R<|xS R<|mM R<|vF Ih AJ R R<|vQ R (BD R (iR R) iL)<|xO R<|mM R<|vF LO AJ R R<|vQ R (B7 R (iR R) iL)<|xO R<|mM R<|vF LO AJ R R<|vQ R (BD R (iR R) iL)<|xO R<|mM R<|vF Xo AJ R R<|vQ R (B7 R (iR R) iL)<|xO R<|mM R<|vF Xo AJ R R<|vQ R (BD R (iR R) iL)<|xO R<|mA R<|aZ<|c5 _<|cI R M (λO=>?_) λO=>?_
 ·exact zI O R id
 refine aS λK7 c7 E=>aT λc8=>aG [1] [1] ?_
 refine aR<|lF HJ AJ R R<|xQ R<|mM R<|vF UQ BG R R<|vQ R (D7 R (iR R) iL)<|vQ R (AK R<|iR R)<|wQ R (fB R M4 iL fR R)<|wQ R (AU (a:=rS j.Value) R BG (iR R) R R)<|wQ R (D7 R (iR R) iL)<|vQ R (CB R (iR R)<|iR R)<|xN R<|mA R<|aZ<|c8 _<|BA O λp1 F T=>?_
 have J1:∀(U:Bool) (J:NN),p1=U→K7 ⟨[(1,.ptr 1 C 0 0),(41,rB U)],[(1,some<|.box C 176<|Cm j)],(J 0),116⟩:=by
  intro U J e
  have h3:=T _ e
  refine c7 _<|cI R h3 (λV=>?_) λV=>?_
  ·exact zI V R id
  refine aU<|lF HJ AJ R R<|xQ R<|mM R<|vF Q0 AJ R R<|vQ R (B7 R (iR R) iL)<|vQ R (AK R<|iR R)<|wQ R (fB R Q0 iL fR R)<|wQ R (AU (a:=rI j.Parent) R AJ (iR R) R R)<|wQ R (BD R (iR R) iL)<|vQ R (CB R (iR R)<|iR R)<|xN R<|mA R<|aZ<|cI R V (λX=>?_) λX=>?_
  ·exact zI X R id
  refine aS λY Z l=>aT λa0=>aG [1] [1] ?_
  refine aR<|lF HJ AJ R R<|xQ R<|mM R<|vF Ro BG R R<|AE X λr1 a1 h6=>vL (λhg=>uT<|AP a1 hg) R<|vQ R (A3 R<|iR R)<|xN R<|mA R<|aZ<|a0 _<|BA h6 λp2 I a2=>?_
  have J2:∀(x2:Bool) (i2:NN),p2=x2→Y ⟨[(1,.ptr 1 C 0 0),(82,rB x2)],[(1,some<|.box C 176<|Cm j)],(i2 0),116⟩:=by
   intro x2 i2 e
   have h7:=a2 _ e
   refine Z _<|cI R h7 (λh8=>?_) λh8=>?_
   ·exact zI h8 R id
   refine aU<|lF HJ AJ R R<|xQ R<|mM R<|vF M4 BG R R<|vQ R (D7 R (iR R) iL)<|xN R<|mM R<|vF M4 BG R R<|AE h8 λr2 a6 h9=>vL (λhg=>Xw<|AP a6 hg) R<|vQ R (A3 R<|iR R)<|xN R<|mA R<|aZ<|cI R h9 (λq=>?_) λq=>?_
   ·exact zI q R id
   exact Zd<|c2 _<|zI q R id
  refine aC R (λu=>?_) λu=>?_
  ·have w:=Bk u I
   exact Zd<|l _ _ wk<|J2 _ (AH [(J 0)]) (Zb w).symm
  ·have w:=Bn u I
   refine aG [1] [1] ?_
   exact aR<|lF HJ AJ R R<|xQ R<|mM R<|vF UQ BG R R<|AE w λr3 a7 a8=>vL (λhg=>ex<|AP a7 hg) R<|vQ R (A3 R<|iR R)<|xN R<|mA R<|Zi<|l _ _ wk<|J2 _ (AH [(J 0)]) (Zb a8).symm
 refine aC R (λA=>?_) λA=>?_
 ·have B:=Bk A F
  exact Zd<|E _ _ wk<|J1 _ (AH [(C+1)]) (Zb B).symm
 ·have B:=Bn A F
  refine aG [1] [1] ?_
  exact aR<|lF HJ AJ R R<|xQ R<|mM R<|vF Q0 AJ R R<|vQ R (Cc R (iR R) iL)<|vQ R (AK R<|iR R)<|wQ R (fB R Ro iL fR R)<|wQ R (AU (a:=rS j.Place) R BG (iR R) R R)<|wQ R (D7 R (iR R) iL)<|vQ R (CB R (iR R)<|iR R)<|xN R<|mA R<|Zi<|E _ _ wk<|J1 _ (AH [(C+1)]) (Zb B).symm
theorem sE{l q r}(h:Oi l q=some r):AO prog 202 [.agg<|Cm l,.agg<|Cm q] (rI r):=by
 unfold Oi at h
 refine mF func202 ntmps202 R λj=>aU<|sS R (Az (cs:=(Cm l)) 2 R iL R R)<|sS R (Az (cs:=(Cm q)) 3 R iL R R)<|mA R<|aZ<|aT λC=>AE h λu w E=>?_
 refine rP 9 [pO 5<|.ptr 2 j 0 0,pO 6<|rI l.Clock,pO 7<|.ptr 3 (j+1) 0 0,pO 8<|rI q.Clock,pO 9<|rI u,pO 10<|.ptr 2 j 0 1,pO 11<|rI l.Site,pO 12<|.ptr 3 (j+1) 0 1,pO 13<|rI q.Site] BF R (by exact⟨oB [(2,.ptr 2 j 0 0)] [(2,some<|.box j 176<|Cm l)]<|fB R Ih (.inl R) (λ_=>R) R,oB [(5,.ptr 2 j 0 0)] [(2,some<|.box j 176<|Cm l)]<|AU (a:=rI l.Clock) R AJ (.inl R) R R,oB [(3,.ptr 3 (j+1) 0 0)] [(3,some<|.box (j+1) 176<|Cm q)]<|fB R Ih (.inl R) (λ_=>R) R,oB [(7,.ptr 3 (j+1) 0 0)] [(3,some<|.box (j+1) 176<|Cm q)]<|AU (a:=rI q.Clock) R AJ (.inl R) R R,oD (λ_=>[(6,rI l.Clock),(8,rI q.Clock)]) (λ_=>[]) λF e O n=>EG (r:=rI u) (caps:=[]) (bs:=[rI l.Clock,rI q.Clock]) R (.inl R) R ⟨⟨_,(.inl R),.d R⟩,⟨_,(.inl R),.d R⟩,Za⟩ (λ_=>TG<|w) R,oB [(2,.ptr 2 j 0 0)] [(2,some<|.box j 176<|Cm l)]<|fB R LO (.inl R) (λ_=>R) R,oB [(10,.ptr 2 j 0 1)] [(2,some<|.box j 176<|Cm l)]<|AU (a:=rI l.Site) R AJ (.inl R) R R,oB [(3,.ptr 3 (j+1) 0 0)] [(3,some<|.box (j+1) 176<|Cm q)]<|fB R LO (.inl R) (λ_=>R) R,oB [(12,.ptr 3 (j+1) 0 1)] [(3,some<|.box (j+1) 176<|Cm q)]<|AU (a:=rI q.Site) R AJ (.inl R) R R,Za⟩) λF T=>?_
 refine BC [0,1,2,3,4,5,6,7,8,9,10,11,12,13] [2,3] ?_
 exact AE E λI A J=>cL (TG<|A) R<|sS R (Bm 15 R B8 (f:=(Ak .i64)) (l:=([u,I]:List Int)) ⟨R,⟨_,iL,R⟩,R,⟨_,iL,R⟩,Za⟩ R (λ_=>R) R)<|AE J λU B M=>cL (fA<|B) R<|mA R<|aZ<|C _<|Zk<|yI M R
theorem lM{w r}(h:MF w=some r):AO prog 173 [qf w] (rI r):=by
 unfold MF at h
 refine mF func173 ntmps173 R λn0=>aU<|mA R<|aZ<|aS λK2 c2 E=>aU<|mM R<|xL FW R<|mM R<|aZ<|Zf<|BJ h λo1 A F B=>?_
 have J1:∀(u2:Unit) (i5:NN),o1=.nrm u2→K2 ⟨[],[],(i5 0),31⟩:=by
  intro u2 i5 e
  have h1:=F _ e
  exact c2 _<|zI h1 R id
 refine ZC (λ(I:Int) C=>⟨[(0,qf w),(6,qf w),(7,rL w),(8,rI I)],[],(C 0),31⟩) (AH [n0]) A wk ?_
 intro I C v1 J q
 have h2:Od w I=some v1:=J;unfold Od at h2
 refine aU<|xS R<|aZ<|aT λc6=>cI R h2 (λM=>?_) λM=>?_
 ·refine Zd<|c6 _<|aT λc7=>Zf<|aU<|mM R<|AE M λj O h4=>xI FW R O<|xB ((Cm j)) Ic R<|sS R (BB (cs:=[rI 0,rI 0,rI 0,rI 0,rI 0,.r<|.str [],.r<|.str [],.r<|.str []]) 4 R fW R R)<|mA R<|Zj R R (Ac (ds:=(Cm j)) R fV iL R iL R R R R)<|aZ<|aT λc9=>aU<|xC Ic R<|AE h4 λe1 T h5=>cL (rx<|T) R<|mA R<|aZ<|aU<|mM R<|xU R<|aZ<|cI R h5 (λU=>?_) λU=>?_
  ·refine aT λV=>aF [5] ?_
   exact aR<|mM R<|mA R<|aZ<|V _<|Zk<|yI (B _<|xH q U) R
  refine Zd<|c9 _<|aT λX=>aG [0,3,4,6,7,8] [4] ?_
  refine ZB BF (by kernel_rfl) ?_
  refine qP R (AK R iL)<|qP R (BD R iL iL)<|qP R (AK R iL)<|qO R (AK R iL)<|qO R (AK R iL)<|AE U λx5 Y h7=>qO R (B5 R (iR R) iL<|AP Y)<|AE h7 λl Z h8=>qO R (At R FW.slice (iR R) (iR R) (λ_=>R)<|AP Z)<|qO R (CV (cs:=(Cm l)) R Ic (iR R) R R)<|qO R (D5 R Ic iL R R)<|AE h8 λr1 a0 h9=>He (.one R R R) R R (r:=rI r1) (caps:=[]) (bs:=[.agg<|Cm l,.agg<|Cm j]) R iL R ⟨⟨_,(iR R),.g (cs:=[.int .i64 l.Clock,.int .i64 l.Site,.int .i64 l.Kind,.int .i64 l.Item,.int .i64 l.Parent,.str l.Place,.str l.Name,.str l.Value]) R R⟩,⟨_,(iR R),.g (cs:=[.int .i64 j.Clock,.int .i64 j.Site,.int .i64 j.Kind,.int .i64 j.Item,.int .i64 j.Parent,.str j.Place,.str j.Name,.str j.Value]) R R⟩,Za⟩ (λhg=>sE<|AP a0 hg) R<|qO R (Cv R (iR R) iL)<|qP R (BQ R iL<|iR R)<|AQ.nil<|X _<|cI R h9 (λu=>?_) λu=>?_
  ·exact zI (B _<|xH q u) R id
  exact Zd<|c7 _<|aR<|AE u λx7 a1 a2=>xA R a1<|mM R<|Zi<|Zx a2 (AH [((C 0)+1)]) wk
 exact Zn<|E _ _ wk<|J1 _ (AH [(C 0)])<|xH q M
theorem aE{n1 r}(h:Dz n1=some r):AO prog 127 (Nt n1) (rI r):=by
 unfold Dz at h
 refine mF func127 ntmps127 R λA=>aU<|sS R (Az (cs:=(BY n1)) 1 R iL R R)<|mA R<|aZ<|aT λc2=>Zf<|aU<|lF EQ AJ R R<|xS R<|mM R<|vF EQ AJ R R<|vQ R (BD R (iR R) iL)<|xO R<|mA R<|aZ<|cI R h (λV=>?_) λV=>?_
 ·exact zI V R id
 refine aT λc5=>aG [1] [1] ?_
 refine aR<|lF CR AJ R R<|xS R<|mM R<|vF CR AJ R R<|vQ R (Cv R (iR R) iL)<|xO R<|mM R<|vF EQ AJ R R<|vQ R (Aw R (iR R) iL)<|vF CR AJ R R<|vQ R (Aw R (iR R) iL)<|vQ R (cK R underlying4 (iR R)<|iR R)<|xO R<|mA R<|aZ<|c5 _<|cI R V (λX=>?_) λX=>?_
 ·exact zI X R id
 refine Zd<|c2 _<|aT λc7=>aT λc8=>aG [1] [1] ?_
 refine aR<|lF NX BE R R<|AE X λe1 Y h3=>cL (Si<|Y) R<|mA R<|aZ<|c8 _<|aU<|mM R<|xU R<|aZ<|cI R h3 (λZ=>?_) λZ=>?_
 ·exact aU<|mM R<|mA R<|aZ<|Zk<|yI Z R
 refine Zd<|c7 _<|aT λa0=>?_
 refine ZB BF (by kernel_rfl) ?_
 refine qP R (fB R CR iL fR R)<|qP R (AU (a:=rI n1.Kind) R AJ iL R R)<|AE Z λl O h5=>FZ R R R (r:=rB l) (caps:=[]) (bs:=[rI n1.Kind]) R iL R ⟨⟨_,iL,.d R⟩,Za⟩ (λ_=>X0<|O) R<|qP R (AK R iL)<|qO R (fB R CR iL fR R)<|qO R (AU (a:=rI n1.Kind) R AJ (iR R) R R)<|AE h5 λq a1 h6=>He (.one R R R) R R (r:=rB q) (caps:=[]) (bs:=[rI n1.Kind]) R iL R ⟨⟨_,(iR R),.d R⟩,Za⟩ (λhg=>oF<|AP a1 hg) R<|qP R (CB R iL<|iR R)<|qP R (fB R CR iL fR R)<|qP R (AU (a:=rI n1.Kind) R AJ iL R R)<|AE h6 λj B h7=>FZ R R R (r:=rB j) (caps:=[]) (bs:=[rI n1.Kind]) R iL R ⟨⟨_,iL,.d R⟩,Za⟩ (λ_=>lS<|B) R<|qP R (DU R iL)<|qP R (DU R iL)<|AQ.nil<|a0 _<|aT λa2=>aS λa6 a7 C=>aG [1,4,5] [1] ?_
 refine aR<|mM R<|sQ R (A3 R iL)<|mM R<|vF Em B0 R R<|vQ R (Bq R Ar.slice<|iR R)<|vQ R (BD R (iR R) iL)<|xN R<|mM R<|vM R<|vQ R (A3 R<|iR R)<|vQ R (AK R<|iR R)<|wQ R (fB R GA iL fR R)<|wQ R (Fm (ds:=(Dh n1.Grid)) R Nc (iR R) R R R) ?_
 refine wQ R (BM R X9 (q:=[]) (by exact Za) (cs:=EH)<|by rfl) ?_
 refine BA h7 λp1 T a8=>?_
 have J1:∀(x1:Bool) (i1:NN),p1=x1→a6 ⟨[(1,.ptr 1 A 0 0),(4,rB<|(l||q)),(5,rB j),(81,rB x1)],[(1,some<|.box A 46<|BY n1)],(i1 0),107⟩:=by
  intro x1 i1 e
  have h8:=a8 _ e
  refine a7 _<|cI R h8 (λh9=>?_) λh9=>?_
  ·exact zI h9 R id
  refine Zd<|a2 _<|aT λaa=>Zf<|aU<|mM R<|mA R<|aZ<|cI R h9 (λF=>?_) λF=>?_
  ·refine aT λab=>?_
   refine ZB BF (by kernel_rfl) ?_
   exact qP R (fB R Em iL fR R)<|qP R (AU (a:=qb n1.Flow) R B0 iL R R)<|qP R (fB R CR iL fR R)<|qP R (AU (a:=rI n1.Kind) R AJ iL R R)<|FZ R R R (r:=rB l) (caps:=[]) (bs:=[rI n1.Kind]) R iL R ⟨⟨_,iL,.d R⟩,Za⟩ (λ_=>X0<|O) R<|AE F λr4 ac ad=>FZ R R R (r:=rI r4) (caps:=[]) (bs:=[qb n1.Flow,rB l]) R iL R ⟨⟨_,iL,.d R⟩,⟨_,iL,.d R⟩,Za⟩ (λ_=>tc<|ac) R<|qP R (DU R iL)<|AQ.nil<|ab _<|Zk<|yI ad R
  refine aU<|mM R<|mA R<|aZ<|cI R F (λI=>?_) λI=>?_
  ·refine aT λae=>aU<|sQ R (fB R GA iL fR R)<|sQ R (Fm (ds:=(Dh n1.Grid)) R Nc iL R R R)<|AE I λe2 af ag=>cL (nV<|af) R<|mA R<|aZ<|aT λah=>aG [1,6] [1] ?_
   refine aR<|mM R<|xU R<|aZ<|ah _<|cI R ag (λJ=>?_) λJ=>?_
   ·exact aU<|mM R<|mA R<|aZ<|Zk<|yI J R
   exact Zd<|ae _<|aU<|lF CR AJ R R<|sQ R (fB R GA iL fR R)<|lF GK E0 R R<|AE J λr5 ai aj=>cL (pC<|ai) R<|mA R<|aZ<|Zk<|yI aj R
  exact Zd<|aa _<|aU<|lF JW Gx R R<|AE I λr6 ak al=>cL (lM<|ak) R<|mA R<|aZ<|Zk<|yI al R
 refine AM.split (((!(l||q))&&(0<(n1.Flow.length:Int)))==false) (λu=>?_) λu=>?_
 ·have E:=Bk u T
  refine AM.weak (by exact Rk (e':=[(1,.ptr 1 A 0 0),(4,rB<|(l||q)),(5,rB j),(51,rB<|(l||q)),(52,rB<|(!(l||q))),(53,rB<|(!(l||q))),(58,rB<|((!(l||q))&&(0<(n1.Flow.length:Int)))),(59,rB<|((!(l||q))&&(0<(n1.Flow.length:Int)))),(60,rB j),(61,rB<|(!j)),(62,rB<|(!j)),(63,.whn ((!j)==true)<|.ptr 1 A 0 4),(64,.whn ((!j)==true)<|.agg<|Dh n1.Grid),(65,.whn ((!j)==true)<|.agg EH)]) u ⟨.inl R,.inl R,.inl R,.inl R,.inl R,.inl R,.inl R,.inl R,.inr iL,.inr iL,.inr iL,.inr<|.inr<|.inl ⟨_,_,R,R⟩,.inr<|.inr<|.inl ⟨_,_,R,R⟩,.inr<|.inr<|.inl ⟨_,_,R,R⟩,Za⟩) ?_
  refine AM.split ((!j)==true) (λw=>?_) λw=>?_
  ·have M:=Bk w E
   refine AM.weak (by exact Rk (e':=[(1,.ptr 1 A 0 0),(4,rB<|(l||q)),(5,rB j),(51,rB<|(l||q)),(52,rB<|(!(l||q))),(53,rB<|(!(l||q))),(58,rB<|((!(l||q))&&(0<(n1.Flow.length:Int)))),(59,rB<|((!(l||q))&&(0<(n1.Flow.length:Int)))),(60,rB j),(61,rB<|(!j)),(62,rB<|(!j)),(63,.ptr 1 A 0 4),(64,.agg<|Dh n1.Grid),(65,.agg EH)]) w ⟨.inl R,.inl R,.inl R,.inl R,.inl R,.inl R,.inl R,.inl R,.inl R,.inl R,.inl R,.inr iL,.inr iL,.inr iL,Za⟩) ?_
   refine AM.weak (by exact ZD (e':=[(1,.ptr 1 A 0 0),(4,rB<|(l||q)),(5,rB j),(51,rB<|(l||q)),(52,rB<|(!(l||q))),(53,rB<|(!(l||q))),(58,rB<|((!(l||q))&&(0<(n1.Flow.length:Int)))),(59,rB<|((!(l||q))&&(0<(n1.Flow.length:Int)))),(60,rB j),(61,rB<|(!j)),(62,rB<|(!j)),(63,.ptr 1 A 0 4),(64,.agg<|Dh n1.Grid),(65,.agg [rI 0,rI 0,.r<|.sl [],.r<|.sl []])]) (h':=[(1,some<|.box A 46<|BY n1)]) ⟨jL,jL,jL,jL,jL,jL,jL,jL,jL,jL,jL,jL,jL,.inr ⟨_,_,R,R,⟨.inl R,.inl R,.inr<|.inr ⟨R,R⟩,.inr<|.inr ⟨R,R⟩,Za⟩⟩,Za⟩ ⟨.inl R,Za⟩ nL) ?_
   exact AE M λr7 an ao=>IV (.one R R R) w R R (EG (r:=rB r7) (caps:=[]) (bs:=[.agg<|Dh n1.Grid,.agg [rI 0,rI 0,.r<|.sl [],.r<|.sl []]]) R (.inl R) R ⟨⟨_,(.inl R),.g (cs:=[.int .i64 n1.Grid.Rows,.int .i64 n1.Grid.Cols,.sl<|n1.Grid.Cells.map A0.row,.sl<|n1.Grid.Merges.map Ax.row]) R R⟩,⟨_,(.inl R),.g (cs:=[.int .i64 0,.int .i64 0,.sl<|[].map A0.row,.sl<|[].map Ax.row]) R R⟩,Za⟩ (λ_=>kg<|an) R)<|IV (.one R R R) w R R (AR.spec (A3 R<|.inl R) _)<|IV (.one R R R) u R R (AR.spec (BQ R (.inl R)<|.inl R) _)<|sQ R (CB R iL iL)<|mM R<|vF CR AJ R R<|AE ao λr8 aq ar=>vL (λhg=>VC<|AP aq hg) R<|vQ R (A3 R<|iR R)<|vQ R (AK R<|iR R)<|wQ R (fB R JW iL fR R)<|wQ R (AU (a:=qf n1.Draw) R Gx (iR R) R R)<|wQ R (Bq R FW.slice<|iR R)<|wQ R (BD R (iR R) iL)<|vQ R (BQ R (iR R)<|iR R)<|xO R<|Zi<|C _ _ wk<|J1 _ (AH [(A+1)]) (Zb ar).symm
  ·have M:=Bn w E
   exact GT (.one R R R) w R R<|GT (.one R R R) w R R<|IV (.one R R R) u R R (AR.spec (BQ R (.inl R)<|iR R) _)<|sQ R (CB R iL iL)<|mM R<|vF CR AJ R R<|AE M λr9 av aw=>vL (λhg=>VC<|AP av hg) R<|vQ R (A3 R<|iR R)<|vQ R (AK R<|iR R)<|wQ R (fB R JW iL fR R)<|wQ R (AU (a:=qf n1.Draw) R Gx (iR R) R R)<|wQ R (Bq R FW.slice<|iR R)<|wQ R (BD R (iR R) iL)<|vQ R (BQ R (iR R)<|iR R)<|xO R<|Zi<|C _ _ wk<|J1 _ (AH [(A+1)]) (Zb aw).symm
 ·have E:=Bn u T
  exact GT (.two R R R) (iZ u) R R<|GT (.two R R R) (iZ u) R R<|GT (.one R R R) u R R<|xO R<|mM R<|vF CR AJ R R<|AE E λay U ax=>vL (λhg=>VC<|AP U hg) R<|vQ R (A3 R<|iR R)<|vQ R (AK R<|iR R)<|wQ R (fB R JW iL fR R)<|wQ R (AU (a:=qf n1.Draw) R Gx (iR R) R R)<|wQ R (Bq R FW.slice<|iR R)<|wQ R (BD R (iR R) iL)<|vQ R (BQ R (iR R)<|iR R)<|xO R<|Zi<|C _ _ wk<|J1 _ (AH [(A+1)]) (Zb ax).symm
theorem tm{w r}(h:Pd w=some r):Bf prog 174 1 [qb w] [] (λM h'=>∃(i:Nat→Nat),M=.own 1000 (i 0)∧h'=[(1000,some<|.arr (i 0) 3 1<|r.map<|Ak .i64)]):=by
 unfold Pd at h
 refine EI func174 R R ntmps174 (Zz R) λI=>aU<|mA R<|aZ<|aU<|mA R<|aZ<|aS λK3 c3 O=>aU<|mM R<|xL Ar R<|mM R<|aZ<|Zf<|BA h λo1 E T=>?_
 have J1:∀(j:List Int) (l:NN),o1=j→K3 ⟨[(3,.own 5003<|l 0)],[(5003,some<|.arr (l 0) 3 1<|j.map<|Ak .i64)],(l 1),22⟩:=by
  intro j l e
  have h1:=T _ e
  refine c3 _<|aU<|mM R<|mA R<|aZ ?_
  exact Zk<|CM.mk (s':=⟨[(2,.own 1000<|l 1)],[(1000,some<|.arr (l 1) 3 1<|j.map<|Ak .i64)],((l 1)+1),22⟩) (Zm (Zm (Ap.ren 2 5003 1000 R R R)<|by exact ZD (e':=[(2,.own 1000<|l 1)]) (h':=[(1000,some<|.arr (l 1) 3 1<|j.map<|Ak .i64)]) ⟨jL,Za⟩ ⟨.inl R,Za⟩ nL) wk)<|Ck (λ(r:(List Int)) M h'=>∃(i:Nat→Nat),M=.own 1000 (i 0)∧h'=[(1000,some<|.arr (i 0) 3 1<|r.map<|Ak .i64)]) h1<|by exact⟨.own 1000<|l 1,[(1000,some<|.arr (l 1) 3 1<|j.map<|Ak .i64)],R,⟨.inr R,Za⟩,R,R,AH [(l 1)],R,R⟩
 refine DH (λ(J:Int) (q:List Int) A=>⟨[(3,.own 5003<|A 0),(6,qb w),(7,rL w),(8,rI J)],[(5003,some<|.arr (A 0) 3 1<|q.map<|Ak .i64)],(A 1),22⟩) (AH [I,(I+1)]) E (Zm (Zm (G8 3 5003 3 1 (by decide) R)<|by exact ZD (e':=[(0,qb w),(2,cZ),(3,.own 5003 I),(6,qb w),(7,rL w),(8,rI 0)]) (h':=[(5003,some<|.arr I 3 1<|([]:List Int).map<|Ak .i64)]) ⟨jL,jL,jL,jL,jL,jL,Za⟩ ⟨.inl R,Za⟩ nL) wk) ?_
 intro J q A v1 U V
 have h2:IK w J q=some v1:=U;unfold IK at h2
 refine aU<|xS R<|aZ<|aT λc7=>cI R h2 (λX=>?_) λX=>?_
 ·refine Zd<|c7 _<|aS λK8 c8 F=>Zf<|BA X λp1 Y Z=>?_
  have J2:∀(u:List Int) (C:NN),p1=u→K8 ⟨[(3,.own 5003<|C 0),(6,qb w),(7,rL w),(8,rI J)],[(5003,some<|.arr (C 0) 3 1<|u.map<|Ak .i64)],(C 1),22⟩:=by
   intro u C e
   have h4:=Z _ e
   exact c8 _<|aR<|AE h4 λx4 a0 h5=>xA R a0<|mM R<|Zi<|ZL h5 (AH [(C 0),(C 1)]) wk
  refine aU<|AE Y λx5 a1 h6=>xI Ar R a1<|xB ((Ag x5)) Cf R<|sS R (BB (cs:=Ec) 5 R EV R R)<|Zj R R (Ac (ds:=(Ag x5)) R DK iL R iL R R R R)<|aZ<|aU<|lF Ek AJ R R<|xU R<|aZ<|cI R h6 (λh7=>?_) λh7=>?_
  ·exact aR<|mM R<|lF Ek AJ R R<|sS R (Bm 18 R B8 (f:=(Ak .i64)) (l:=([x5.Ref]:List Int)) ⟨R,⟨_,iL,R⟩,Za⟩ R (λ_=>R) R)<|AE h7 λa2 B h8=>sS R (Ci R B8 iL R (.inr<|.inl ⟨_,_,iL,R⟩) B)<|mA R<|Zi<|F _ _ wk<|J2 _ (AH [((A 1)+2),((A 1)+3)]) (Zb h8).symm
  exact Zd<|F _ _ wk<|J2 _ (AH [(A 0),((A 1)+1)]) (Zb h7).symm
 exact Zn<|O _ _ wk<|J1 _ (AH [(A 0),(A 1)])<|xH V X
theorem tC{n1 r}(h:Kx n1=some r):AO prog 129 (Nt n1) (.r<|.sl<|r.map<|Ak .i64):=by
 unfold Kx at h
 refine mF func129 ntmps129 R λn0=>aU<|sS R (Az (cs:=(BY n1)) 1 R iL R R)<|mA R<|aZ<|aT λc2=>aR<|lF Em B0 R R<|AE h λw1 I h1=>?_
 refine Zq [8] (hc:=[]) (bs:=[qb n1.Flow]) (caps:=[]) R R R R iL R ⟨.inl ⟨iL,R⟩,Za⟩ Za (by decide) (tm I) ?_
 intro i1 n2
 refine BC [0,1,2,6,7,8] [1,8] ?_
 refine mA R<|aZ<|c2 _<|aS λK3 c3 J=>aU<|sQ R (fB R GA iL fR R)<|lF GK E0 R R<|xL Cq R<|mM R<|aZ<|Zf<|BA h1 λo1 B M=>?_
 have J1:∀(j:List Int) (E:NN),o1=j→K3 ⟨[(3,.own 8<|E 0)],[(8,some<|.arr (E 0) 3 1<|j.map<|Ak .i64)],(E 1),27⟩:=by
  intro j E e
  have h2:=M _ e
  exact c3 _<|aU<|mM R<|mA R<|aZ<|Zk<|DE (P:=prog) (λ(r:(List Int))=>.r<|.sl<|r.map<|Ak .i64) h2 iL<|.t<|.one<|.own R
 refine DH (λ(F:Int) (l:List Int) u=>⟨[(3,.own 8<|u 0),(11,qe n1.Grid.Cells),(12,rL n1.Grid.Cells),(13,rI F)],[(8,some<|.arr (u 0) 3 1<|l.map<|Ak .i64)],(u 1),27⟩) (AH [(i1 0),n2]) B wk ?_
 intro F l u v1 O T
 have h3:IA n1 F l=some v1:=O;unfold IA at h3
 refine aU<|xS R<|aZ<|aT λc7=>cI R h3 (λU=>?_) λU=>?_
 ·refine Zd<|c7 _<|aS λK8 c8 C=>Zf<|BA U λp1 V X=>?_
  have J2:∀(q:List Int) (A:NN),p1=q→K8 ⟨[(3,.own 8<|A 0),(11,qe n1.Grid.Cells),(12,rL n1.Grid.Cells),(13,rI F)],[(8,some<|.arr (A 0) 3 1<|q.map<|Ak .i64)],(A 1),27⟩:=by
   intro q A e
   have h5:=X _ e
   exact c8 _<|aR<|AE h5 λx4 Y h6=>xA R Y<|mM R<|Zi<|ZL h6 (AH [(A 0),(A 1)]) wk
  refine aU<|AE V λZ a0 h7=>xI Cq R a0<|xB ((B6 Z)) Fv R<|sS R (BB (cs:=Mn) 5 R N3 R R)<|Zj R R (Ac (ds:=(B6 Z)) R MY iL R iL R R R R)<|aZ<|aU<|lF Fg AJ R R<|xU R<|aZ<|cI R h7 (λh8=>?_) λh8=>?_
  ·exact aR<|mM R<|lF Fg AJ R R<|sS R (Bm 23 R B8 (f:=(Ak .i64)) (l:=([Z.Ref]:List Int)) ⟨R,⟨_,iL,R⟩,Za⟩ R (λ_=>R) R)<|AE h8 λa1 w h9=>sS R (Ci R B8 iL R (.inr<|.inl ⟨_,_,iL,R⟩) w)<|mA R<|Zi<|C _ _ wk<|J2 _ (AH [((u 1)+2),((u 1)+3)]) (Zb h9).symm
  exact Zd<|C _ _ wk<|J2 _ (AH [(u 0),((u 1)+1)]) (Zb h8).symm
 exact Zn<|J _ _ wk<|J1 _ (AH [(u 0),(u 1)])<|xH T U
theorem Y5{n1 i r}(h:MJ n1 i=some r):AO prog 184 [.agg<|BY n1,rI i] (rI r):=by
 unfold MJ at h
 refine mF func184 ntmps184 R λu=>aU<|sS R (Az (cs:=(BY n1)) 2 R iL R R)<|mA R<|aZ<|aT λq=>Zf<|aU<|lF EQ AJ R R<|mM R<|xS R<|mA R<|aZ<|cI R h (λj=>?_) λj=>?_
 ·exact zI j R id
 refine aU<|lF EQ AJ R R<|mM R<|sQ R (BD R iL iL)<|mA R<|aZ<|cI R j (λl=>?_) λl=>?_
 ·exact zI l R id
 exact Zd<|q _<|zI l R id
theorem ka{l a r}(h:UF l a=some r):AO prog 183 [qg l,rI a,.fn 184 []] (.tup [rI r.1,rB r.2]):=by
 unfold UF at h
 refine mF func183 ntmps183 R λn0=>aU<|mA R<|mA R<|aZ<|aU<|mM R<|xL C0 R<|mA R<|aZ<|aU<|mM R<|mA R<|mA R<|aZ<|aS λK4 c4 A=>Zf<|BA h λo1 q B=>?_
 have J1:∀(i8:Int) (Z:NN),o1=i8→K4 ⟨[(0,qg l),(1,rI a),(2,.fn 184 []),(8,rL l),(9,rI i8)],[],(Z 0),49⟩:=by
  intro i8 Z e
  have h1:=B _ e
  exact c4 _<|aU<|mM R<|mM R<|mM R<|xS R<|mM R<|vM R<|vM R<|vM R<|AE h1 λj C h2=>vQ R (At R C0.slice (iR R) (iR R) (λ_=>R)<|AP C)<|vQ R (CV (cs:=(BY j)) R El (iR R) R R)<|vM R<|AE h2 λr1 E h3=>AM.stepW (.one R R R) R R (EG (r:=rI r1) (caps:=[]) (bs:=[.agg<|BY j,rI a]) R (iR R) R ⟨⟨_,(iR R),.g (cs:=[.int .i64 j.ID,.int .i64 j.Kind,.sl<|j.Attrs.map AC.row,.sl<|j.Flow.map AG.row,.int .i64 j.Grid.Rows,.int .i64 j.Grid.Cols,.sl<|j.Grid.Cells.map A0.row,.sl<|j.Grid.Merges.map Ax.row,.sl<|j.Draw.map BS.row]) R R⟩,⟨_,(iR R),.d R⟩,Za⟩ (λhg=>Y5<|AP E hg) R)<|vQ R (Aw R (iR R) iL)<|xN R<|mA R<|mA R<|aZ<|Zk<|Ct (P:=prog) (λ(r:Int × Bool)=>rI r.1) (λ(r:Int × Bool)=>rB r.2) h3 iL (.t<|.d R)<|.t<|.d R
 refine DH (λ(F:Int) (I:Int) u=>⟨[(0,qg l),(1,rI a),(2,.fn 184 []),(8,rL l),(9,rI F),(10,rI I)],[],(u 0),49⟩) (AH [n0]) q wk ?_
 intro F I u v1 J M
 have h4:Mb l a F I=some v1:=J;unfold Mb at h4
 refine aT λc6=>aU<|mM R<|mM R<|xS R<|aZ<|cI R h4 (λO=>?_) λO=>?_
 ·refine Zd<|c6 _<|Zf<|aU<|mM R<|mM R<|AE O λx3 T h6=>xA R T<|sQ R (Es R underlying3 underlying128 iL)<|sQ R (RI (b:=1) R iL iL)<|sQ R (Es R underlying128 underlying3 iL)<|mA R<|aZ<|aT λc9=>aF [0,1,2,8,9,10,11] ?_
  refine aR<|mM R<|mM R<|mM R<|AE h6 λx4 U h7=>xI C0 R U<|xB ((BY x4)) El R<|mM R<|AE h7 λr2 V h8=>cL (Y5<|V) R<|xS R<|aZ<|c9 _<|cI R h8 (λX=>?_) λX=>?_
  ·refine aF [0,1,2,8,10,11] ?_
   exact aR<|mM R<|AE X λa0 w Y=>xA R w<|mA R<|Zi<|ZL Y (AH [(u 0)]) wk
  refine aF [0,1,2,8,9,11] ?_
  exact aR<|mM R<|mA R<|Zi<|ZL X (AH [(u 0)]) wk
 exact Zn<|A _ _ wk<|J1 _ (AH [(u 0)])<|xH M O
theorem dT{d1 i r}(h:Ni d1 i=some r):AO prog 142 [.agg [qg d1.Nodes],rI i] (.tup [rI r.1,rB r.2]):=by
 unfold Ni at h
 exact mF func142 ntmps142 R λw=>aU<|sS R (Az (cs:=[qg d1.Nodes]) 2 R iL R R)<|mA R<|mA R<|aZ<|aU<|lF Dd DZ R R<|mM R<|D2 h λl q j u=>sS R (EG (r:=.tup [rI l,rB q]) (caps:=[]) (bs:=[qg d1.Nodes,rI i,.fn 184 []]) R iL R ⟨⟨_,iL,.d R⟩,⟨_,iL,.d R⟩,⟨_,iL,.one<|.closed (.fn 184 []) R⟩,Za⟩ (λ_=>ka<|j) R)<|xX R<|xX R<|mA R<|mA R<|aZ<|Zk<|Ct (P:=prog) (λ(r:Int × Bool)=>rI r.1) (λ(r:Int × Bool)=>rB r.2) u iL (.t<|.d R)<|.t<|.d R
theorem lr{j v1 r}(h:TF j v1=some r):AO prog 203 [.r<|.sl<|j.map<|Ak .i64,rI v1] (rI r):=by
 unfold TF at h
 refine mF func203 ntmps203 R λX=>aU<|mA R<|aZ<|aS λY Z w=>aU<|mM R<|xL B8 R<|mM R<|aZ<|Zf<|BJ h λo1 l A B=>?_
 have J1:∀(T:Unit) (U:NN),o1=.nrm T→Y ⟨[],[],(U 0),19⟩:=by
  intro T U e
  have h1:=A _ e
  exact Z _<|zI h1 R id
 refine ZC (λ(C:Int) u=>⟨[(0,.r<|.sl<|j.map<|Ak .i64),(1,rI v1),(7,rL j),(8,rI C)],[],(u 0),19⟩) (AH [X]) l wk ?_
 intro C u v2 E q
 have V:Qz j v1 C=some v2:=E;unfold Qz at V
 refine aU<|xS R<|aZ<|aT λc6=>cI R V (λF=>?_) λF=>?_
 ·refine Zd<|c6 _<|aT λc7=>Zf<|aU<|mM R<|mA R<|aZ<|aU<|mM R<|mM R<|mM R<|AE F λx4 I h4=>xI B8 R I<|xV (.int .i64 x4) AJ R<|xQ R<|aZ<|cI R h4 (λJ=>?_) λJ=>?_
  ·refine aT λM=>aF [5] ?_
   exact aR<|mM R<|mA R<|aZ<|M _<|Zk<|yI (B _<|xH q J) R
  refine Zd<|c7 _<|aF [0,1,7,8] ?_
  exact aR<|AE J λx5 O h6=>xA R O<|mM R<|Zi<|Zx h6 (AH [(u 0)]) wk
 exact Zn<|w _ _ wk<|J1 _ (AH [(u 0)])<|xH q F
theorem qJ{l v1 r}(h:M1 l v1=some r):AO prog 175 [.r<|.sl<|l.map<|Ak .i64,rI v1] (rB r):=by
 unfold M1 at h
 exact mF func175 ntmps175 R λu=>aU<|mA R<|aZ<|aU<|mM R<|mM R<|AE h λw j q=>cL (lr<|j) R<|sQ R (Cv R iL iL)<|mA R<|aZ<|Zk<|yB q R
theorem aN{p k r}(h:M0 p k=some r):AO prog 130 [rI p,rI k] (rB r):=by
 unfold M0 at h
 refine mF func130 ntmps130 R λC=>aU<|mA R<|aZ<|aU<|mA R<|aZ<|aS λK3 c3 j=>aU<|mM R<|aZ<|Zf<|BA h λp1 E J=>?_
 have l:∀(M:List Int) (i1:NN),p1=M→K3 ⟨[(1,rI k),(5,.r<|.sl<|M.map<|Ak .i64)],[],(i1 0),29⟩:=by
  intro M i1 e
  have h1:=J _ e
  exact c3 _<|aU<|mM R<|mM R<|AE h1 λr1 O h2=>cL (qJ<|O) R<|mA R<|aZ<|Zk<|yB h2 R
 refine aU<|xQ R<|mA R<|aZ<|aC R (λq=>?_) λq=>?_
 ·have T:=Bk q E
  refine aR<|sS R (Bm 9 R B8 (f:=(Ak .i64)) (l:=([1,6,7,10,11,12]:List Int)) ⟨R,⟨_,iL,R⟩,R,⟨_,iL,R⟩,R,⟨_,iL,R⟩,R,⟨_,iL,R⟩,R,⟨_,iL,R⟩,R,⟨_,iL,R⟩,Za⟩ R (λ_=>R) R)<|mA R<|Zi ?_
  exact j _ _ (Zm (by exact Ap.frz (e':=[(0,rI p),(1,rI k),(4,rB false),(5,.r<|.sl<|[1,6,7,10,11,12].map<|Ak .i64),(6,rI p),(7,rB<|(decide<|p=0)),(8,rB<|(decide<|p=0)),(9,.r<|.sl<|[1,6,7,10,11,12].map<|Ak .i64)]) (h':=[]) 9 R ⟨jL,jL,jL,.inl<|.inr<|.inr ⟨R,R⟩,jL,jL,jL,.inl<|.inr<|.inr ⟨R,R⟩,Za⟩ Za) wk)<|l _ (AH [(C+1)]) (Zb T).symm
 ·have T:=Bn q E
  refine aU<|xQ R<|mA R<|aZ<|cI R T (λU=>?_) λU=>?_
  ·refine aR<|sS R (Bm 12 R B8 (f:=(Ak .i64)) (l:=([2,4,5,10]:List Int)) ⟨R,⟨_,iL,R⟩,R,⟨_,iL,R⟩,R,⟨_,iL,R⟩,R,⟨_,iL,R⟩,Za⟩ R (λ_=>R) R)<|mA R<|Zi ?_
   exact j _ _ (Zm (by exact Ap.frz (e':=[(0,rI p),(1,rI k),(4,rB false),(5,.r<|.sl<|[2,4,5,10].map<|Ak .i64),(6,rI p),(7,rB<|(decide<|p=0)),(8,rB<|(decide<|p=0)),(10,rB<|(decide<|p=1)),(11,rB<|(decide<|p=1)),(12,.r<|.sl<|[2,4,5,10].map<|Ak .i64)]) (h':=[]) 12 R ⟨jL,jL,jL,.inl<|.inr<|.inr ⟨R,R⟩,jL,jL,jL,jL,jL,.inl<|.inr<|.inr ⟨R,R⟩,Za⟩ Za) wk)<|l _ (AH [(C+1)]) (Zb U).symm
  refine aU<|xQ R<|mA R<|aZ<|cI R U (λV=>?_) λV=>?_
  ·refine aF [1] ?_
   refine aR<|sS R (Bm 15 R B8 (f:=(Ak .i64)) (l:=([4,5,10]:List Int)) ⟨R,⟨_,iL,R⟩,R,⟨_,iL,R⟩,R,⟨_,iL,R⟩,Za⟩ R (λ_=>R) R)<|mA R<|Zi ?_
   exact j _ _ (Zm (by exact Ap.frz (e':=[(1,rI k),(5,.r<|.sl<|[4,5,10].map<|Ak .i64),(15,.r<|.sl<|[4,5,10].map<|Ak .i64)]) (h':=[]) 15 R ⟨jL,.inl<|.inr<|.inr ⟨R,R⟩,.inl<|.inr<|.inr ⟨R,R⟩,Za⟩ Za) wk)<|l _ (AH [(C+1)]) (Zb V).symm
  refine aS λK9 c9 F=>aU<|xQ R<|mA R<|aZ<|BA V λp2 I X=>?_
  have J2:∀(A:Bool) (B:NN),p2=A→K9 ⟨[(1,rI k),(5,cZ),(6,rI p),(16,rB A)],[],(B 0),29⟩:=by
   intro A B e
   have h6:=X _ e
   refine c9 _<|cI R h6 (λY=>?_) λY=>?_
   ·refine aR<|sS R (Bm 19 R B8 (f:=(Ak .i64)) (l:=([5]:List Int)) ⟨R,⟨_,iL,R⟩,Za⟩ R (λ_=>R) R)<|mA R<|Zi ?_
    exact j _ _ (Zm (by exact Ap.frz (e':=[(1,rI k),(5,.r<|.sl<|[5].map<|Ak .i64),(6,rI p),(16,rB A),(19,.r<|.sl<|[5].map<|Ak .i64)]) (h':=[]) 19 R ⟨jL,.inl<|.inr<|.inr ⟨R,R⟩,jL,jL,.inl<|.inr<|.inr ⟨R,R⟩,Za⟩ Za) wk)<|l _ (AH [((B 0)+1)]) (Zb Y).symm
   refine aU<|xQ R<|mA R<|aZ<|cI R Y (λZ=>?_) λZ=>?_
   ·refine aR<|sS R (Bm 22 R B8 (f:=(Ak .i64)) (l:=([3]:List Int)) ⟨R,⟨_,iL,R⟩,Za⟩ R (λ_=>R) R)<|mA R<|Zi ?_
    exact j _ _ (Zm (by exact Ap.frz (e':=[(1,rI k),(5,.r<|.sl<|[3].map<|Ak .i64),(6,rI p),(16,rB A),(20,rB<|(decide<|p=2)),(21,rB<|(decide<|p=2)),(22,.r<|.sl<|[3].map<|Ak .i64)]) (h':=[]) 22 R ⟨jL,.inl<|.inr<|.inr ⟨R,R⟩,jL,jL,jL,jL,.inl<|.inr<|.inr ⟨R,R⟩,Za⟩ Za) wk)<|l _ (AH [((B 0)+1)]) (Zb Z).symm
   refine aU<|xQ R<|mA R<|aZ<|cI R Z (λh9=>?_) λh9=>?_
   ·refine aR<|sS R (Bm 25 R B8 (f:=(Ak .i64)) (l:=([8,9]:List Int)) ⟨R,⟨_,iL,R⟩,R,⟨_,iL,R⟩,Za⟩ R (λ_=>R) R)<|mA R<|Zi ?_
    exact j _ _ (Zm (by exact Ap.frz (e':=[(1,rI k),(5,.r<|.sl<|[8,9].map<|Ak .i64),(6,rI p),(16,rB A),(20,rB<|(decide<|p=2)),(21,rB<|(decide<|p=2)),(23,rB<|(decide<|p=7)),(24,rB<|(decide<|p=7)),(25,.r<|.sl<|[8,9].map<|Ak .i64)]) (h':=[]) 25 R ⟨jL,.inl<|.inr<|.inr ⟨R,R⟩,jL,jL,jL,jL,jL,jL,.inl<|.inr<|.inr ⟨R,R⟩,Za⟩ Za) wk)<|l _ (AH [((B 0)+1)]) (Zb h9).symm
   refine Zd ?_
   exact j _ _ ((by exact ZD ⟨jL,.inl<|.inr<|.inr ⟨R,R⟩,Za⟩ Za nL))<|l _ (AH [(B 0)]) (Zb h9).symm
  refine aC R (λu=>?_) λu=>?_
  ·have w:=Bk u I
   exact Zd<|F _ _ wk<|J2 _ (AH [C]) (Zb w).symm
  ·have w:=Bn u I
   refine aF [1,5,6] ?_
   exact aR<|xQ R<|mA R<|Zi<|F _ _ wk<|J2 _ (AH [C]) (Zb w).symm
theorem s8{d1 k a r}(h:Oz d1 k a=some r):AO prog 128 [.agg [qg d1.Nodes],rI k,.r<|.sl<|a.map<|Ak .i64] (rI r):=by
 unfold Oz at h
 refine mF func128 ntmps128 R λw=>aU<|sS R (Az (cs:=[qg d1.Nodes]) 3 R iL R R)<|mA R<|aZ<|aS λK2 c2 A=>aU<|mM R<|xL B8 R<|mM R<|aZ<|Zf<|BJ h λo1 l B q=>?_
 have J1:∀(u2:Unit) (i5:NN),o1=.nrm u2→K2 ⟨[],[],(i5 0),35⟩:=by
  intro u2 i5 e
  have h1:=B _ e
  exact c2 _<|zI h1 R id
 refine ZC (λ(C:Int) u=>⟨[(1,rI k),(3,.ptr 3 w 0 0),(11,.r<|.sl<|a.map<|Ak .i64),(12,rL a),(13,rI C)],[(3,some<|.box w 24 [qg d1.Nodes])],(u 0),35⟩) (AH [(w+1)]) l wk ?_
 intro C u v1 E j
 have h2:MD d1 k a C=some v1:=E;unfold MD at h2
 refine aU<|xS R<|aZ<|aT λc6=>cI R h2 (λF=>?_) λF=>?_
 ·refine Zd<|c6 _<|aT λc7=>Zf<|aU<|AE F λx4 I h4=>xI B8 R I<|xV (.int .i64 x4) AJ R<|mA R<|aZ<|aU<|xC DT R<|mM R<|D2 h4 λr1 r2 J h5=>cL (dT<|J) R<|mM R<|xX R<|xX R<|mA R<|mA R<|aZ<|aT λM=>aT λO=>aG [1,3,9,10,11,12,13] [3] ?_
  refine aR<|mM R<|sQ R (A3 R iL)<|aZ<|O _<|cI R h5 (λT=>?_) λT=>?_
  ·exact zI (q _<|xH j T) R id
  refine Zd<|M _<|aU<|mM R<|lF Dd DZ R R<|mM R<|AE T λx5 U h7=>xI C0 R U<|sQ R (A6 R CR iL)<|xV (.int .i64 x5.Kind) AJ R<|AE h7 λr3 V h8=>cL (aN<|V) R<|sQ R (A3 R iL)<|aZ<|cI R h8 (λX=>?_) λX=>?_
  ·exact zI (q _<|xH j X) R id
  refine Zd<|c7 _<|aG [1,3,11,12,13] [3] ?_
  exact aR<|AE X λx6 Y Z=>xA R Y<|mM R<|Zi<|Zx Z (AH [(u 0)]) wk
 exact Zn<|A _ _ wk<|J1 _ (AH [(u 0)])<|xH j F
theorem iE{d1 r}(h:Ed d1=some r):AO prog 82 [.agg [qg d1.Nodes]] (rI r):=by
 unfold Ed at h
 refine mF func82 ntmps82 R λl=>aU<|sS R (Az (cs:=[qg d1.Nodes]) 1 R iL R R)<|mA R<|aZ<|aT λc2=>aU<|lF Dd DZ R R<|xL C0 R<|xQ R<|aZ<|cI R h (λX=>?_) λX=>?_
 ·exact zI X R id
 refine Zd<|c2 _<|aS λK5 c5 Y=>aU<|lF Dd DZ R R<|xL C0 R<|mM R<|aZ<|Zf<|BJ X λo1 B Z C=>?_
 have J1:∀(u2:Unit) (i5:NN),o1=.nrm u2→K5 ⟨[(1,.ptr 1 l 0 0)],[(1,some<|.box l 24 [qg d1.Nodes])],(i5 0),67⟩:=by
  intro u2 i5 e
  have h2:=Z _ e
  refine c5 _<|aS λK7 c7 a0=>aU<|lF Dd DZ R R<|xL C0 R<|mM R<|aZ<|Zf<|BJ h2 λo2 E a1 a2=>?_
  have J2:∀(u4:Unit) (F:NN),o2=.nrm u4→K7 ⟨[],[],(F 0),67⟩:=by
   intro u4 F e
   have h3:=a1 _ e
   exact c7 _<|zI h3 R id
  refine ZC (λ(x5:Int) i8=>⟨[(1,.ptr 1 l 0 0),(51,qg d1.Nodes),(52,rL d1.Nodes),(53,rI x5)],[(1,some<|.box l 24 [qg d1.Nodes])],(i8 0),67⟩) (AH [(i5 0)]) E wk ?_
  intro x5 i8 v1 a6 I
  have h4:Lx d1 x5=some v1:=a6;unfold Lx at h4
  refine aU<|xS R<|aZ<|aT λa7=>cI R h4 (λh5=>?_) λh5=>?_
  ·refine Zd<|a7 _<|aT λa8=>Zf<|aU<|AE h5 λj aa h6=>xI C0 R aa<|xB ((BY j)) El R<|sS R (BB (cs:=I5) 7 R O2 R R)<|Zj R R (Ac (ds:=(BY j)) R QH iL R iL R R R R)<|aZ<|aT λab=>AE h6 λr1 ac h7=>?_
   refine rP 5 [pO 57<|.agg [qg d1.Nodes],pO 58<|.ptr 7 (i8 0) 0 1,pO 59<|rI j.Kind,pO 60<|.agg<|BY j,pO 61<|.r<|.sl<|r1.map<|Ak .i64] BF R (by exact⟨oB [(1,.ptr 1 l 0 0)] [(1,some<|.box l 24 [qg d1.Nodes])]<|D5 R DT (.inl R) R R,oB [(7,.ptr 7 (i8 0) 0 0)] [(7,some<|.box (i8 0) 46<|BY j)]<|fB R CR (.inl R) (λ_=>R) R,oB [(58,.ptr 7 (i8 0) 0 1)] [(7,some<|.box (i8 0) 46<|BY j)]<|AU (a:=rI j.Kind) R AJ (.inl R) R R,oB [(7,.ptr 7 (i8 0) 0 0)] [(7,some<|.box (i8 0) 46<|BY j)]<|D5 R El (.inl R) R R,oD (λ_=>[(60,.agg<|BY j)]) (λ_=>[]) λG1 e h' n=>B4 (r:=.r<|.sl<|r1.map<|Ak .i64) (caps:=[]) (bs:=(Nt j)) R (.inl R) R ⟨.inl ⟨(.inl R),R⟩,Za⟩ λ_=>tC<|ac,Za⟩) λG1 n1=>?_
   refine BC [1,7,51,52,53,54,55,56,57,58,59,60,61] [1,7] ?_
   refine AE h7 λe1 ad h8=>cL (s8<|ad) R<|mA R<|aZ<|ab _<|aT λae=>aG [1,8,51,52,53] [1] ?_
   refine aR<|mM R<|xU R<|aZ<|ae _<|cI R h8 (λh9=>?_) λh9=>?_
   ·exact aU<|mM R<|mA R<|aZ<|Zk<|yI (a2 _<|xH I h9) R
   exact Zd<|a8 _<|aR<|AE h9 λx8 af ag=>xA R af<|mM R<|Zi<|Zx ag (AH [n1]) wk
  exact Zn<|a0 _ _ wk<|J2 _ (AH [(i8 0)])<|xH I h5
 refine ZC (λ(x2:Int) U=>⟨[(1,.ptr 1 l 0 0),(14,qg d1.Nodes),(15,rL d1.Nodes),(16,rI x2)],[(1,some<|.box l 24 [qg d1.Nodes])],(U 0),67⟩) (AH [(l+1)]) B wk ?_
 intro x2 U v2 ah q
 have J:Gb d1 x2=some v2:=ah;unfold Gb at J
 refine aU<|xS R<|aZ<|aT λai=>cI R J (λu=>?_) λu=>?_
 ·refine Zd<|ai _<|aT λaj=>Zf<|aU<|mM R<|AE u λV ak al=>xI C0 R ak<|xB ((BY V)) El R<|sS R (BB (cs:=I5) 4 R O2 R R)<|mA R<|Zj R R (Ac (ds:=(BY V)) R QH iL R iL R R R R)<|aZ<|aT λan=>aU<|xC El R<|AE al λe2 ao aq=>cL (aE<|ao) R<|mA R<|aZ<|aU<|mM R<|xU R<|aZ<|cI R aq (λw=>?_) λw=>?_
  ·refine aT λar=>aF [5] ?_
   exact aR<|mM R<|mA R<|aZ<|ar _<|Zk<|yI (C _<|xH q w) R
  refine Zd<|an _<|aT λav=>aG [1,3,4,14,15,16] [1,4] ?_
  refine ZB BF (by kernel_rfl) ?_
  refine qP R (AK R iL)<|qP R (Aw R iL iL)<|qP R (AK R iL)<|qO R (fB R EQ iL fR R)<|qO R (AU (a:=rI V.ID) R AJ (iR R) R R)<|qO R (Cc R (iR R) iL)<|qP R (BQ R iL<|iR R)<|qP R (AK R iL)<|qO R (AK R iL)<|qO R (BD R (iR R) iL)<|qO R (AK R<|iR R)<|qT R (fB R EQ iL fR R)<|qT R (AU (a:=rI V.ID) R AJ (iR R) R R)<|qT R (fB R Dd iL fR R)<|qT R (AU (a:=qg d1.Nodes) R DZ (iR R) R R)<|qT R (AK R iL)<|AE w λb0 M aw=>qT R (B5 R (iR R) iL<|AP M)<|AE aw λax O ay=>qT R (At R C0.slice (iR R) (iR R) (λ_=>R)<|AP O)<|qT R (A6 R EQ<|iR R)<|qT R (BV (d:=.int .i64 ax.ID) R AJ (iR R) R)<|qT R (FJ R (iR R)<|iR R)<|qO R (BQ R (iR R)<|iR R)<|qP R (CB R iL<|iR R)<|AQ.nil<|av _<|cI R ay (λA=>?_) λA=>?_
  ·exact zI (C _<|xH q A) R id
  exact Zd<|aj _<|aR<|AE A λb1 T az=>xA R T<|mM R<|Zi<|Zx az (AH [((U 0)+1)]) wk
 exact Zn<|Y _ _ wk<|J1 _ (AH [(U 0)])<|xH q u
theorem kw{i r}(h:TJ i=some r):AO prog 83 [rI i] (rI r):=by
 unfold TJ at h
 exact mF func83 ntmps83 R λj=>aU<|mA R<|aZ<|aU<|mM R<|sQ R (RI (b:=16) R iL iL)<|mA R<|aZ<|Zk<|yI h R
theorem gx{d1 s r}(h:GJ d1 s=some r):AO prog 30 [.agg [qg d1.Nodes],rI s] (.tup [rI r.1,rI r.2]):=by
 unfold GJ at h
 refine mF func30 ntmps30 R λn0=>aU<|sS R (Az (cs:=[qg d1.Nodes]) 2 R iL R R)<|mA R<|mA R<|aZ<|aT λc2=>aU<|xC DT R<|AE h λe1 F h1=>cL (iE<|F) R<|mA R<|aZ<|aU<|mM R<|xU R<|aZ<|cI R h1 (λI=>?_) λI=>?_
 ·refine aT λc5=>aF [6] ?_
  exact aR<|mM R<|mA R<|mA R<|aZ<|c5 _<|Zk<|Ct (P:=prog) (λ(r:Int × Int)=>rI r.1) (λ(r:Int × Int)=>rI r.2) I iL (.t<|.d R)<|.t<|.d R
 refine Zd<|c2 _<|aT λc6=>aU<|mM R<|xS R<|mM R<|vM R<|vQ R (BD R (iR R) iL)<|xO R<|aZ<|cI R I (λJ=>?_) λJ=>?_
 ·refine aT λc8=>aF [] ?_
  exact aR<|mA R<|mA R<|aZ<|c8 _<|Zk<|Ct (P:=prog) (λ(r:Int × Int)=>rI r.1) (λ(r:Int × Int)=>rI r.2) J iL (.t<|.d R)<|.t<|.d R
 refine Zd<|c6 _<|aT λc9=>aG [1,2] [2] ?_
 refine aR<|mM R<|sQ R (JA (b:=16) R iL iL)<|mA R<|aZ<|c9 _<|aS λM O A=>aU<|lF Dd DZ R R<|xL C0 R<|mM R<|aZ<|Zf<|BA J λo1 B T=>?_
 have J1:∀(j:Int) (i5:NN),o1=j→M ⟨[(7,rI j)],[],(i5 0),43⟩:=by
  intro j i5 e
  have h4:=T _ e
  refine O _<|aT λU=>aU<|mM R<|sQ R (F8 R iL iL)<|xQ R<|aZ<|cI R h4 (λV=>?_) λV=>?_
  ·exact aU<|mA R<|mA R<|aZ<|Zk<|Ct (P:=prog) (λ(r:Int × Int)=>rI r.1) (λ(r:Int × Int)=>rI r.2) V iL (.t<|.d R)<|.t<|.d R
  exact Zd<|U _<|aU<|mM R<|AE V λx4 X h6=>xA R X<|mA R<|mA R<|aZ<|Zk<|Ct (P:=prog) (λ(r:Int × Int)=>rI r.1) (λ(r:Int × Int)=>rI r.2) h6 iL (.t<|.d R)<|.t<|.d R
 refine DH (λ(l:Int) (E:Int) C=>⟨[(1,rI s),(7,rI l),(24,qg d1.Nodes),(25,rL d1.Nodes),(26,rI E)],[],(C 0),43⟩) (AH [(n0+1)]) B wk ?_
 intro l E C v1 Y Z
 have h7:Nq d1 s l E=some v1:=Y;unfold Nq at h7
 refine aU<|xS R<|aZ<|aT λa0=>cI R h7 (λh8=>?_) λh8=>?_
 ·refine Zd<|a0 _<|aS λa1 a2 u=>Zf<|BA h8 λp1 a6 a7=>?_
  have J2:∀(q:Int) (i6:NN),p1=q→a1 ⟨[(1,rI s),(7,rI q),(24,qg d1.Nodes),(25,rL d1.Nodes),(26,rI E)],[],(i6 0),43⟩:=by
   intro q i6 e
   have h9:=a7 _ e
   exact a2 _<|aR<|AE h9 λx5 a8 aa=>xA R a8<|mM R<|Zi<|ZL aa (AH [(i6 0)]) wk
  refine aU<|AE a6 λx6 ab ac=>xI C0 R ab<|xB ((BY x6)) El R<|sS R (BB (cs:=I5) 9 R O2 R R)<|Zj R R (Ac (ds:=(BY x6)) R QH iL R iL R R R R)<|aZ<|aU<|lF EQ AJ R R<|AE ac λr1 ad ae=>cL (kw<|ad) R<|mM R<|xQ R<|aZ<|cI R ae (λw=>?_) λw=>?_
  ·refine aG [1,9,24,25,26] [9] ?_
   exact aR<|lF EQ AJ R R<|mA R<|Zi<|u _ _ wk<|J2 _ (AH [((C 0)+1)]) (Zb w).symm
  exact Zd<|u _ _ wk<|J2 _ (AH [((C 0)+1)]) (Zb w).symm
 exact Zn<|A _ _ wk<|J1 _ (AH [(C 0)])<|xH Z h8
theorem mw{d1 i r}(h:RL d1 i=some r):AO prog 95 [.agg [qg d1.Nodes],rI i] (rI r):=by
 unfold RL at h
 refine mF func95 ntmps95 R λA=>aU<|sS R (Az (cs:=[qg d1.Nodes]) 2 R iL R R)<|mA R<|aZ<|aT λq=>aU<|xC DT R<|mM R<|D2 h λB C j u=>cL (dT<|j) R<|mM R<|xX R<|xX R<|mA R<|mA R<|aZ<|aT λw=>aF [5,6] ?_
 refine aR<|mM R<|aZ<|w _<|cI R u (λl=>?_) λl=>?_
 ·exact aU<|mM R<|mA R<|aZ<|Zk<|yI l R
 exact Zd<|q _<|zI l R id
theorem Pr{j n r}(h:G9 j n=some r):AO prog 101 [qa j,rS n] (rS r):=by
 unfold G9 at h
 refine mF func101 ntmps101 R λY=>aU<|mA R<|aZ<|aS λZ c2 w=>aU<|mM R<|xL Af R<|mM R<|aZ<|Zf<|BJ h λo1 l A B=>?_
 have J1:∀(T:Unit) (U:NN),o1=.nrm T→Z ⟨[],[],(U 0),20⟩:=by
  intro T U e
  have h1:=A _ e
  exact c2 _<|aU<|mA R<|aZ<|Zk<|DE (P:=prog) (λ(r:(List UInt8))=>rS r) h1 iL<|.t<|.d R
 refine ZC (λ(C:Int) u=>⟨[(1,rS n),(7,qa j),(8,rL j),(9,rI C)],[],(u 0),20⟩) (AH [Y]) l wk ?_
 intro C u v1 E q
 have V:Q2 j n C=some v1:=E;unfold Q2 at V
 refine aU<|xS R<|aZ<|aT λc6=>cI R V (λF=>?_) λF=>?_
 ·refine Zd<|c6 _<|aT λc7=>Zf<|aU<|AE F λX I h4=>xI Af R I<|xB ((BL X)) CO R<|sS R (BB (cs:=[.r<|.str [],.r<|.str []]) 6 R P4 R R)<|Zj R R (Ac (ds:=(BL X)) R Nw iL R iL R R R R)<|aZ<|aU<|lF Cb BG R R<|mM R<|sQ R (CA R iL iL)<|aZ<|cI R h4 (λJ=>?_) λJ=>?_
  ·refine aT λM=>aG [6] [6] ?_
   exact aR<|lF IP BG R R<|mA R<|aZ<|M _<|Zk<|DE (P:=prog) (λ(r:(List UInt8))=>rS r) (B _<|xH q J) iL<|.t<|.d R
  exact Zd<|c7 _<|aR<|AE J λx5 O h6=>xA R O<|mM R<|Zi<|Zx h6 (AH [((u 0)+1)]) wk
 exact Zn<|w _ _ wk<|J1 _ (AH [(u 0)])<|xH q F
theorem qw{j m r}(h:QY j m=some r):AO prog 143 [.agg<|Ag j,rI m] (rB r):=by
 unfold QY at h
 exact mF func143 ntmps143 R λF=>aU<|sS R (Az (cs:=(Ag j)) 2 R iL R R)<|mA R<|aZ<|aU<|lF Cr BE R R<|AE h λI l w=>cL (Pr<|l) R<|sQ R (CA R iL iL)<|mM R<|vM R<|vQ R (Aw R (iR R) iL)<|vQ R (AK R<|iR R)<|wQ R (fB R Cr iL fR R)<|wQ R (AU (a:=qa j.Attrs) R BE (iR R) R R)<|AE w λA q B=>AM.stepW (.two R R R) R R (EG (r:=rS A) (caps:=[]) (bs:=[qa j.Attrs,.r<|.str [99,117,116]]) R iL R ⟨⟨_,(iR R),.d R⟩,⟨_,iL,.d R⟩,Za⟩ (λhg=>Pr<|AP q hg) R)<|wQ R (D7 R (iR R) iL)<|vQ R (BQ R (iR R)<|iR R)<|xO R<|mM R<|vM R<|vQ R (Aw R (iR R) iL)<|vQ R (AK R<|iR R)<|wQ R (fB R Cr iL fR R)<|wQ R (AU (a:=qa j.Attrs) R BE (iR R) R R)<|AE B λC u E=>AM.stepW (.two R R R) R R (EG (r:=rS C) (caps:=[]) (bs:=[qa j.Attrs,.r<|.str [97,100,100]]) R iL R ⟨⟨_,(iR R),.d R⟩,⟨_,iL,.d R⟩,Za⟩ (λhg=>Pr<|AP u hg) R)<|wQ R (D7 R (iR R) iL)<|vQ R (BQ R (iR R)<|iR R)<|xO R<|mA R<|aZ<|Zk<|yB E R
theorem m8{j m r}(h:Pg j m=some r):AO prog 97 [qb j,rI m] (.r<|.sl<|r.map<|Ak .i64):=by
 unfold Pg at h
 refine mF func97 ntmps97 R λI=>aU<|mA R<|aZ<|aU<|mA R<|aZ<|aS λK3 c3 M=>aU<|mM R<|xL Ar R<|mM R<|aZ<|Zf<|BA h λo1 C O=>?_
 have J1:∀(l:List Int) (J:NN),o1=l→K3 ⟨[(5,.own 5005<|J 0)],[(5005,some<|.arr (J 0) 3 1<|l.map<|Ak .i64)],(J 1),37⟩:=by
  intro l J e
  have h1:=O _ e
  exact c3 _<|aU<|mM R<|mA R<|aZ<|Zk<|DE (P:=prog) (λ(r:(List Int))=>.r<|.sl<|r.map<|Ak .i64) h1 iL<|.t<|.one<|.own R
 refine DH (λ(E:Int) (q:List Int) w=>⟨[(0,qb j),(1,rI m),(5,.own 5005<|w 0),(8,qb j),(9,rL j),(10,rI E)],[(5005,some<|.arr (w 0) 3 1<|q.map<|Ak .i64)],(w 1),37⟩) (AH [I,(I+1)]) C (Zm (Zm (G8 5 5005 3 1 (by decide) R)<|by exact ZD (e':=[(0,qb j),(1,rI m),(4,cZ),(5,.own 5005 I),(8,qb j),(9,rL j),(10,rI 0)]) (h':=[(5005,some<|.arr I 3 1<|([]:List Int).map<|Ak .i64)]) ⟨jL,jL,jL,jL,jL,jL,jL,Za⟩ ⟨.inl R,Za⟩ nL) wk) ?_
 intro E q w v1 T U
 have h2:NY j m E q=some v1:=T;unfold NY at h2
 refine aU<|xS R<|aZ<|aT λc7=>cI R h2 (λV=>?_) λV=>?_
 ·refine Zd<|c7 _<|aS λK8 c8 F=>Zf<|BA V λp1 X Y=>?_
  have J2:∀(u:List Int) (B:NN),p1=u→K8 ⟨[(0,qb j),(1,rI m),(5,.own 5005<|B 0),(8,qb j),(9,rL j),(10,rI E)],[(5005,some<|.arr (B 0) 3 1<|u.map<|Ak .i64)],(B 1),37⟩:=by
   intro u B e
   have h4:=Y _ e
   exact c8 _<|aR<|AE h4 λx4 Z h5=>xA R Z<|mM R<|Zi<|ZL h5 (AH [(B 0),(B 1)]) wk
  refine aU<|mM R<|AE X λx5 a0 h6=>xI Ar R a0<|xB ((Ag x5)) Cf R<|sS R (BB (cs:=Ec) 7 R EV R R)<|mA R<|Zj R R (Ac (ds:=(Ag x5)) R DK iL R iL R R R R)<|aZ<|aU<|xC Cf R<|mM R<|AE h6 λr1 a1 h7=>cL (qw<|a1) R<|sQ R (A3 R iL)<|mM R<|vM R<|vM R<|vQ R (Bq R Ar.slice<|iR R)<|AE h7 λx6 a2 h8=>vQ R (B5 R (iR R) iL<|AP a2)<|vQ R (Aw R (iR R)<|iR R)<|vQ R (AK R<|iR R)<|wQ R (fB R Eb iL fR R)<|wQ R (AU (a:=rI x5.Char) R AJ (iR R) R R)<|wQ R (Aw R (iR R) iL)<|vQ R (BQ R (iR R)<|iR R)<|xO R<|aZ<|cI R h8 (λh9=>?_) λh9=>?_
  ·refine aG [0,1,5,6,8,9,10] [5005] ?_
   exact aR<|mM R<|mM R<|sS R (Bm 33 R B8 (f:=(Ak .i64)) (l:=([E]:List Int)) ⟨R,⟨_,iL,R⟩,Za⟩ R (λ_=>R) R)<|AE h9 λa7 A a6=>sS R (Ci R B8 iL R (.inr<|.inl ⟨_,_,iL,R⟩) A)<|mA R<|Zi<|F _ _ wk<|J2 _ (AH [((w 1)+2),((w 1)+3)]) (Zb a6).symm
  exact Zd<|F _ _ wk<|J2 _ (AH [(w 0),((w 1)+1)]) (Zb h9).symm
 exact Zn<|M _ _ wk<|J1 _ (AH [(w 0),(w 1)])<|xH U V
theorem qo{d1 u b r}(h:MC d1 u b=some r):AO prog 47 [.agg [qg d1.Nodes],.agg<|Ab u,rS b] (.tup [.agg<|Bi r.1,rI r.2]):=by
 unfold MC at h
 refine mF func47 ntmps47 R λn0=>aU<|sS R (Az (cs:=[qg d1.Nodes]) 3 R iL R R)<|sS R (Az (cs:=(Ab u)) 4 R iL R R)<|sS R (BB (cs:=GD) 6 R WJ R R)<|mA R<|aZ<|aT λc2=>aU<|xC DT R<|AE h λe1 w h1=>cL (iE<|w) R<|mA R<|aZ<|aU<|mM R<|xU R<|aZ<|cI R h1 (λA=>?_) λA=>?_
 ·refine aT λc5=>aG [6,8] [6] ?_
  refine aR ?_
  refine sQ R (BM R OI (q:=[]) (by exact Za) (cs:=GD)<|by rfl) ?_
  refine mM R<|Zj R R (Ac (ds:=GD) R Jc iL R iL R R R R)<|mA R<|oZ c5 ?_
  exact Zk<|Ct (P:=prog) (λ(r:Cd × Int)=>.agg<|Bi r.1) (λ(r:Cd × Int)=>rI r.2) A iL (.a LI R R R<|.agg<|by exact⟨.closed _ R,.closed _ R,.nil,.nil,.closed _ R,.closed _ R,.nil,.nil,.nil,.nil,.closed _ R,Za⟩)<|.t<|.d R
 refine Zd<|c2 _<|aU<|xC DT R<|lF Lz AJ R R<|AE A λi1 B h3=>cL (mw<|B) R<|mA R<|aZ<|aT λc7=>aT λc8=>aG [2,3,4,6,9] [3,4,6] ?_
 refine aR<|mM R<|xS R<|aZ<|c8 _<|cI R h3 (λC=>?_) λC=>?_
 ·refine aT λc9=>aR ?_
  refine sQ R (BM R OI (q:=[]) (by exact Za) (cs:=GD)<|by rfl) ?_
  refine Zj R R (Ac (ds:=GD) R Jc iL R iL R R R R)<|mA R<|oZ c9 ?_
  exact Zk<|Ct (P:=prog) (λ(r:Cd × Int)=>.agg<|Bi r.1) (λ(r:Cd × Int)=>rI r.2) C iL (.a LI R R R<|.agg<|by exact⟨.closed _ R,.closed _ R,.nil,.nil,.closed _ R,.closed _ R,.nil,.nil,.nil,.nil,.closed _ R,Za⟩)<|.t<|.d R
 refine Zd<|c7 _<|aT λE=>aR<|lF Dd DZ R R<|mM R<|AE C λj F h5=>xI C0 R F<|xB ((BY j)) El R<|mM R ?_
 refine sQ R (BM R OI (q:=[(0,_),(10,_)]) (by exact⟨R,R,R,iL,R,R,R,iL,Za⟩) (cs:=[rI j.ID,rI j.Kind,qa j.Attrs,qb j.Flow,rI j.Grid.Rows,rI j.Grid.Cols,qe j.Grid.Cells,qc j.Grid.Merges,qf j.Draw,cZ,rS b])<|by rfl) ?_
 refine sS R (BB (cs:=GD) 10 R WJ R R)<|Zj R R (Ac (ds:=[rI j.ID,rI j.Kind,qa j.Attrs,qb j.Flow,rI j.Grid.Rows,rI j.Grid.Cols,qe j.Grid.Cells,qc j.Grid.Merges,qf j.Draw,cZ,rS b]) R Jc iL R iL R R R R)<|aZ<|E _<|aT λI=>aT λJ=>aG [2,4,6,10] [4,6,10] ?_
 refine aR<|sQ R (fB R OQ iL fR R)<|lF CR AJ R R<|AE h5 λr1 M h6=>cL (X0<|M) R<|sQ R (A3 R iL)<|aZ<|J _<|cI R h6 (λO=>?_) λO=>?_
 ·refine aT λT=>aR ?_
  refine sQ R (BM R OI (q:=[]) (by exact Za) (cs:=GD)<|by rfl) ?_
  refine Zj R R (Ac (ds:=GD) R Jc iL R iL R R R R)<|mA R<|oZ T ?_
  exact Zk<|Ct (P:=prog) (λ(r:Cd × Int)=>.agg<|Bi r.1) (λ(r:Cd × Int)=>rI r.2) O iL (.a LI R R R<|.agg<|by exact⟨.closed _ R,.closed _ R,.nil,.nil,.closed _ R,.closed _ R,.nil,.nil,.nil,.nil,.closed _ R,Za⟩)<|.t<|.d R
 refine Zd<|I _<|aU<|sQ R (fB R OQ iL fR R)<|lF Em B0 R R<|AE O λq U h8=>sS R (B4 (r:=.r<|.sl<|q.map<|Ak .i64) (caps:=[]) (bs:=[qb j.Flow,rI 0]) R iL R ⟨.inl ⟨iL,R⟩,.inl ⟨iL,R⟩,Za⟩ λ_=>m8<|U)<|sQ R (fB R N2 iL fR R)<|Zj R R (Ac (ds:=[rI j.ID,rI j.Kind,qa j.Attrs,qb j.Flow,rI j.Grid.Rows,rI j.Grid.Cols,qe j.Grid.Cells,qc j.Grid.Merges,qf j.Draw,.r<|.sl<|q.map<|Ak .i64,rS b]) R lg iL R iL R R R R)<|aZ<|aT λV=>aT λX=>aG [2,4,6,10] [4,6,10] ?_
 refine aR<|lF GW AJ R R<|xS R<|mM R<|vF L7 AJ R R<|vF GW AJ R R<|vQ R (B7 R (iR R)<|iR R)<|xO R<|mM R<|vF L7 AJ R R<|vF N2 OR R R<|vQ R (Bq R B8.slice<|iR R)<|vQ R (Cv R (iR R)<|iR R)<|xO R<|aZ<|X _<|cI R h8 (λY=>?_) λY=>?_
 ·refine aT λZ=>aG [6] [6] ?_
  refine aR ?_
  refine sQ R (BM R OI (q:=[]) (by exact Za) (cs:=GD)<|by rfl) ?_
  refine Zj R R (Ac (ds:=GD) R Jc iL R iL R R R R)<|mA R<|oZ Z ?_
  exact Zk<|Ct (P:=prog) (λ(r:Cd × Int)=>.agg<|Bi r.1) (λ(r:Cd × Int)=>rI r.2) Y iL (.a LI R R R<|.agg<|by exact⟨.closed _ R,.closed _ R,.nil,.nil,.closed _ R,.closed _ R,.nil,.nil,.nil,.nil,.closed _ R,Za⟩)<|.t<|.d R
 refine Zd<|V _<|aT λa0=>aT λa1=>aG [2,6,10] [6,10] ?_
 refine aR<|mM R<|sQ R (D7 R iL iL)<|mM R<|vM R<|AE Y λr3 a2 a6=>vL (λhg=>Xw<|AP a2 hg) R<|vQ R (A3 R<|iR R)<|xN R<|aZ<|a1 _<|cI R a6 (λl=>?_) λl=>?_
 ·refine aT λa7=>aG [6] [6] ?_
  refine aR ?_
  refine sQ R (BM R OI (q:=[]) (by exact Za) (cs:=GD)<|by rfl) ?_
  refine Zj R R (Ac (ds:=GD) R Jc iL R iL R R R R)<|mA R<|oZ a7 ?_
  exact Zk<|Ct (P:=prog) (λ(r:Cd × Int)=>.agg<|Bi r.1) (λ(r:Cd × Int)=>rI r.2) l iL (.a LI R R R<|.agg<|by exact⟨.closed _ R,.closed _ R,.nil,.nil,.closed _ R,.closed _ R,.nil,.nil,.nil,.nil,.closed _ R,Za⟩)<|.t<|.d R
 exact Zd<|a0 _<|aU<|xC LI R<|Zj R R (Ac (ds:=[rI j.ID,rI j.Kind,qa j.Attrs,qb j.Flow,rI j.Grid.Rows,rI j.Grid.Cols,qe j.Grid.Cells,qc j.Grid.Merges,qf j.Draw,.r<|.sl<|q.map<|Ak .i64,rS b]) R Jc iL R iL R R R R)<|mA R<|aZ<|Zk<|Ct (P:=prog) (λ(r:Cd × Int)=>.agg<|Bi r.1) (λ(r:Cd × Int)=>rI r.2) l iL (.a LI R R R<|.g (cs:=[.int .i64 j.ID,.int .i64 j.Kind,.sl<|j.Attrs.map AC.row,.sl<|j.Flow.map AG.row,.int .i64 j.Grid.Rows,.int .i64 j.Grid.Cols,.sl<|j.Grid.Cells.map A0.row,.sl<|j.Grid.Merges.map Ax.row,.sl<|j.Draw.map BS.row,.sl<|q.map<|Ak .i64,.str b]) R R)<|.t<|.d R
theorem eL{l:Cd}{E:Int}{r:AG}{j:Nat}(h:Ll l E=some r):Bf prog 74 1 [.ptr 1000 j 0 0,rI E] [(1000,some<|.box j 102<|Bi l)] (λu h'=>∃(i:Nat→Nat),u=.agg (Ag r)∧h'=[(1000,some<|.box j 102<|Bi l)]):=by
 unfold Ll at h
 refine EI func74 R R ntmps74 (Zz R) λq=>aU<|sS R (BB (cs:=Ec) 4 R EV R R)<|aZ<|aT λF=>aU<|mM R<|xS R<|mM R<|vM R<|vM R<|vQ R (Bz (ob:=.box _ _ _) R (iR R) fR R)<|vQ R (fB R N2 (iR R) fR R)<|vQ R (AU (a:=.r<|.sl<|l.shown.map<|Ak .i64) R OR (iR R) R R)<|vQ R (Bq R B8.slice<|iR R)<|vQ R (Cv R (iR R)<|iR R)<|xO R<|aZ<|cI R h (λA=>?_) λA=>?_
 ·refine aT λI=>aG [4] [4,1000] ?_
  refine aR ?_
  refine sQ R (BM R JJ (q:=[(0,_)]) (by exact⟨R,R,R,iL,Za⟩) (cs:=GC)<|by rfl) ?_
  refine Zj R R (Ac (ds:=GC) R DK iL R iL R R R R)<|oZ I ?_
  exact Zk<|CM.mk (s':=⟨[(4,.ptr 4 q 0 0)],[(4,some<|.box q 51 [rI 10,rI 0,.r<|.sl []]),(1000,some<|.box j 102<|Bi l)],(q+1),31⟩) ((by exact ZD ⟨jL,Za⟩ ⟨.inr<|.inr ⟨_,_,_,_,R,R,⟨.inl R,.inl R,.inr<|.inr ⟨R,R⟩,Za⟩⟩,.inl R,Za⟩ nL))<|Ck (λ(r:AG) u h'=>∃(i:Nat→Nat),u=.agg (Ag r)∧h'=[(1000,some<|.box j 102<|Bi l)]) A<|by exact⟨.agg [rI 10,rI 0,.r<|.sl []],[(1000,some<|.box j 102<|Bi l)],.inr ⟨_,R,Cf,_,_,_,R,R⟩,⟨.inr R,Za⟩,R,R,AH [],R,R⟩
 refine Zd<|F _<|aT λJ=>aG [0,1,4] [4,1000] ?_
 refine L5 14 BF (by kernel_rfl) R R ?_
 refine Zu R R R (AK R iL)<|Zu R R R (Bz (ob:=.box _ _ _) R iL fR R)<|Zu R R R (fB R OQ iL fR R)<|Zu R R R (fB R Em iL fR R)<|Zu R R R (AU (a:=qb l.node.Flow) R B0 iL R R)<|Zu R R R (AK R iL)<|Zu R R R (Bz (ob:=.box _ _ _) R iL fR R)<|Zu R R R (fB R N2 iL fR R)<|Zu R R R (AU (a:=.r<|.sl<|l.shown.map<|Ak .i64) R OR iL R R)<|Zu R R R (AK R iL)<|AE A λM B O=>Zu R R R (At R B8.slice iL iL (λ_=>R) λ_=>B)<|Zu R R R (BV (d:=.int .i64 M) R AJ iL R)<|AE O λw C T=>Zu R R R (At R Ar.slice iL iL (λ_=>R) λ_=>C)<|Zu R R R (CV (cs:=(Ag w)) R Cf iL R R)<|AT.nil<|Zj R R (Ac (ds:=(Ag w)) R DK iL R iL R R R R)<|oZ J ?_
 exact Zk<|CM.mk (s':=⟨[(4,.ptr 4 q 0 0)],[(4,some<|.box q 51<|Ag w),(1000,some<|.box j 102<|Bi l)],(q+1),31⟩) wk<|Ck (λ(r:AG) u h'=>∃(i:Nat→Nat),u=.agg (Ag r)∧h'=[(1000,some<|.box j 102<|Bi l)]) T<|by exact⟨.agg<|Ag w,[(1000,some<|.box j 102<|Bi l)],.inr ⟨_,R,Cf,_,_,_,R,R⟩,⟨.inr R,Za⟩,R,R,AH [],R,R⟩
theorem jR{j v1 r}(h:UM j v1=some r):AO prog 146 [.r<|.sl<|j.map Tj,rS v1] (rI r):=by
 unfold UM at h
 refine mF func146 ntmps146 R λX=>aU<|mA R<|aZ<|aS λY Z w=>aU<|mM R<|xL Wg R<|mM R<|aZ<|Zf<|BJ h λo1 l A B=>?_
 have J1:∀(T:Unit) (U:NN),o1=.nrm T→Y ⟨[],[],(U 0),19⟩:=by
  intro T U e
  have h1:=A _ e
  exact Z _<|zI h1 R id
 refine ZC (λ(C:Int) u=>⟨[(0,.r<|.sl<|j.map Tj),(1,rS v1),(7,rL j),(8,rI C)],[],(u 0),19⟩) (AH [X]) l wk ?_
 intro C u v2 E q
 have V:Ms j v1 C=some v2:=E;unfold Ms at V
 refine aU<|xS R<|aZ<|aT λc6=>cI R V (λF=>?_) λF=>?_
 ·refine Zd<|c6 _<|aT λc7=>Zf<|aU<|mM R<|mA R<|aZ<|aU<|mM R<|mM R<|mM R<|AE F λx4 I h4=>xI Wg R I<|xV (.str x4) BG R<|sQ R (CA R iL iL)<|aZ<|cI R h4 (λJ=>?_) λJ=>?_
  ·refine aT λM=>aF [5] ?_
   exact aR<|mM R<|mA R<|aZ<|M _<|Zk<|yI (B _<|xH q J) R
  refine Zd<|c7 _<|aF [0,1,7,8] ?_
  exact aR<|AE J λx5 O h6=>xA R O<|mM R<|Zi<|Zx h6 (AH [(u 0)]) wk
 exact Zn<|w _ _ wk<|J1 _ (AH [(u 0)])<|xH q F
theorem lC{l v1 r}(h:QB l v1=some r):AO prog 103 [.r<|.sl<|l.map Tj,rS v1] (rB r):=by
 unfold QB at h
 exact mF func103 ntmps103 R λu=>aU<|mA R<|aZ<|aU<|mM R<|mM R<|AE h λw j q=>cL (jR<|j) R<|sQ R (Cv R iL iL)<|mA R<|aZ<|Zk<|yB q R
theorem pR{n r}(h:PG n=some r):AO prog 100 [rS n] (rB r):=by
 unfold PG at h
 exact mF func100 ntmps100 R λq=>aU<|mA R<|aZ<|aU<|sS R (Bm 3 R Wg (f:=Tj) (l:=([[98,111,108,100],[105,116,97,108,105,99],[117,110,100,101,114],[115,116,114,105,107,101],[102,105,120,101,100],[114,97,105,115,101],[115,105,122,101],[99,111,108,111,117,114],[108,97,110,103],[115,116,121,108,101]]:List (List UInt8))) ⟨R,⟨_,iL,R⟩,R,⟨_,iL,R⟩,R,⟨_,iL,R⟩,R,⟨_,iL,R⟩,R,⟨_,iL,R⟩,R,⟨_,iL,R⟩,R,⟨_,iL,R⟩,R,⟨_,iL,R⟩,R,⟨_,iL,R⟩,R,⟨_,iL,R⟩,Za⟩ R (λ_=>R) R)<|mM R<|AE h λu j l=>cL (lC<|j) R<|mA R<|aZ<|Zk<|yB l R
theorem jh{n r}(h:Qq n=some r):AO prog 69 [rS n] (rB r):=by
 unfold Qq at h
 refine mF func69 ntmps69 R λA=>aU<|mA R<|aZ<|aT λq=>aR<|mM R<|sQ R (CA R iL iL)<|mM R<|vM R<|vQ R (CA R (iR R) iL)<|xO R<|mM R<|vM R<|vQ R (Dl R underlying9<|iR R)<|vQ R (BD R (iR R) iL)<|vQ R (AK R<|iR R)<|wQ R (AK R iL)<|AE h λB j u=>?_
 refine wQ R (Pe R underlying9 (iR R) (by exact R) (by exact⟨_,iL⟩)<|AP j) ?_
 refine wQ R (CA R (iR R) iL)<|vQ R (BQ R (iR R)<|iR R)<|xO R<|mM R<|vM R<|vQ R (Dl R underlying9<|iR R)<|vQ R (BD R (iR R) iL)<|vQ R (AK R<|iR R)<|wQ R (AK R iL)<|AE u λC l w=>?_
 refine wQ R (Pe R underlying9 (iR R) (by exact R) (by exact⟨_,iL⟩)<|AP l) ?_
 exact wQ R (CA R (iR R) iL)<|vQ R (BQ R (iR R)<|iR R)<|xO R<|mA R<|aZ<|q _<|Zk<|yB w R
theorem Wu{w:List AC}{A:AC}{B:AC}{r:(List AC)}{j:Nat}{l:Nat}(h:Kc w A B=some r):Bf prog 145 2 [.agg<|BL A,.agg<|BL B,.ptr 1000 j 0 0] [(1000,some<|.box j 39 [.own 1001 l]),(1001,some<|.arr l 58 2<|w.map AC.row)] (λu h'=>∃(i:Nat→Nat),u=.tup []∧h'=[(1000,some<|.box j 39 [.own 1001<|i 0]),(1001,some<|.arr (i 0) 58 2<|r.map AC.row)]):=by
 unfold Kc at h
 refine EI func145 R R ntmps145 (Zz R) λq=>aU<|sS R (Az (cs:=(BL A)) 3 R iL R R)<|sS R (Az (cs:=(BL B)) 4 R iL R R)<|aZ<|Zf<|aU<|lF Cb BG R R<|sQ R (CA R iL iL)<|mA R<|aZ<|cI R h (λC=>?_) λC=>?_
 ·refine aR<|sQ R (AU (a:=.own 1001 l) R BE iL R R)<|xC CO R<|sS R (Bm 11 R Af (f:=AC.row) (l:=([A]:List AC)) ⟨R,⟨_,iL,R⟩,Za⟩ R (λ_=>R) R)<|AE C λJ E O=>sS R (Ci R Af iL R (.inr<|.inl ⟨_,_,iL,R⟩) E)<|Zj R R (Ac (ds:=[.own 1001<|q+3]) R GZ iL R iL R R R R)<|Zi ?_
  exact CM.mk (s':=⟨[],[(1000,some<|.box j 39 [.own 1001<|q+3]),(1001,some<|.arr (q+3) 58 2<|J.map AC.row)],(q+4),21⟩) wk<|Ck (λ(r:(List AC)) u h'=>∃(i:Nat→Nat),u=.tup []∧h'=[(1000,some<|.box j 39 [.own 1001<|i 0]),(1001,some<|.arr (i 0) 58 2<|r.map AC.row)]) O<|by exact⟨.tup [],[(1000,some<|.box j 39 [.own 1001<|q+3]),(1001,some<|.arr (q+3) 58 2<|J.map AC.row)],⟨_,R,Za⟩,⟨.inr R,.inr R,Za⟩,R,R,AH [(q+3)],R,R⟩
 refine aU<|lF IP BG R R<|sQ R (D7 R iL iL)<|mA R<|aZ<|cI R C (λF=>?_) λF=>?_
 ·refine aG [2,4] [4,1000,1001] ?_
  refine aR<|sQ R (AU (a:=.own 1001 l) R BE iL R R)<|xC CO R<|sS R (Bm 19 R Af (f:=AC.row) (l:=([B]:List AC)) ⟨R,⟨_,iL,R⟩,Za⟩ R (λ_=>R) R)<|AE F λM I T=>sS R (Ci R Af iL R (.inr<|.inl ⟨_,_,iL,R⟩) I)<|Zj R R (Ac (ds:=[.own 1001<|q+3]) R GZ iL R iL R R R R)<|Zi ?_
  exact CM.mk (s':=⟨[],[(1000,some<|.box j 39 [.own 1001<|q+3]),(1001,some<|.arr (q+3) 58 2<|M.map AC.row)],(q+4),21⟩) wk<|Ck (λ(r:(List AC)) u h'=>∃(i:Nat→Nat),u=.tup []∧h'=[(1000,some<|.box j 39 [.own 1001<|i 0]),(1001,some<|.arr (i 0) 58 2<|r.map AC.row)]) T<|by exact⟨.tup [],[(1000,some<|.box j 39 [.own 1001<|q+3]),(1001,some<|.arr (q+3) 58 2<|M.map AC.row)],⟨_,R,Za⟩,⟨.inr R,.inr R,Za⟩,R,R,AH [(q+3)],R,R⟩
 refine Zd ?_
 exact CM.mk (s':=⟨[],[(1000,some<|.box j 39 [.own 1001 l]),(1001,some<|.arr l 58 2<|w.map AC.row)],(q+2),21⟩) wk<|Ck (λ(r:(List AC)) u h'=>∃(i:Nat→Nat),u=.tup []∧h'=[(1000,some<|.box j 39 [.own 1001<|i 0]),(1001,some<|.arr (i 0) 58 2<|r.map AC.row)]) F<|by exact⟨.tup [],[(1000,some<|.box j 39 [.own 1001 l]),(1001,some<|.arr l 58 2<|w.map AC.row)],⟨_,R,Za⟩,⟨.inr R,.inr R,Za⟩,R,R,AH [l],R,R⟩
theorem tX{c1:List AC}{B:List AC}{C:List AC}{r:(List AC)}{j:Nat}{l:Nat}(h:Pb c1 B C=some r):Bf prog 144 2 [qa B,qa C,.fn 145 [.ptr 1000 j 0 0]] [(1000,some<|.box j 39 [.own 1001 l]),(1001,some<|.arr l 58 2<|c1.map AC.row)] (λE h'=>∃(i:Nat→Nat),E=.tup []∧h'=[(1000,some<|.box j 39 [.own 1001<|i 0]),(1001,some<|.arr (i 0) 58 2<|r.map AC.row)]):=by
 unfold Pb at h
 refine EI func144 R R ntmps144 (Zz R) λn0=>aU<|mA R<|mA R<|aZ<|Zf<|BJ h λo4 w av F=>IU (λ(I:Int) (J:Int) (o2:List AC) q=>⟨[(0,qa B),(1,qa C),(2,.fn 145 [.ptr 1000 j 0 0]),(6,rI I),(7,rI J)],[(1000,some<|.box j 39 [.own 1001<|q 0]),(1001,some<|.arr (q 0) 58 2<|o2.map AC.row)],(q 1),92⟩) (AH [l,n0]) w wk ?_
 intro I J o2 q v1 M O
 have h1:Qo B C I J o2=some v1:=M;unfold Qo at h1
 refine aT λC2=>aU<|mM R<|mM R<|xL Af R<|xS R<|mM R<|vM R<|vM R<|vQ R (Bq R Af.slice<|iR R)<|vQ R (B7 R (iR R)<|iR R)<|xO R<|aZ<|cI R h1 (λT=>?_) λT=>?_
 ·refine Zd<|C2 _<|Zf<|Zf<|aT λC4=>?_
  refine ZB BF (by kernel_rfl) ?_
  refine qP R (AK R iL)<|qP R (AK R iL)<|qP R (Bq R Af.slice iL)<|qP R (Aw R iL iL)<|qP R (AK R iL)<|qO R (AK R iL)<|qO R (AK R iL)<|qO R (Bq R Af.slice<|iR R)<|qO R (B7 R (iR R)<|iR R)<|qO R (AK R<|iR R)<|qT R (AK R iL)<|qT R (AK R iL)<|AE T λx1 U h3=>qT R (At R Af.slice (iR R) (iR R) (λ_=>R)<|AP U)<|qT R (A6 R Cb<|iR R)<|qT R (BV (d:=.str x1.Name) R BG (iR R) R)<|qT R (AK R iL)<|qT R (AK R iL)<|AE h3 λx2 V h4=>qT R (At R Af.slice (iR R) (iR R) (λ_=>R)<|AP V)<|qT R (A6 R Cb<|iR R)<|qT R (BV (d:=.str x2.Name) R BG (iR R) R)<|qT R (Lr R (iR R)<|iR R)<|qO R (BQ R (iR R)<|iR R)<|qP R (CB R iL<|iR R)<|qP R (DU R iL)<|AQ.nil<|C4 _<|cI R h4 (λX=>?_) λX=>?_
  ·refine aT λC5=>aG [0,1,2,6,7] [1000,1001] ?_
   refine aR<|mM R<|mM R<|mM R<|AE X λx3 Y h6=>xI Af R Y<|xB ((BL x3)) CO R ?_
   refine sQ R (BM R Fo (q:=[]) (by exact Za) (cs:=[.r<|.str [],.r<|.str []])<|by rfl) ?_
   refine AE h6 λw1 Z h7=>?_
   refine Zq [1000,1001] (hc:=[(1000,some<|.box j 39 [.own 1001<|q 0]),(1001,some<|.arr (q 0) 58 2<|o2.map AC.row)]) (bs:=(VS x3)) (caps:=[.ptr 1000 j 0 0]) R R R R iL R ⟨.inl ⟨iL,R⟩,.inl ⟨iL,R⟩,Za⟩ ⟨R,R,R,R,R,R,Za⟩ (by decide) (Wu Z) ?_
   intro i8 n1
   refine BC [0,1,2,6,7,56,57,58,59,60,61,62] [1000,1001] ?_
   exact aZ<|C5 _<|aR<|mM R<|AE h7 λi9 a0 h8=>xA R a0<|mA R<|Zi<|Dv.mk h8 (AH [(i8 0),n1]) wk
  refine aT λC6=>aG [0,1,2,6,7] [1000,1001] ?_
  refine ZB BF (by kernel_rfl) ?_
  refine qP R (AK R iL)<|qP R (AK R iL)<|qP R (Bq R Af.slice iL)<|qP R (Aw R iL iL)<|qP R (AK R iL)<|qO R (AK R iL)<|qO R (AK R iL)<|AE X λx4 a2 h9=>qO R (At R Af.slice (iR R) (iR R) (λ_=>R)<|AP a2)<|qO R (A6 R Cb<|iR R)<|qO R (BV (d:=.str x4.Name) R BG (iR R) R)<|qO R (AK R iL)<|qO R (AK R iL)<|AE h9 λx5 a6 a7=>qO R (At R Af.slice (iR R) (iR R) (λ_=>R)<|AP a6)<|qO R (A6 R Cb<|iR R)<|qO R (BV (d:=.str x5.Name) R BG (iR R) R)<|qO R (Lr R (iR R)<|iR R)<|qP R (CB R iL<|iR R)<|qP R (DU R iL)<|AQ.nil<|C6 _<|cI R a7 (λu=>?_) λu=>?_
  ·refine aT λC7=>aR<|mM R ?_
   refine sQ R (BM R Fo (q:=[]) (by exact Za) (cs:=[.r<|.str [],.r<|.str []])<|by rfl) ?_
   refine mM R<|mM R<|AE u λx6 a8 aa=>xI Af R a8<|xB ((BL x6)) CO R<|AE aa λw2 ab ac=>?_
   refine Zq [1000,1001] (hc:=[(1000,some<|.box j 39 [.own 1001<|q 0]),(1001,some<|.arr (q 0) 58 2<|o2.map AC.row)]) (bs:=(Uk x6)) (caps:=[.ptr 1000 j 0 0]) R R R R iL R ⟨.inl ⟨iL,R⟩,.inl ⟨iL,R⟩,Za⟩ ⟨R,R,R,R,R,R,Za⟩ (by decide) (Wu ab) ?_
   intro ad n2
   refine BC [0,1,2,6,7,65,66,67,68,69,70,82,83,84,85,86,87,88,89] [1000,1001] ?_
   refine aZ<|C7 _<|aG [0,1,2,6,7] [1000,1001] ?_
   exact aR<|mM R<|AE ac λj4 ae af=>xA R ae<|mA R<|Zi<|Dv.mk af (AH [(ad 0),n2]) wk
  refine aT λC8=>?_
  refine L5 9 BF (by kernel_rfl) R R ?_
  refine Zu R R R (AK R iL)<|Zu R R R (AK R iL)<|Zu R R R (AK R iL)<|AE u λx7 ag ah=>Zu R R R (At R Af.slice iL iL (λ_=>R) λ_=>ag)<|Zu R R R (CV (cs:=(BL x7)) R CO iL R R)<|Zu R R R (AK R iL)<|Zu R R R (AK R iL)<|AE ah λx8 ai aj=>Zu R R R (At R Af.slice iL iL (λ_=>R) λ_=>ai)<|Zu R R R (CV (cs:=(BL x8)) R CO iL R R)<|AT.nil<|AE aj λw3 ak al=>?_
  refine Zq [1000,1001] (hc:=[(1000,some<|.box j 39 [.own 1001<|q 0]),(1001,some<|.arr (q 0) 58 2<|o2.map AC.row)]) (bs:=[.agg<|BL x7,.agg<|BL x8]) (caps:=[.ptr 1000 j 0 0]) R R R R iL R ⟨.inl ⟨iL,R⟩,.inl ⟨iL,R⟩,Za⟩ ⟨R,R,R,R,R,R,Za⟩ (by decide) (Wu ak) ?_
  intro an n3
  refine BC [0,1,2,6,7,18,19,20,21,22,23,24,25,26,27,65,66,67,68,69,70,82] [1000,1001] ?_
  refine aZ<|C8 _<|aG [0,1,2,6,7] [1000,1001] ?_
  exact aR<|mM R<|AE al λaw A ao=>xA R A<|mM R<|AE ao λj5 aq ar=>xA R aq<|mA R<|mA R<|Zi<|Dv.mk ar (AH [(an 0),n3]) wk
 refine Zn ?_
 exact CM.mk (s':=⟨[],[(1000,some<|.box j 39 [.own 1001<|q 0]),(1001,some<|.arr (q 0) 58 2<|o2.map AC.row)],(q 1),92⟩) wk<|Ck (λ(r:(List AC)) E h'=>∃(i:Nat→Nat),E=.tup []∧h'=[(1000,some<|.box j 39 [.own 1001<|i 0]),(1001,some<|.arr (i 0) 58 2<|r.map AC.row)]) (F _<|xH O T)<|by exact⟨.tup [],[(1000,some<|.box j 39 [.own 1001<|q 0]),(1001,some<|.arr (q 0) 58 2<|o2.map AC.row)],⟨_,R,Za⟩,⟨.inr R,.inr R,Za⟩,R,R,AH [(q 0)],R,R⟩
theorem YR{l c r}(h:L4 l c=some r):AO prog 102 [qa l,qa c] (qa r):=by
 unfold L4 at h
 refine mF func102 ntmps102 R λj=>aU<|mA R<|aZ<|aU<|sS R (BB (cs:=[cZ]) 5 R WB R R)<|aZ<|aT λu=>aR<|mM R<|mM R ?_
 refine sQ R (RD (bs:=[.ptr 5 j 0 0]) R<|by exact⟨iL,Za⟩) ?_
 refine AM.weak (Zm (ZN 5 0 3050 58 2 (by decide) R R<|by decide)<|by exact ZD (e':=[(0,qa l),(1,qa c),(4,cZ),(5,.ptr 5 j 0 0),(6,qa l),(7,qa c),(8,.fn 145 [.ptr 5 j 0 0])]) (h':=[(5,some<|.box j 39 [.own 3050<|j+1]),(3050,some<|.arr (j+1) 58 2<|([]:List AC).map AC.row)]) ⟨jL,jL,jL,jL,jL,jL,jL,Za⟩ ⟨.inl R,.inl R,Za⟩ nL) ?_
 refine AE h λB q w=>?_
 refine Zq [5,3050] (hc:=[(1000,some<|.box j 39 [.own 1001<|j+1]),(1001,some<|.arr (j+1) 58 2<|([]:List AC).map AC.row)]) (bs:=[qa l,qa c,.fn 145 [.ptr 1000 j 0 0]]) (caps:=[]) R R R R iL R ⟨.inl ⟨iL,R⟩,.inl ⟨iL,R⟩,.inl ⟨iL,R⟩,Za⟩ ⟨R,R,R,R,R,R,Za⟩ (by decide) (tX q) ?_
 intro A C
 refine BC [0,1,4,5,6,7,8,9] [5,3050] ?_
 exact aZ<|u _<|aU<|sQ R (AU (a:=.own 3050<|A 0) R BE iL R R)<|mA R<|aZ<|Zk<|DE (P:=prog) (λ(r:(List AC))=>qa r) w iL<|.t<|.one<|.own R
theorem ua{A:Cd}{I:Int}{r:(List AC)}{j:Nat}(h:Nh A I=some r):Bf prog 50 1 [.ptr 1000 j 0 0,rI I] [(1000,some<|.box j 102<|Bi A)] (λrr h'=>∃(i:Nat→Nat),rr=qa r∧h'=[(1000,some<|.box j 102<|Bi A)]):=by
 unfold Nh at h
 refine EI func50 R R ntmps50 (Zz R) λn0=>aU<|mA R<|aZ<|aT λc2=>aR<|mM R<|mM R<|AE h λx1 aq h1=>sQ R (B5 R iL iL λ_=>aq)<|AE h1 λB ar h2=>?_
 refine Zq [1000] (hc:=[(1000,some<|.box j 102<|Bi A)]) (bs:=[.ptr 1000 j 0 0,rI x1]) (caps:=[]) R R R R iL R ⟨.inl ⟨iL,R⟩,.inl ⟨iL,R⟩,Za⟩ ⟨R,R,R,Za⟩ (by decide) (eL ar) ?_
 intro i1 n1
 refine BC [0,1,4,13,14,15,16] [1000] ?_
 refine mM R<|mM R<|AE h2 λE av h3=>?_
 refine Zq [1000] (hc:=[(1000,some<|.box j 102<|Bi A)]) (bs:=[.ptr 1000 j 0 0,rI I]) (caps:=[]) R R R R iL R ⟨.inl ⟨iL,R⟩,.inl ⟨iL,R⟩,Za⟩ ⟨R,R,R,Za⟩ (by decide) (eL av) ?_
 intro i2 q
 refine BC [0,1,4,13,14,15,16,17,18,19] [1000] ?_
 refine sS R (BB (cs:=Ec) 5 R EV R R)<|sS R (BB (cs:=Ec) 6 R EV R R)<|Zj R R (Ac (ds:=(Ag B)) R DK iL R iL R R R R)<|Zj R R (Ac (ds:=(Ag E)) R DK iL R iL R R R R)<|aZ<|c2 _<|aT λc3=>aG [1,5,6] [5,6,1000] ?_
 refine aR<|xC Cf R<|sS R (BB (cs:=Ec) 7 R EV R R)<|Zj R R (Ac (ds:=(Ag B)) R DK iL R iL R R R R)<|aZ<|c3 _<|aS λK4 c4 ae=>aU<|lF Eb AJ R R<|xQ R<|aZ<|BA h3 λp1 af aw=>?_
 have J1:∀(l:AG) (V:NN),p1=l→K4 ⟨[(1,rI I),(5,.ptr 5 q 0 0),(6,.ptr 6 (q+1) 0 0),(7,.ptr 7 (q+2) 0 0)],[(5,some<|.box q 51<|Ag B),(6,some<|.box (q+1) 51<|Ag E),(7,some<|.box (q+2) 51<|Ag l),(1000,some<|.box j 102<|Bi A)],(V 0),73⟩:=by
  intro l V e
  have h4:=aw _ e
  refine c4 _<|aU<|mA R<|aZ<|aS λK7 c7 ag=>aU<|lF Eb AJ R R<|xU R<|aZ<|BA h4 λp2 ah ax=>?_
  have J2:∀(J:List AC) (i4:NN),p2=J→K7 ⟨[(1,rI I),(5,.ptr 5 q 0 0),(6,.ptr 6 (q+1) 0 0),(8,.own 5008<|i4 0)],[(5,some<|.box q 51<|Ag B),(6,some<|.box (q+1) 51<|Ag E),(1000,some<|.box j 102<|Bi A),(5008,some<|.arr (i4 0) 58 2<|J.map AC.row)],(i4 1),73⟩:=by
   intro J i4 e
   have h5:=ax _ e
   refine c7 _<|aS λK9 c9 ay=>aU<|lF Cr BE R R<|xL Af R<|mM R<|aZ<|Zf<|BA h5 λo1 ai az=>?_
   have J3:∀(C:List AC) (i9:NN),o1=C→K9 ⟨[(8,qa C)],[(1000,some<|.box j 102<|Bi A)],(i9 0),73⟩:=by
    intro C i9 e
    have h6:=az _ e
    refine c9 _<|aU<|mM R<|mA R<|aZ ?_
    exact Zk<|CM.mk (s':=⟨[(4,qa C)],[(1000,some<|.box j 102<|Bi A)],(i9 0),73⟩) wk<|Ck (λ(r:(List AC)) rr h'=>∃(i:Nat→Nat),rr=qa r∧h'=[(1000,some<|.box j 102<|Bi A)]) h6<|by exact⟨qa C,[(1000,some<|.box j 102<|Bi A)],R,⟨.inr R,Za⟩,R,R,AH [],R,R⟩
   refine DH (λ(w:List AC) (x3:Int) i7=>⟨[(1,rI I),(6,.ptr 6 (q+1) 0 0),(8,qa w),(44,qa B.Attrs),(45,rL B.Attrs),(46,rI x3)],[(6,some<|.box (q+1) 51<|Ag E),(1000,some<|.box j 102<|Bi A)],(i7 0),73⟩) (AH [(i4 1)]) ai (Zm (by exact Ap.frz (e':=[(1,rI I),(5,.ptr 5 q 0 0),(6,.ptr 6 (q+1) 0 0),(8,qa J),(43,.ptr 5 q 0 2),(44,qa B.Attrs),(45,rL B.Attrs),(46,rI 0)]) (h':=[(5,some<|.box q 51<|Ag B),(6,some<|.box (q+1) 51<|Ag E),(1000,some<|.box j 102<|Bi A)]) 5008 R ⟨jL,jL,jL,.inl<|.inr<|.inr ⟨R,R⟩,jL,jL,jL,jL,Za⟩ ⟨R,.inl R,R,.inl R,R,.inl R,Za⟩) wk) ?_
   intro w x3 i7 v1 b0 b1
   have h7:L2 I B E w x3=some v1:=b0;unfold L2 at h7
   refine aU<|xS R<|aZ<|aT λb2=>cI R h7 (λh8=>?_) λh8=>?_
   ·refine Zd<|b2 _<|aS λb3 b4 Y=>Zf<|BA h8 λp3 b5 b6=>?_
    have J4:∀(T:List AC) (a0:NN),p3=T→b3 ⟨[(1,rI I),(6,.ptr 6 (q+1) 0 0),(8,qa T),(44,qa B.Attrs),(45,rL B.Attrs),(46,rI x3)],[(6,some<|.box (q+1) 51<|Ag E),(1000,some<|.box j 102<|Bi A)],(a0 0),73⟩:=by
     intro T a0 e
     have h9:=b6 _ e
     exact b4 _<|aR<|AE h9 λx5 b7 b8=>xA R b7<|mM R<|Zi<|ZL b8 (AH [(a0 0)]) wk
    refine aU<|AE b5 λO b9 ba=>xI Af R b9<|xB ((BL O)) CO R<|sS R (BB (cs:=[.r<|.str [],.r<|.str []]) 12 R P4 R R)<|Zj R R (Ac (ds:=(BL O)) R Nw iL R iL R R R R)<|aZ<|aT λbb=>?_
    refine ZB BF (by kernel_rfl) ?_
    refine qP R (fB R Cb iL fR R)<|qP R (AU (a:=rS O.Name) R BG iL R R)<|AE ba λr3 bc bd=>FZ R R R (r:=rB r3) (caps:=[]) (bs:=[rS O.Name]) R iL R ⟨⟨_,iL,.d R⟩,Za⟩ (λ_=>jh<|bc) R<|qP R (AK R iL)<|qO R (AK R iL)<|qO R (BD R (iR R) iL)<|qP R (BQ R iL<|iR R)<|qP R (AK R iL)<|qO R (fB R Cr iL fR R)<|qO R (AU (a:=qa E.Attrs) R BE (iR R) R R)<|qO R (fB R Cb iL fR R)<|qO R (AU (a:=rS O.Name) R BG (iR R) R R)<|AE bd λr4 be bf=>He (.one R R R) R R (r:=rS r4) (caps:=[]) (bs:=[qa E.Attrs,rS O.Name]) R iL R ⟨⟨_,(iR R),.d R⟩,⟨_,(iR R),.d R⟩,Za⟩ (λhg=>Pr<|AP be hg) R<|qO R (fB R IP iL fR R)<|qO R (AU (a:=rS O.Value) R BG (iR R) R R)<|qO R (CA R (iR R)<|iR R)<|qP R (BQ R iL<|iR R)<|AQ.nil<|bb _<|cI R bf (λa1=>?_) λa1=>?_
    ·refine aG [1,6,8,12,44,45,46] [6,12,1000] ?_
     refine aR<|mM R<|xC CO R<|sS R (Bm 69 R Af (f:=AC.row) (l:=([O]:List AC)) ⟨R,⟨_,iL,R⟩,Za⟩ R (λ_=>R) R) ?_
     refine AM.weak (by exact Ap.frz (e':=[(1,rI I),(6,.ptr 6 (q+1) 0 0),(8,qa w),(12,.ptr 12 (i7 0) 0 0),(44,qa B.Attrs),(45,rL B.Attrs),(46,rI x3),(67,qa w),(68,.agg<|BL O),(69,.r<|.sl<|[O].map AC.row)]) (h':=[(6,some<|.box (q+1) 51<|Ag E),(12,some<|.box (i7 0) 58<|BL O),(1000,some<|.box j 102<|Bi A)]) 69 R ⟨jL,jL,jL,jL,jL,jL,jL,jL,jL,.inl<|.inr<|.inr ⟨R,R⟩,Za⟩ ⟨R,.inl R,R,.inl R,R,.inl R,Za⟩) ?_
     exact AE a1 λaj a2 bg=>sS R (B4 (r:=qa aj) (caps:=[]) (bs:=[qa w,.r<|.sl<|[O].map AC.row]) R iL R ⟨.inl ⟨iL,R⟩,.inl ⟨iL,R⟩,Za⟩ λ_=>YR<|a2)<|mA R<|Zi<|Y _ _ wk<|J4 _ (AH [((i7 0)+2)]) (Zb bg).symm
    exact Zd<|Y _ _ wk<|J4 _ (AH [((i7 0)+1)]) (Zb a1).symm
   exact Zn<|ay _ _ wk<|J3 _ (AH [(i7 0)])<|xH b1 h8
  refine aC R (λa6=>?_) λa6=>?_
  ·have a7:=Bk a6 ah
   refine aU<|lF Cr BE R R<|xL Af R<|mM R<|aZ<|Zf<|BJ a7 λo2 ak bw bh=>?_
   refine DH (λ(x8:Int) (U:List AC) u=>⟨[(1,rI I),(5,.ptr 5 q 0 0),(6,.ptr 6 (q+1) 0 0),(8,.own 5008<|u 0),(29,qa l.Attrs),(30,rL l.Attrs),(31,rI x8)],[(5,some<|.box q 51<|Ag B),(6,some<|.box (q+1) 51<|Ag E),(1000,some<|.box j 102<|Bi A),(5008,some<|.arr (u 0) 58 2<|U.map AC.row)],(u 1),73⟩) (AH [(V 0),((V 0)+1)]) ak (Zm (Zm (G8 8 5008 58 2 (by decide) R)<|by exact ZD (e':=[(1,rI I),(5,.ptr 5 q 0 0),(6,.ptr 6 (q+1) 0 0),(7,.ptr 7 (q+2) 0 0),(8,.own 5008<|V 0),(25,.ptr 7 (q+2) 0 0),(26,rI l.Char),(27,rB<|(!(l.Char=10))),(28,.ptr 7 (q+2) 0 2),(29,qa l.Attrs),(30,rL l.Attrs),(31,rI 0)]) (h':=[(5,some<|.box q 51<|Ag B),(6,some<|.box (q+1) 51<|Ag E),(7,some<|.box (q+2) 51<|Ag l),(1000,some<|.box j 102<|Bi A),(5008,some<|.arr (V 0) 58 2<|([]:List AC).map AC.row)]) ⟨jL,jL,jL,jL,jL,jL,jL,jL,jL,jL,jL,jL,Za⟩ ⟨.inl R,.inl R,.inl R,.inl R,.inl R,Za⟩ nL) wk) ?_
   intro x8 U u v2 bi bj
   have al:KY l x8 U=some v2:=bi;unfold KY at al
   refine aU<|xS R<|aZ<|aT λbk=>cI R al (λa8=>?_) λa8=>?_
   ·refine Zd<|bk _<|aS λbl bm Z=>Zf<|BA a8 λp4 bn bo=>?_
    have J6:∀(F:List AC) (M:NN),p4=F→bl ⟨[(1,rI I),(5,.ptr 5 q 0 0),(6,.ptr 6 (q+1) 0 0),(8,.own 5008<|M 0),(29,qa l.Attrs),(30,rL l.Attrs),(31,rI x8)],[(5,some<|.box q 51<|Ag B),(6,some<|.box (q+1) 51<|Ag E),(1000,some<|.box j 102<|Bi A),(5008,some<|.arr (M 0) 58 2<|F.map AC.row)],(M 1),73⟩:=by
     intro F M e
     have bp:=bo _ e
     exact bm _<|aR<|AE bp λbx an bq=>xA R an<|mM R<|Zi<|ZL bq (AH [(M 0),(M 1)]) wk
    refine aU<|AE bn λaa ao br=>xI Af R ao<|xB ((BL aa)) CO R<|sS R (BB (cs:=[.r<|.str [],.r<|.str []]) 10 R P4 R R)<|Zj R R (Ac (ds:=(BL aa)) R Nw iL R iL R R R R)<|aZ<|aU<|lF Cb BG R R<|AE br λr5 bs bt=>cL (pR<|bs) R<|aZ<|cI R bt (λab=>?_) λab=>?_
    ·exact aR<|mM R<|xC CO R<|sS R (Bm 40 R Af (f:=AC.row) (l:=([aa]:List AC)) ⟨R,⟨_,iL,R⟩,Za⟩ R (λ_=>R) R)<|AE ab λbu X bv=>sS R (Ci R Af iL R (.inr<|.inl ⟨_,_,iL,R⟩) X)<|mA R<|Zi<|Z _ _ wk<|J6 _ (AH [((u 1)+2),((u 1)+3)]) (Zb bv).symm
    exact Zd<|Z _ _ wk<|J6 _ (AH [(u 0),((u 1)+1)]) (Zb ab).symm
   exact Zn<|ag _ _ wk<|J2 _ (AH [(u 0),(u 1)]) (Zb<|bh _<|xH bj a8).symm
  ·have a7:=Bn a6 ah
   refine Zd ?_
   exact ag _ _ (Zm (Zm (G8 8 5008 58 2 (by decide) R)<|by exact ZD (e':=[(1,rI I),(5,.ptr 5 q 0 0),(6,.ptr 6 (q+1) 0 0),(7,.ptr 7 (q+2) 0 0),(8,.own 5008<|V 0),(25,.ptr 7 (q+2) 0 0),(26,rI l.Char),(27,rB<|(!(l.Char=10)))]) (h':=[(5,some<|.box q 51<|Ag B),(6,some<|.box (q+1) 51<|Ag E),(7,some<|.box (q+2) 51<|Ag l),(1000,some<|.box j 102<|Bi A),(5008,some<|.arr (V 0) 58 2<|([]:List AC).map AC.row)]) ⟨jL,jL,jL,jL,jL,jL,jL,jL,Za⟩ ⟨.inl R,.inl R,.inl R,.inl R,.inl R,Za⟩ nL) wk)<|J2 _ (AH [(V 0),((V 0)+1)]) (Zb a7).symm
 refine aC R (λac=>?_) λac=>?_
 ·have ad:=Bk ac af
  exact aR<|xC Cf R<|Zj R R (Ac (ds:=(Ag E)) R DK iL R iL R R R R)<|Zi<|ae _ _ wk<|J1 _ (AH [(q+3)]) (Zb ad).symm
 ·have ad:=Bn ac af
  exact Zd<|ae _ _ wk<|J1 _ (AH [(q+3)]) (Zb ad).symm
theorem Zs{l r}(h:Lh l=some r):AO prog 71 [qa l] (rI r):=by
 unfold Lh at h
 exact mF func71 ntmps71 R λu=>aU<|mA R<|aZ<|aU<|mM R<|AE h λw j q=>cL (gU<|j) R<|mA R<|aZ<|Zk<|yI q R
theorem qQ{j r}(h:PY j=some r):AO prog 65 [qb j] (rI r):=by
 unfold PY at h
 refine mF func65 ntmps65 R λZ=>aU<|mA R<|aZ<|aS λK2 c2 w=>aU<|mM R<|xL Ar R<|mM R<|aZ<|Zf<|BJ h λo1 l A B=>?_
 have J1:∀(U:Unit) (V:NN),o1=.nrm U→K2 ⟨[],[],(V 0),18⟩:=by
  intro U V e
  have h1:=A _ e
  exact c2 _<|zI h1 R id
 refine ZC (λ(C:Int) u=>⟨[(6,qb j),(7,rL j),(8,rI C)],[],(u 0),18⟩) (AH [Z]) l wk ?_
 intro C u v1 E q
 have X:RU j C=some v1:=E;unfold RU at X
 refine aU<|xS R<|aZ<|aT λc6=>cI R X (λF=>?_) λF=>?_
 ·refine Zd<|c6 _<|aT λc7=>Zf<|aU<|AE F λY I h4=>xI Ar R I<|xB ((Ag Y)) Cf R<|sS R (BB (cs:=Ec) 4 R EV R R)<|Zj R R (Ac (ds:=(Ag Y)) R DK iL R iL R R R R)<|aZ<|aU<|xC Cf R<|AE h4 λe1 J h5=>cL (f8<|J) R<|mA R<|aZ<|aU<|mM R<|xU R<|aZ<|cI R h5 (λM=>?_) λM=>?_
  ·refine aT λO=>aF [5] ?_
   exact aR<|mM R<|mA R<|aZ<|O _<|Zk<|yI (B _<|xH q M) R
  refine Zd<|c7 _<|aF [6,7,8] ?_
  exact aR<|AE M λx5 T h7=>xA R T<|mM R<|Zi<|Zx h7 (AH [((u 0)+1)]) wk
 exact Zn<|w _ _ wk<|J1 _ (AH [(u 0)])<|xH q F
theorem e9{q r}(h:NU q=some r):AO prog 165 (RX q) (rI r):=by
 unfold NU at h
 refine mF func165 ntmps165 R λA=>aU<|sS R (Az (cs:=(Bt q)) 1 R iL R R)<|mA R<|aZ<|aT λc2=>aU<|lF B9 AJ R R<|aZ<|Zf<|aS λK4 c4 u=>aU<|xQ R<|mA R<|aZ<|BA h λp1 w B=>?_
 have J1:∀(C:Bool) (i1:NN),p1=C→K4 ⟨[(1,.ptr 1 A 0 0),(4,rI q.Kind),(5,rB C)],[(1,some<|.box A 100<|Bt q)],(i1 0),52⟩:=by
  intro C i1 e
  have h1:=B _ e
  refine c4 _<|cI R h1 (λE=>?_) λE=>?_
  ·refine aT λc6=>aU<|lF EO B0 R R<|xL Ar R<|sQ R (BD R iL iL)<|mM R<|vF B9 AJ R R<|vQ R (Aw R (iR R) iL)<|vQ R (AK R<|iR R)<|wQ R (fB R Dy iL fR R)<|wQ R (AU (a:=qa q.Attrs) R BE (iR R) R R)<|wQ R (Bq R Af.slice<|iR R)<|wQ R (BD R (iR R) iL)<|vQ R (BQ R (iR R)<|iR R)<|xO R<|aZ<|cI R E (λF=>?_) λF=>?_
   ·exact zI F R id
   refine Zd<|c6 _<|aT λc9=>aT λI=>aG [1] [1] ?_
   refine aR<|lF EJ AJ R R<|xS R<|mM R<|vF EJ AJ R R<|vQ R (BD R (iR R) iL)<|xO R<|aZ<|I _<|cI R F (λJ=>?_) λJ=>?_
   ·exact zI J R id
   exact Zd<|c9 _<|aU<|lF Dy BE R R<|AE J λr1 M h5=>cL (Zs<|M) R<|mA R<|aZ<|Zk<|yI h5 R
  refine aU<|xQ R<|mA R<|aZ<|cI R E (λO=>?_) λO=>?_
  ·refine aT λT=>aU<|lF EJ AJ R R<|xU R<|mM R<|vF Dy BE R R<|vQ R (Bq R Af.slice<|iR R)<|vQ R (BD R (iR R) iL)<|xO R<|aZ<|cI R O (λU=>?_) λU=>?_
   ·exact zI U R id
   refine Zd<|T _<|aT λV=>aT λX=>aG [1] [1] ?_
   refine aR<|lF EO B0 R R<|xL Ar R<|xQ R<|aZ<|X _<|cI R U (λY=>?_) λY=>?_
   ·exact zI Y R id
   exact Zd<|V _<|aU<|lF EO B0 R R<|AE Y λr2 Z h9=>cL (qQ<|Z) R<|mA R<|aZ<|Zk<|yI h9 R
  exact Zd<|c2 _<|zI O R id
 refine aC R (λj=>?_) λj=>?_
 ·have l:=Bk j w
  exact Zd<|u _ _ wk<|J1 _ (AH [(A+1)]) (Zb l).symm
 ·have l:=Bn j w
  exact aR<|xQ R<|mA R<|Zi<|u _ _ wk<|J1 _ (AH [(A+1)]) (Zb l).symm
theorem iJ{q:Ah}{r:Ah}{j:Nat}{l:Nat}{u:Nat}(h:L8 q=some r):Bf prog 187 3 [.ptr 1000 j 0 0] [(1000,some<|.box j 193 [.own 1001 l,.own 1002 u,rI q.cut]),(1001,some<|.arr l 100 4<|q.out.map AI.row),(1002,some<|.arr u 51 3<|q.add.map AG.row)] (λU h'=>∃(i:Nat→Nat),U=.tup []∧h'=[(1000,some<|.box j 193 [.own 1001<|i 0,cZ,rI r.cut]),(1001,some<|.arr (i 0) 100 4<|r.out.map AI.row)]):=by
 unfold L8 at h
 refine EI func187 R R ntmps187 (Zz R) λT=>aS λK1 c1 I=>aU<|mM R<|sQ R (Bz (ob:=.box _ _ _) R iL fR R)<|lF Pf B0 R R<|sQ R (Ss R Ar.slice iL R)<|sQ R (BD R iL iL)<|aZ<|BA h λp1 J V=>?_
 have J1:∀(A:Ah) (B:NN),p1=A→K1 ⟨[(0,.ptr 1000 j 0 0)],[(1000,some<|.box j 193 [.own 1001<|B 0,qb A.add,rI A.cut]),(1001,some<|.arr (B 0) 100 4<|A.out.map AI.row)],(B 1),47⟩:=by
  intro A B e
  have h1:=V _ e
  refine c1 _<|aS λK3 c3 M=>aU<|mM R<|sQ R (Bz (ob:=.box _ _ _) R iL fR R)<|lF Fp AJ R R<|sQ R (BD R iL iL)<|aZ<|BA h1 λp2 O X=>?_
  have J2:∀(C:Ah) (w:NN),p2=C→K3 ⟨[(0,.ptr 1000 j 0 0)],[(1000,some<|.box j 193 [.own 1001<|w 0,qb C.add,rI C.cut]),(1001,some<|.arr (w 0) 100 4<|C.out.map AI.row)],(w 1),47⟩:=by
   intro C w e
   have h2:=X _ e
   refine c3 _<|aR<|mM R<|mM R<|sQ R (Bz (ob:=.box _ _ _) R iL fR R)<|sQ R (fB R Pf iL fR R)<|Zj R R (Ac (ds:=[.own 1001<|w 0,cZ,rI C.cut]) R RB iL R iL R R R R)<|sQ R (Bz (ob:=.box _ _ _) R iL fR R)<|sQ R (fB R Fp iL fR R)<|Zj R R (Ac (ds:=[.own 1001<|w 0,cZ,rI 0]) R Fa iL R iL R R R R)<|Zi ?_
   exact CM.mk (s':=⟨[],[(1000,some<|.box j 193 [.own 1001<|w 0,cZ,rI 0]),(1001,some<|.arr (w 0) 100 4<|C.out.map AI.row)],(w 1),47⟩) wk<|Ck (λ(r:Ah) U h'=>∃(i:Nat→Nat),U=.tup []∧h'=[(1000,some<|.box j 193 [.own 1001<|i 0,cZ,rI r.cut]),(1001,some<|.arr (i 0) 100 4<|r.out.map AI.row)]) h2<|by exact⟨.tup [],[(1000,some<|.box j 193 [.own 1001<|w 0,cZ,rI 0]),(1001,some<|.arr (w 0) 100 4<|C.out.map AI.row)],⟨_,R,Za⟩,⟨.inr R,.inr R,Za⟩,R,R,AH [(w 0)],R,R⟩
  refine aC R (λE=>?_) λE=>?_
  ·have Y:=Bk E O
   refine ix [0] [1,2,3,4,5,6,7,8,9] [10] 11 BF (by kernel_rfl) R R R R R ?_
   refine HK.move R R R R<|HK.nil<|AF.step R R R (AK R iL)<|AF.step R R R (Bz (ob:=.box _ _ _) R iL fR R)<|AF.step R R R (fB R G6 iL fR R)<|AF.step R R R (AU (a:=.own 1001<|B 0) R EF iL R R)<|AF.step R R R (AK R iL)<|AF.step R R R (Bz (ob:=.box _ _ _) R iL fR R)<|AF.step R R R (fB R Fp iL fR R)<|AF.step R R R (AU (a:=rI A.cut) R AJ iL R R) ?_
   refine AF.step R R R (BM R Kv (q:=[(0,_),(1,_)]) (by exact⟨R,R,R,iL,R,R,R,iL,Za⟩) (cs:=[rI 2,rI A.cut,cZ,cZ])<|by rfl) ?_
   exact AF.nil<|AA.step R R R (gX 37 R Bw (f:=AI.row) (l:=([(AI.mk 2 A.cut [] [])]:List AI)) ⟨R,⟨_,iL,R⟩,Za⟩ R (λ_=>R) R)<|AA.nil<|AE Y λl1 Z h4=>AM.step R R R (Ci R Bw iL R (.inr<|.inl ⟨_,_,iL,R⟩) Z)<|sQ R (Bz (ob:=.box _ _ _) R iL fR R)<|sQ R (fB R G6 iL fR R)<|Zj R R (Ac (ds:=[.own 1001<|(B 1)+1,qb A.add,rI A.cut]) R Rw iL R iL R R R R)<|Zi<|M _ _ wk<|J2 _ (AH [((B 1)+1),((B 1)+2)]) (Zb h4).symm
  ·have Y:=Bn E O
   exact Zd<|M _ _ wk<|J2 _ (AH [(B 0),(B 1)]) (Zb Y).symm
 refine aC R (λF=>?_) λF=>?_
 ·have h5:=Bk F J
  refine AW.weak (by exact Ap.frz (e':=[(0,.ptr 1000 j 0 0),(2,.ptr 1000 j 0 0),(3,.ptr 1000 j 0 0),(4,.ptr 1000 j 0 1),(5,qb q.add),(6,rL q.add),(7,rB<|(decide<|0<(q.add.length:Int)))]) (h':=[(1000,some<|.box j 193 [.own 1001 l,qb q.add,rI q.cut]),(1001,some<|.arr l 100 4<|q.out.map AI.row)]) 1002 R ⟨jL,jL,jL,jL,.inl<|.inr<|.inr ⟨R,R⟩,jL,jL,Za⟩ ⟨R,.inr<|.inr<|.inl ⟨_,_,_,_,R,R,⟨.inl R,.inr<|.inr ⟨R,R⟩,.inl R,Za⟩⟩,R,.inl R,Za⟩) ?_
  refine ix [0] [1,2,3,4,5,6,7,8,9] [10] 11 BF (by kernel_rfl) R R R R R ?_
  refine HK.move R R R R<|HK.nil<|AF.step R R R (AK R iL)<|AF.step R R R (Bz (ob:=.box _ _ _) R iL fR R)<|AF.step R R R (fB R G6 iL fR R)<|AF.step R R R (AU (a:=.own 1001 l) R EF iL R R)<|AF.step R R R (AK R iL)<|AF.step R R R (Bz (ob:=.box _ _ _) R iL fR R)<|AF.step R R R (fB R Pf iL fR R)<|AF.step R R R (AU (a:=qb q.add) R B0 iL R R) ?_
  refine AF.step R R R (BM R Kv (q:=[(0,_),(3,_)]) (by exact⟨R,R,R,iL,R,R,R,iL,Za⟩) (cs:=[rI 1,rI 0,cZ,qb q.add])<|by rfl) ?_
  exact AF.nil<|AA.step R R R (gX 18 R Bw (f:=AI.row) (l:=([(AI.mk 1 0 [] q.add)]:List AI)) ⟨R,⟨_,iL,R⟩,Za⟩ R (λ_=>R) R)<|AA.nil<|AE h5 λl2 a0 h6=>AM.step R R R (Ci R Bw iL R (.inr<|.inl ⟨_,_,iL,R⟩) a0)<|sQ R (Bz (ob:=.box _ _ _) R iL fR R)<|sQ R (fB R G6 iL fR R)<|Zj R R (Ac (ds:=[.own 1001<|T+1,qb q.add,rI q.cut]) R Rw iL R iL R R R R)<|Zi<|I _ _ wk<|J1 _ (AH [(T+1),(T+2)]) (Zb h6).symm
 ·have h5:=Bn F J
  refine Zd ?_
  exact I _ _ (Zm (by exact Ap.frz (e':=[(0,.ptr 1000 j 0 0),(2,.ptr 1000 j 0 0),(3,.ptr 1000 j 0 0),(4,.ptr 1000 j 0 1),(5,qb q.add),(6,rL q.add),(7,rB<|(decide<|0<(q.add.length:Int)))]) (h':=[(1000,some<|.box j 193 [.own 1001 l,qb q.add,rI q.cut]),(1001,some<|.arr l 100 4<|q.out.map AI.row)]) 1002 R ⟨jL,jL,jL,jL,.inl<|.inr<|.inr ⟨R,R⟩,jL,jL,Za⟩ ⟨R,.inr<|.inr<|.inl ⟨_,_,_,_,R,R,⟨.inl R,.inr<|.inr ⟨R,R⟩,.inl R,Za⟩⟩,R,.inl R,Za⟩) wk)<|J1 _ (AH [l,T]) (Zb h5).symm
theorem NI{E:Ah}{n1:Int}{u:List AC}{r:Ah}{j:Nat}{l:Nat}{q:Nat}(h:Gv E n1 u=some r):Bf prog 153 3 [.ptr 1000 j 0 0,rI n1,qa u] [(1000,some<|.box j 193 [.own 1001 l,.own 1002 q,rI E.cut]),(1001,some<|.arr l 100 4<|E.out.map AI.row),(1002,some<|.arr q 51 3<|E.add.map AG.row)] (λT h'=>∃(i:Nat→Nat),T=.tup []∧h'=[(1000,some<|.box j 193 [.own 1001<|i 0,.own 1002<|i 1,rI r.cut]),(1001,some<|.arr (i 0) 100 4<|r.out.map AI.row),(1002,some<|.arr (i 1) 51 3<|r.add.map AG.row)]):=by
 unfold Gv at h
 refine EI func153 R R ntmps153 (Zz R) λn0=>aT λc1=>aU<|mM R<|xQ R<|aZ<|cI R h (λZ=>?_) λZ=>?_
 ·exact Zk<|CM.mk (s':=⟨[],[(1000,some<|.box j 193 [.own 1001 l,.own 1002 q,rI E.cut]),(1001,some<|.arr l 100 4<|E.out.map AI.row),(1002,some<|.arr q 51 3<|E.add.map AG.row)],n0,67⟩) wk<|Ck (λ(r:Ah) T h'=>∃(i:Nat→Nat),T=.tup []∧h'=[(1000,some<|.box j 193 [.own 1001<|i 0,.own 1002<|i 1,rI r.cut]),(1001,some<|.arr (i 0) 100 4<|r.out.map AI.row),(1002,some<|.arr (i 1) 51 3<|r.add.map AG.row)]) Z<|by exact⟨.tup [],[(1000,some<|.box j 193 [.own 1001 l,.own 1002 q,rI E.cut]),(1001,some<|.arr l 100 4<|E.out.map AI.row),(1002,some<|.arr q 51 3<|E.add.map AG.row)],⟨_,R,Za⟩,⟨.inr R,.inr R,.inr R,Za⟩,R,R,AH [l,q],R,R⟩
 refine Zd<|c1 _<|aT λc3=>aR<|mM R<|AE Z λB a0 h2=>?_
 refine Zq [1000,1001,1002] (hc:=[(1000,some<|.box j 193 [.own 1001 l,.own 1002 q,rI E.cut]),(1001,some<|.arr l 100 4<|E.out.map AI.row),(1002,some<|.arr q 51 3<|E.add.map AG.row)]) (bs:=[.ptr 1000 j 0 0]) (caps:=[]) R R R R iL R ⟨.inl ⟨iL,R⟩,Za⟩ ⟨R,R,R,R,R,R,R,R,R,Za⟩ (by decide) (iJ a0) ?_
 intro A M
 refine BC [0,1,2,7,8,9,10] [1000,1001] ?_
 refine aZ<|c3 _<|aT λc4=>aU<|mM R<|sQ R (Bz (ob:=.box _ _ _) R iL fR R)<|lF G6 EF R R<|sQ R (Ss R Bw.slice iL R)<|AE h2 λI a1 h3=>sQ R (B5 R iL iL λ_=>a1)<|mA R<|aZ<|aT λc6=>aG [0,1,2,6] [1000,1001] ?_
 refine aR<|mM R<|sQ R (Cv R iL iL)<|mM R<|vM R<|vQ R (Bz (ob:=.box _ _ _) R (iR R) fR R)<|vQ R (fB R G6 (iR R) fR R)<|vQ R (AU (a:=.own 1001<|A 0) R EF (iR R) R R)<|vM R<|AE h3 λx1 U h4=>vQ R (GB R Bw.slice (iR R) R (iR R)<|AP U)<|vQ R (H9 (ob:=.arr _ _ _ _) R B9 (iR R) fR R)<|vQ R (Ml (d:=.int .i64 x1.Kind) R AJ (iR R) fR (AP U) R)<|vQ R (Aw R (iR R) iL)<|xN R<|mM R<|vM R<|vQ R (Bz (ob:=.box _ _ _) R (iR R) fR R)<|vQ R (fB R G6 (iR R) fR R)<|vQ R (AU (a:=.own 1001<|A 0) R EF (iR R) R R)<|vM R<|AE h4 λx2 V h5=>vQ R (GB R Bw.slice (iR R) R (iR R)<|AP V)<|vQ R (H9 (ob:=.arr _ _ _ _) R Dy (iR R) fR R)<|vQ R (Ml (d:=.sl<|x2.Attrs.map AC.row) R BE (iR R) fR (AP V) R)<|vM R<|AE h5 λr1 a2 h6=>vL (λhg=>Xt<|AP a2 hg) R<|xN R<|aZ<|c6 _<|cI R h6 (λh7=>?_) λh7=>?_
 ·refine aT λc7=>aG [0,1,6] [1000,1001] ?_
  refine aR<|mM R<|sQ R (Bz (ob:=.box _ _ _) R iL fR R)<|lF G6 EF R R<|mM R<|AE h7 λC J h8=>sQ R (GB R Bw.slice iL R iL λ_=>J)<|sQ R (H9 (ob:=.arr _ _ _ _) R EJ iL fR R)<|sQ R (Ml (d:=.int .i64 C.N) R AJ iL fR (λ_=>J) R)<|mM R<|AE h8 λX a6 h9=>xA R a6<|sQ R (GB R Bw.slice iL R iL λ_=>J)<|sQ R (H9 (ob:=.arr _ _ _ _) R EJ iL fR R)<|Zj R R (Tf (v:=(AI.mk C.Kind X C.Attrs C.Elems)) R Fa iL R J iL R R R R)<|oZ c7 ?_
  exact Zk<|CM.mk (s':=⟨[],[(1000,some<|.box j 193 [.own 1001<|A 0,.own 1002 M,rI B.cut]),(1001,some<|.arr (A 0) 100 4<|(B.out.set I.toNat<|AI.mk C.Kind X C.Attrs C.Elems).map AI.row),(1002,some<|.arr M 51 3<|([]:List AG).map AG.row)],(M+1),67⟩) (Zm (Zm (ZN 1000 1 1002 51 3 (by decide) R R<|by decide)<|by exact ZD (e':=[(0,.ptr 1000 j 0 0),(1,rI n1),(6,rI I),(42,.ptr 1000 j 0 0),(43,.ptr 1000 j 0 0),(44,.ptr 1000 j 0 0),(45,.own 1001<|A 0),(46,rI I),(47,.ptr 1001 (A 0) I.toNat 0),(48,.ptr 1001 (A 0) I.toNat 1),(49,rI C.N),(50,rI n1),(51,rI X),(52,.ptr 1001 (A 0) I.toNat 0),(53,.ptr 1001 (A 0) I.toNat 1)]) (h':=[(1000,some<|.box j 193 [.own 1001<|A 0,.own 1002 M,rI B.cut]),(1001,some<|.arr (A 0) 100 4<|(B.out.set I.toNat<|AI.mk C.Kind X C.Attrs C.Elems).map AI.row),(1002,some<|.arr M 51 3<|([]:List AG).map AG.row)]) ⟨jL,jL,jL,jL,jL,jL,jL,jL,jL,jL,jL,jL,jL,jL,jL,Za⟩ ⟨.inl R,.inl R,.inl R,Za⟩ nL) wk)<|Ck (λ(r:Ah) T h'=>∃(i:Nat→Nat),T=.tup []∧h'=[(1000,some<|.box j 193 [.own 1001<|i 0,.own 1002<|i 1,rI r.cut]),(1001,some<|.arr (i 0) 100 4<|r.out.map AI.row),(1002,some<|.arr (i 1) 51 3<|r.add.map AG.row)]) h9<|by exact⟨.tup [],[(1000,some<|.box j 193 [.own 1001<|A 0,.own 1002 M,rI B.cut]),(1001,some<|.arr (A 0) 100 4<|(B.out.set I.toNat<|AI.mk C.Kind X C.Attrs C.Elems).map AI.row),(1002,some<|.arr M 51 3<|([]:List AG).map AG.row)],⟨_,R,Za⟩,⟨.inr R,.inr R,.inr R,Za⟩,R,R,AH [(A 0),M],R,R⟩
 refine Zd<|c4 _<|aG [0,1,2] [1000,1001] ?_
 refine AE h7 λF a7 a8=>AE a8 λY aa ab=>?_
 refine Hd 11 [pO 54<|.ptr 1000 j 0 0,pO 55<|.ptr 1000 j 0 0,pO 56<|.ptr 1000 j 0 0,pO 57<|.ptr 1000 j 0 0,pO 58<|.own 1001<|A 0,pO 59<|rI n1,pO 60<|qa u,⟨some 61,(λ_=>qa F),some (61,(λ_=>none)),[]⟩,pO 62<|.agg [rI 0,rI n1,qa F,cZ],⟨some 63,(λw=>.own 63<|w 9),some (63,(λw=>some<|.arr (w 9) 100 4<|[(AI.mk 0 n1 F [])].map AI.row)),[9]⟩,⟨some 64,(λw=>.own 1001<|w 10),some (1001,(λw=>some<|.arr (w 10) 100 4<|Y.map AI.row)),[10]⟩] BF (by kernel_rfl) (by exact⟨λ_ _ h=>⟨R,λ_ _ e=>by cases e⟩,λ_ _ h=>⟨R,λ_ _ e=>by cases e⟩,λ_ _ h=>⟨R,λ_ _ e=>by cases e⟩,λ_ _ h=>⟨R,λ_ _ e=>by cases e⟩,λ_ _ h=>⟨R,λ_ _ e=>by cases e⟩,λ_ _ h=>⟨R,λ_ _ e=>by cases e⟩,λ_ _ h=>⟨R,λ_ _ e=>by cases e⟩,λ_ _ h=>⟨R,λ_ _ e=>by cases e;rfl⟩,λ_ _ h=>⟨R,λ_ _ e=>by cases e⟩,λ_ _ h=>⟨by simp only[h 9 R],λ_ _ e=>by cases e;simp only[h 9 R]⟩,λ_ _ h=>⟨by simp only[h 10 R],λ_ _ e=>by cases e;simp only[h 10 R]⟩,Za⟩) R (by exact⟨oB [(0,.ptr 1000 j 0 0)] [(1000,some<|.box j 193 [.own 1001<|A 0,cZ,rI B.cut])]<|AK R<|.inl R,oB [(0,.ptr 1000 j 0 0)] [(1000,some<|.box j 193 [.own 1001<|A 0,cZ,rI B.cut])]<|AK R<|.inl R,oB [(55,.ptr 1000 j 0 0)] [(1000,some<|.box j 193 [.own 1001<|A 0,cZ,rI B.cut])]<|Bz (ob:=.box _ _ _) R (.inl R) (λ_=>R) R,oB [(56,.ptr 1000 j 0 0)] [(1000,some<|.box j 193 [.own 1001<|A 0,cZ,rI B.cut])]<|fB R G6 (.inl R) (λ_=>R) R,oB [(57,.ptr 1000 j 0 0)] [(1000,some<|.box j 193 [.own 1001<|A 0,cZ,rI B.cut])]<|AU (a:=.own 1001<|A 0) R EF (.inl R) R R,oB [(1,rI n1)] []<|AK R<|.inl R,oB [(2,qa u)] []<|AK R<|.inl R,Rj R R (by intro d h;cases h;rfl) R (λ_=>[(60,qa u)]) (λ_=>[]) (λD w hr=>⟨IF hr 6 R R (by kernel_rfl) R R,Za⟩) (λD w hr=>Za) λw e h' n=>Fj.frz<|BK.toN<|Tp 61 (f:=AC.row) R Af (.inl R) (.inl ⟨(.inl R),λ_=>R⟩) a7,oB [(59,rI n1),(61,qa F)] []<|BM R Kv (q:=[(0,_),(1,_),(2,_)]) (by exact⟨R,R,R,(.inl R),R,R,R,(.inl R),R,R,R,(.inl R),Za⟩) (cs:=[rI 0,rI n1,qa F,cZ])<|by rfl,oM (λ_=>[(62,.agg [rI 0,rI n1,qa F,cZ])]) (λ_=>[]) R λw e h' n=>Bm 63 R Bw (f:=AI.row) (l:=([(AI.mk 0 n1 F [])]:List AI)) ⟨R,⟨_,(.inl R),R⟩,Za⟩ R (λ_=>R) R,oM (λw=>[(58,.own 1001<|A 0),(63,.own 63<|w 9)]) (λw=>[(63,some<|.arr (w 9) 100 4<|[(AI.mk 0 n1 F [])].map AI.row),(1001,some<|.arr (A 0) 100 4<|B.out.map AI.row)]) R λw e h' n=>Ci R Bw (.inl R) R (.inr<|.inl ⟨_,_,(.inl R),R⟩) aa,Za⟩) λw O=>?_
 refine BC [0,1,2,54,55,56,57,59,60,61,62,63,64] [63,1000,1001] ?_
 refine sQ R (Bz (ob:=.box _ _ _) R iL fR R)<|sQ R (fB R G6 iL fR R)<|Zj R R (Ac (ds:=[.own 1001<|w 10,cZ,rI B.cut]) R Rw iL R iL R R R R)<|Zi ?_
 exact CM.mk (s':=⟨[],[(1000,some<|.box j 193 [.own 1001<|w 10,.own 1002 O,rI B.cut]),(1001,some<|.arr (w 10) 100 4<|Y.map AI.row),(1002,some<|.arr O 51 3<|([]:List AG).map AG.row)],(O+1),67⟩) (Zm (Zm (ZN 1000 1 1002 51 3 (by decide) R R<|by decide)<|by exact ZD (e':=[(0,.ptr 1000 j 0 0),(1,rI n1),(2,qa u),(54,.ptr 1000 j 0 0),(55,.ptr 1000 j 0 0),(56,.ptr 1000 j 0 0),(57,.ptr 1000 j 0 0),(59,rI n1),(60,qa u),(61,qa F),(62,.agg [rI 0,rI n1,qa F,cZ]),(63,.own 63<|w 9),(64,.own 1001<|w 10),(65,.ptr 1000 j 0 0),(66,.ptr 1000 j 0 0)]) (h':=[(63,some<|.arr (w 9) 100 4<|[(AI.mk 0 n1 F [])].map AI.row),(1000,some<|.box j 193 [.own 1001<|w 10,.own 1002 O,rI B.cut]),(1001,some<|.arr (w 10) 100 4<|Y.map AI.row),(1002,some<|.arr O 51 3<|([]:List AG).map AG.row)]) ⟨jL,jL,jL,jL,jL,jL,jL,jL,jL,jL,jL,jL,jL,jL,jL,Za⟩ ⟨.inl R,.inl R,.inl R,.inl R,Za⟩ nL) wk)<|Ck (λ(r:Ah) T h'=>∃(i:Nat→Nat),T=.tup []∧h'=[(1000,some<|.box j 193 [.own 1001<|i 0,.own 1002<|i 1,rI r.cut]),(1001,some<|.arr (i 0) 100 4<|r.out.map AI.row),(1002,some<|.arr (i 1) 51 3<|r.add.map AG.row)]) ab<|by exact⟨.tup [],[(1000,some<|.box j 193 [.own 1001<|w 10,.own 1002 O,rI B.cut]),(1001,some<|.arr (w 10) 100 4<|Y.map AI.row),(1002,some<|.arr O 51 3<|([]:List AG).map AG.row)],⟨_,R,Za⟩,⟨.inr R,.inr R,.inr R,Za⟩,R,R,AH [(w 10),O],R,R⟩
theorem sT{B r}(h:Rf B=some r):AO prog 66 [qb B] (qb r):=by
 unfold Rf at h
 refine mF func66 ntmps66 R λn0=>aU<|mA R<|aZ<|aU<|mM R<|xL Ar R<|AE h λa0 C h1=>sS R (Th 8 R Ar (f:=AG.row) (z0:=(AG.mk 0 0 [])) WG iL iL C)<|mA R<|aZ<|aS λK3 c3 M=>aU<|mM R<|xL Ar R<|mM R<|aZ<|Zf<|BA h1 λo1 E O=>?_
 have J1:∀(w:List AG) (J:NN),o1=w→K3 ⟨[(3,.own 8<|J 0)],[(8,some<|.arr (J 0) 51 3<|w.map AG.row)],(J 1),29⟩:=by
  intro w J e
  have h2:=O _ e
  exact c3 _<|aU<|mM R<|mA R<|aZ<|Zk<|DE (P:=prog) (λ(r:(List AG))=>qb r) h2 iL<|.t<|.one<|.own R
 refine DH (λ(A:Int) (q:List AG) j=>⟨[(3,.own 8<|j 0),(9,qb B),(10,rL B),(11,rI A)],[(8,some<|.arr (j 0) 51 3<|q.map AG.row)],(j 1),29⟩) (AH [n0,(n0+1)]) E wk ?_
 intro A q j v1 T U
 have h3:JO B A q=some v1:=T;unfold JO at h3
 refine aU<|xS R<|aZ<|aT λc7=>cI R h3 (λV=>?_) λV=>?_
 ·refine Zd<|c7 _<|aT λc8=>Zf<|aU<|mM R<|AE V λl X h5=>xI Ar R X<|xB ((Ag l)) Cf R<|sS R (BB (cs:=Ec) 5 R EV R R)<|mA R<|Zj R R (Ac (ds:=(Ag l)) R DK iL R iL R R R R)<|aZ<|AE h5 λF Y h6=>?_
  refine Hd 10 [pO 16<|.own 8<|j 0,pO 17<|rI A,pO 18<|.ptr 5 (j 1) 0 0,pO 19<|rI l.Char,pO 20<|.ptr 5 (j 1) 0 1,pO 21<|rI l.Ref,pO 22<|.ptr 5 (j 1) 0 2,pO 23<|qa l.Attrs,⟨some 24,(λu=>.own 24<|u 8),some (24,(λu=>some<|.arr (u 8) 58 2<|F.map AC.row)),[8]⟩,⟨some 25,(λu=>.agg [rI l.Char,rI l.Ref,.own 24<|u 8]),none,[8]⟩] BF (by kernel_rfl) (by exact⟨λ_ _ h=>⟨R,λ_ _ e=>by cases e⟩,λ_ _ h=>⟨R,λ_ _ e=>by cases e⟩,λ_ _ h=>⟨R,λ_ _ e=>by cases e⟩,λ_ _ h=>⟨R,λ_ _ e=>by cases e⟩,λ_ _ h=>⟨R,λ_ _ e=>by cases e⟩,λ_ _ h=>⟨R,λ_ _ e=>by cases e⟩,λ_ _ h=>⟨R,λ_ _ e=>by cases e⟩,λ_ _ h=>⟨R,λ_ _ e=>by cases e⟩,λ_ _ h=>⟨by simp only[h 8 R],λ_ _ e=>by cases e;simp only[h 8 R]⟩,λ_ _ h=>⟨by simp only[h 8 R],λ_ _ e=>by cases e⟩,Za⟩) R (by exact⟨oB [(3,.own 8<|j 0)] [(8,some<|.arr (j 0) 51 3<|q.map AG.row)]<|AK R<|.inl R,oB [(4,rI A)] []<|AK R<|.inl R,oB [(5,.ptr 5 (j 1) 0 0)] [(5,some<|.box (j 1) 51<|Ag l)]<|fB R Eb (.inl R) (λ_=>R) R,oB [(18,.ptr 5 (j 1) 0 0)] [(5,some<|.box (j 1) 51<|Ag l)]<|AU (a:=rI l.Char) R AJ (.inl R) R R,oB [(5,.ptr 5 (j 1) 0 0)] [(5,some<|.box (j 1) 51<|Ag l)]<|fB R Ek (.inl R) (λ_=>R) R,oB [(20,.ptr 5 (j 1) 0 1)] [(5,some<|.box (j 1) 51<|Ag l)]<|AU (a:=rI l.Ref) R AJ (.inl R) R R,oB [(5,.ptr 5 (j 1) 0 0)] [(5,some<|.box (j 1) 51<|Ag l)]<|fB R Cr (.inl R) (λ_=>R) R,oB [(22,.ptr 5 (j 1) 0 2)] [(5,some<|.box (j 1) 51<|Ag l)]<|AU (a:=qa l.Attrs) R BE (.inl R) R R,oM (λ_=>[(23,qa l.Attrs)]) (λ_=>[]) R λu e h' n=>Tp 24 (f:=AC.row) R Af (.inl R) (.inl ⟨(.inl R),λ_=>R⟩) Y,oC (λu=>[(19,rI l.Char),(21,rI l.Ref),(24,.own 24<|u 8)]) (λu=>[(24,some<|.arr (u 8) 58 2<|F.map AC.row)]) λu e h'=>BM R JJ (q:=[(0,_),(1,_),(2,_)]) (by exact⟨R,R,R,(.inl R),R,R,R,(.inl R),R,R,R,(.inl R),Za⟩) (cs:=[rI l.Char,rI l.Ref,.own 24<|u 8])<|by rfl,Za⟩) λu n1=>?_
  refine BC [3,4,5,9,10,11,12,13,14,15,16,17,18,19,20,21,22,23,24,25] [5,8,24] ?_
  refine AE h6 λx5 I h7=>sQ R (GB R Ar.slice iL R iL λ_=>I) ?_
  refine AM.weak (by exact Ap.frz (e':=[(3,.own 8<|j 0),(4,rI A),(5,.ptr 5 (j 1) 0 0),(9,qb B),(10,rL B),(11,rI A),(12,rB<|(decide<|A<(B.length:Int))),(13,rI A),(14,.rop (AG.row l) 0),(15,.agg<|Ag l),(16,.own 8<|j 0),(17,rI A),(18,.ptr 5 (j 1) 0 0),(19,rI l.Char),(20,.ptr 5 (j 1) 0 1),(21,rI l.Ref),(22,.ptr 5 (j 1) 0 2),(23,qa l.Attrs),(24,qa F),(25,.agg [rI l.Char,rI l.Ref,qa F]),(26,.ptr 8 (j 0) A.toNat 0)]) (h':=[(5,some<|.box (j 1) 51<|Ag l),(8,some<|.arr (j 0) 51 3<|q.map AG.row)]) 24 R ⟨jL,jL,jL,jL,jL,jL,jL,jL,jL,jL,jL,jL,jL,jL,jL,jL,jL,jL,.inl<|.inr<|.inr ⟨R,R⟩,.inr ⟨_,_,R,R,⟨.inl R,.inl R,.inr<|.inr ⟨R,R⟩,Za⟩⟩,jL,Za⟩ ⟨R,.inl R,R,.inl R,Za⟩) ?_
  refine Zj R R (Vd (v:=(AG.mk l.Char l.Ref F)) R DK iL R I iL R R R R)<|aZ<|c8 _<|aG [3,9,10,11] [8] ?_
  exact aR<|AE h7 λx6 Z h8=>xA R Z<|mM R<|Zi<|ZL h8 (AH [(j 0),n1]) wk
 exact Zn<|M _ _ wk<|J1 _ (AH [(j 0),(j 1)])<|xH U V
theorem PD{u:Ah}{A:List AG}{r:Ah}{j:Nat}{l:Nat}{q:Nat}(h:H2 u A=some r):Bf prog 152 3 [.ptr 1000 j 0 0,qb A] [(1000,some<|.box j 193 [.own 1001 l,.own 1002 q,rI u.cut]),(1001,some<|.arr l 100 4<|u.out.map AI.row),(1002,some<|.arr q 51 3<|u.add.map AG.row)] (λB h'=>∃(i:Nat→Nat),B=.tup []∧h'=[(1000,some<|.box j 193 [.own 1001<|i 0,.own 1002<|i 1,rI r.cut]),(1001,some<|.arr (i 0) 100 4<|r.out.map AI.row),(1002,some<|.arr (i 1) 51 3<|r.add.map AG.row)]):=by
 unfold H2 at h
 refine EI func152 R R ntmps152 (Zz R) λT=>AE h λC E J=>AE J λF I M=>?_
 refine Hd 8 [pO 4<|.ptr 1000 j 0 0,pO 5<|.ptr 1000 j 0 0,pO 6<|.ptr 1000 j 0 0,pO 7<|.ptr 1000 j 0 1,pO 8<|.own 1002 q,pO 9<|qb A,pO 10<|qb C,⟨some 11,(λw=>.own 1002<|w 7),some (1002,(λw=>some<|.arr (w 7) 51 3<|F.map AG.row)),[7]⟩] BF (by kernel_rfl) (by exact⟨λ_ _ h=>⟨R,λ_ _ e=>by cases e⟩,λ_ _ h=>⟨R,λ_ _ e=>by cases e⟩,λ_ _ h=>⟨R,λ_ _ e=>by cases e⟩,λ_ _ h=>⟨R,λ_ _ e=>by cases e⟩,λ_ _ h=>⟨R,λ_ _ e=>by cases e⟩,λ_ _ h=>⟨R,λ_ _ e=>by cases e⟩,λ_ _ h=>⟨R,λ_ _ e=>by cases e⟩,λ_ _ h=>⟨by simp only[h 7 R],λ_ _ e=>by cases e;simp only[h 7 R]⟩,Za⟩) R (by exact⟨oB [(0,.ptr 1000 j 0 0)] [(1000,some<|.box j 193 [.own 1001 l,.own 1002 q,rI u.cut])]<|AK R<|.inl R,oB [(0,.ptr 1000 j 0 0)] [(1000,some<|.box j 193 [.own 1001 l,.own 1002 q,rI u.cut])]<|AK R<|.inl R,oB [(5,.ptr 1000 j 0 0)] [(1000,some<|.box j 193 [.own 1001 l,.own 1002 q,rI u.cut])]<|Bz (ob:=.box _ _ _) R (.inl R) (λ_=>R) R,oB [(6,.ptr 1000 j 0 0)] [(1000,some<|.box j 193 [.own 1001 l,.own 1002 q,rI u.cut])]<|fB R Pf (.inl R) (λ_=>R) R,oB [(7,.ptr 1000 j 0 1)] [(1000,some<|.box j 193 [.own 1001 l,.own 1002 q,rI u.cut])]<|AU (a:=.own 1002 q) R B0 (.inl R) R R,oB [(1,qb A)] []<|AK R<|.inl R,oD (λ_=>[(9,qb A)]) (λ_=>[]) λw e h' n=>B4 (r:=qb C) (caps:=[]) (bs:=[qb A]) R (.inl R) R ⟨.inl ⟨(.inl R),R⟩,Za⟩ λ_=>sT<|E,oM (λ_=>[(8,.own 1002 q),(10,qb C)]) (λ_=>[(1002,some<|.arr q 51 3<|u.add.map AG.row)]) R λw e h' n=>Ci R Ar (.inl R) R (.inl ⟨(.inl R),λ_=>R⟩) I,Za⟩) λw O=>?_
 refine BC [0,1,4,5,6,7,9,10,11] [1000,1001,1002] ?_
 refine sQ R (Bz (ob:=.box _ _ _) R iL fR R)<|sQ R (fB R Pf iL fR R)<|Zj R R (Ac (ds:=[.own 1001 l,.own 1002<|w 7,rI u.cut]) R RB iL R iL R R R R)<|Zi ?_
 exact CM.mk (s':=⟨[],[(1000,some<|.box j 193 [.own 1001 l,.own 1002<|w 7,rI u.cut]),(1001,some<|.arr l 100 4<|u.out.map AI.row),(1002,some<|.arr (w 7) 51 3<|F.map AG.row)],O,14⟩) wk<|Ck (λ(r:Ah) B h'=>∃(i:Nat→Nat),B=.tup []∧h'=[(1000,some<|.box j 193 [.own 1001<|i 0,.own 1002<|i 1,rI r.cut]),(1001,some<|.arr (i 0) 100 4<|r.out.map AI.row),(1002,some<|.arr (i 1) 51 3<|r.add.map AG.row)]) M<|by exact⟨.tup [],[(1000,some<|.box j 193 [.own 1001 l,.own 1002<|w 7,rI u.cut]),(1001,some<|.arr l 100 4<|u.out.map AI.row),(1002,some<|.arr (w 7) 51 3<|F.map AG.row)],⟨_,R,Za⟩,⟨.inr R,.inr R,.inr R,Za⟩,R,R,AH [l,(w 7)],R,R⟩
theorem Tr{j r}(h:HS j=some r):AO prog 186 (RX j) (rI r):=by
 unfold HS at h
 refine mF func186 ntmps186 R λu=>aU<|sS R (Az (cs:=(Bt j)) 1 R iL R R)<|mA R<|aZ<|aT λq=>aU<|lF B9 AJ R R<|xQ R<|aZ<|cI R h (λl=>?_) λl=>?_
 ·exact aU<|lF EO B0 R R<|xL Ar R<|mA R<|aZ<|Zk<|yI l R
 exact Zd<|q _<|aU<|lF EJ AJ R R<|mA R<|aZ<|Zk<|yI l R
theorem Px{d1 r}(h:Iw d1=some r):AO prog 147 [qd d1] (rI r):=by
 unfold Iw at h
 refine mF func147 ntmps147 R λn0=>aU<|mA R<|aZ<|aU<|mA R<|mA R<|aZ<|aS λK3 c3 a8=>aU<|mM R<|xL Bw R<|mM R<|aZ<|Zf<|JP h λo1 a0 aa a1=>?_
 have J1:∀(q:Int) (A:Int) (i5:NN),o1=.nrm (q,A)→K3 ⟨[(3,rI q),(4,rI A)],[],(i5 0),78⟩:=by
  intro q A i5 e
  have h1:=aa _ _ e
  refine c3 _<|aT λc5=>aU<|mM R<|sQ R (BD R iL iL)<|mM R<|vM R<|vQ R (BD R (iR R) iL)<|xO R<|aZ<|cI R h1 (λh2=>?_) λh2=>?_
  ·exact zI h2 R id
  exact Zd<|c5 _<|zI h2 R id
 refine IU (λ(j:Int) (l:Int) (Z:Int) C=>⟨[(0,qd d1),(3,rI j),(4,rI l),(9,qd d1),(10,rL d1),(11,rI Z)],[],(C 0),78⟩) (AH [n0]) a0 wk ?_
 intro j l Z C v1 ab J
 have h3:Il d1 j l Z=some v1:=ab;unfold Il at h3
 refine aU<|xS R<|aZ<|aT λac=>cI R h3 (λh4=>?_) λh4=>?_
 ·refine Zd<|ac _<|aS λad ae E=>Zf<|JP h4 λp1 af ag a2=>?_
  have J2:∀(u:Int) (B:Int) (i6:NN),p1=.nrm (u,B)→ad ⟨[(0,qd d1),(3,rI u),(4,rI B),(9,qd d1),(10,rL d1),(11,rI Z)],[],(i6 0),78⟩:=by
   intro u B i6 e
   have h5:=ag _ _ e
   exact ae _<|aR<|AE h5 λx4 ah h6=>xA R ah<|mM R<|Zi<|Dv.mk h6 (AH [(i6 0)]) wk
  refine aU<|mM R<|AE af λM ai h7=>xI Bw R ai<|xB ((Bt M)) Er R<|sS R (BB (cs:=EH) 6 R FM R R)<|mA R<|Zj R R (Ac (ds:=(Bt M)) R FL iL R iL R R R R)<|aZ<|aT λaj=>aU<|xC Er R<|AE h7 λe1 ak h8=>cL (e9<|ak) R<|mA R<|aZ<|aU<|mM R<|xU R<|aZ<|cI R h8 (λh9=>?_) λh9=>?_
  ·refine aT λal=>aF [7] ?_
   exact aR<|mM R<|mA R<|aZ<|al _<|Zk<|yI (a1 _<|J _ (Zb<|a2 _ (Zb h9).symm).symm) R
  refine Zd<|aj _<|aS λan ao F=>aT λaq=>aG [0,3,4,5,6,9,10,11] [6] ?_
  refine aR<|mM R<|sQ R (BD R iL iL)<|aZ<|aq _<|BJ h9 λp2 a6 ar av=>?_
  have J3:∀(u2:Unit) (i7:NN),p2=.nrm u2→an ⟨[(0,qd d1),(3,rI j),(4,rI l),(6,.ptr 6 (C 0) 0 0),(9,qd d1),(10,rL d1),(11,rI Z)],[(6,some<|.box (C 0) 100<|Bt M)],(i7 0),78⟩:=by
   intro u2 i7 e
   have aw:=ar _ e
   refine ao _<|aS λax ay I=>aU<|lF B9 AJ R R<|xU R<|aZ<|BA aw λp3 a7 az=>?_
   have J4:∀(w:Int) (i8:NN),p3=w→ax ⟨[(0,qd d1),(3,rI w),(4,rI l),(6,.ptr 6 (C 0) 0 0),(9,qd d1),(10,rL d1),(11,rI Z)],[(6,some<|.box (C 0) 100<|Bt M)],(i8 0),78⟩:=by
    intro w i8 e
    have b0:=az _ e
    refine ay _<|aU<|lF B9 AJ R R<|xU R<|aZ<|cI R b0 (λO=>?_) λO=>?_
    ·exact aR<|mM R<|xC Er R<|AE O λr1 b1 b2=>cL (Tr<|b1) R<|AE b2 λx6 b3 b4=>xA R b3<|sQ R (Kb R iL iL)<|mA R<|Zi<|E _ _ wk<|J2 _ _ (AH [(i8 0)]) (Zb b4).symm
    exact Zd<|E _ _ wk<|J2 _ _ (AH [(i8 0)]) (Zb O).symm
   refine aC R (λT=>?_) λT=>?_
   ·have U:=Bk T a7
    exact aR<|mM R<|lF EJ AJ R R<|AE U λx7 b5 b6=>xA R b5<|sQ R (Kb R iL iL)<|mA R<|Zi<|I _ _ wk<|J4 _ (AH [(i7 0)]) (Zb b6).symm
   ·have U:=Bn T a7
    exact Zd<|I _ _ wk<|J4 _ (AH [(i7 0)]) (Zb U).symm
  refine aC R (λV=>?_) λV=>?_
  ·have X:=Bk V a6
   refine aU<|mM R<|mM R<|AE X λx8 b7 b8=>sQ R (B5 R iL iL λ_=>b7)<|AE b8 λx9 b9 ba=>xI Bw R b9<|xB ((Bt x9)) Er R<|sS R (BB (cs:=EH) 8 R FM R R)<|Zj R R (Ac (ds:=(Bt x9)) R FL iL R iL R R R R)<|aZ<|aU<|lF B9 AJ R R<|lF B9 AJ R R<|xQ R<|mM R<|vF B9 AJ R R<|vQ R (Cc R (iR R) iL)<|vQ R (AK R<|iR R)<|wQ R (fB R Dy iL fR R)<|wQ R (AU (a:=qa x9.Attrs) R BE (iR R) R R)<|wQ R (fB R Dy iL fR R)<|wQ R (AU (a:=qa M.Attrs) R BE (iR R) R R)<|AE ba λr2 bb bc=>AM.stepW (.two R R R) R R (EG (r:=rB r2) (caps:=[]) (bs:=[qa x9.Attrs,qa M.Attrs]) R iL R ⟨⟨_,(iR R),.d R⟩,⟨_,(iR R),.d R⟩,Za⟩ (λhg=>Xt<|AP bb hg) R)<|vQ R (CB R (iR R)<|iR R)<|xN R<|mM R<|vF B9 AJ R R<|vQ R (Aw R (iR R) iL)<|vQ R (AK R<|iR R)<|wQ R (fB R B9 iL fR R)<|wQ R (AU (a:=rI M.Kind) R AJ (iR R) R R)<|wQ R (Aw R (iR R) iL)<|vQ R (BQ R (iR R)<|iR R)<|xO R<|aZ<|cI R bc (λY=>?_) λY=>?_
   ·refine aT λbd=>aF [] ?_
    exact aR<|mA R<|aZ<|bd _<|Zk<|yI (a1 _<|J _ (Zb<|a2 _ (Zb<|av _ (Zb Y).symm).symm).symm) R
   exact Zd<|F _ _ wk<|J3 _ (AH [((C 0)+2)]) (Zb Y).symm
  ·have X:=Bn V a6
   exact Zd<|F _ _ wk<|J3 _ (AH [((C 0)+1)]) (Zb X).symm
 exact Zn<|a8 _ _ wk<|J1 _ _ (AH [(C 0)])<|xH J h4
theorem R6{w:Ah}{r:(List AI) × Int × Ah}{j:Nat}{l:Nat}{q:Nat}(h:Ib w=some r):Bf prog 155 3 [.ptr 1000 j 0 0] [(1000,some<|.box j 193 [.own 1001 l,.own 1002 q,rI w.cut]),(1001,some<|.arr l 100 4<|w.out.map AI.row),(1002,some<|.arr q 51 3<|w.add.map AG.row)] (λA h'=>∃(i:Nat→Nat),A=.tup [qd r.1,rI r.2.1]∧h'=[(1000,some<|.box j 193 [qd r.2.2.out,cZ,rI r.2.2.cut])]):=by
 unfold Ib at h
 refine EI func155 R R ntmps155 (Zz R) λV=>aU<|mA R<|mA R<|aZ<|aT λI=>aR<|mM R<|AE h λu B J=>?_
 refine Zq [1000,1001,1002] (hc:=[(1000,some<|.box j 193 [.own 1001 l,.own 1002 q,rI w.cut]),(1001,some<|.arr l 100 4<|w.out.map AI.row),(1002,some<|.arr q 51 3<|w.add.map AG.row)]) (bs:=[.ptr 1000 j 0 0]) (caps:=[]) R R R R iL R ⟨.inl ⟨iL,R⟩,Za⟩ ⟨R,R,R,R,R,R,R,R,R,Za⟩ (by decide) (iJ B) ?_
 intro X F
 refine BC [0,2,3,4,5] [1000,1001] ?_
 refine aZ<|I _<|aT λM=>aU<|mM R<|sQ R (Bz (ob:=.box _ _ _) R iL fR R)<|lF G6 EF R R<|AE J λY C O=>cL (Px<|C) R<|xU R<|aZ<|cI R O (λE=>?_) λE=>?_
 ·refine aT λT=>aG [] [1000,1001] ?_
  refine aR<|mA R<|mA R<|oZ T ?_
  exact Zk<|CM.mk (s':=⟨[(2,.r<|.sl []),(3,rI 3)],[(1000,some<|.box j 193 [qd u.out,cZ,rI u.cut])],F,16⟩) (Zm (by exact Ap.frz (e':=[(2,cZ),(3,rI 3)]) (h':=[(1000,some<|.box j 193 [qd u.out,cZ,rI u.cut])]) 1001 R ⟨jL,jL,Za⟩ ⟨R,.inr<|.inr<|.inl ⟨_,_,_,_,R,R,⟨.inr<|.inr ⟨R,R⟩,.inl R,.inl R,Za⟩⟩,Za⟩)<|by exact ZD ⟨.inl<|.inr<|.inr ⟨R,R⟩,jL,Za⟩ ⟨.inl R,Za⟩ nL)<|Ck (λ(r:(List AI) × Int × Ah) A h'=>∃(i:Nat→Nat),A=.tup [qd r.1,rI r.2.1]∧h'=[(1000,some<|.box j 193 [qd r.2.2.out,cZ,rI r.2.2.cut])]) E<|by exact⟨.tup [.r<|.sl [],rI 3],[(1000,some<|.box j 193 [qd u.out,cZ,rI u.cut])],⟨_,R,⟨R,R,Za⟩⟩,⟨.inr R,Za⟩,R,R,AH [],R,R⟩
 refine Zd<|M _<|aT λU=>aG [0] [1000,1001] ?_
 refine aR<|mM R<|sQ R (Bz (ob:=.box _ _ _) R iL fR R)<|lF G6 EF R R<|mA R<|mA R<|oZ U ?_
 exact Zk<|CM.mk (s':=⟨[(2,qd u.out),(3,rI 0)],[(1000,some<|.box j 193 [qd u.out,cZ,rI u.cut])],F,16⟩) (Zm (by exact Ap.frz (e':=[(0,.ptr 1000 j 0 0),(2,qd u.out),(3,rI 0),(12,.ptr 1000 j 0 0),(13,.ptr 1000 j 0 0),(14,.ptr 1000 j 0 0),(15,qd u.out)]) (h':=[(1000,some<|.box j 193 [qd u.out,cZ,rI u.cut])]) 1001 R ⟨jL,.inl<|.inr<|.inr ⟨R,R⟩,jL,jL,jL,jL,.inl<|.inr<|.inr ⟨R,R⟩,Za⟩ ⟨R,.inr<|.inr<|.inl ⟨_,_,_,_,R,R,⟨.inr<|.inr ⟨R,R⟩,.inl R,.inl R,Za⟩⟩,Za⟩) wk)<|Ck (λ(r:(List AI) × Int × Ah) A h'=>∃(i:Nat→Nat),A=.tup [qd r.1,rI r.2.1]∧h'=[(1000,some<|.box j 193 [qd r.2.2.out,cZ,rI r.2.2.cut])]) E<|by exact⟨.tup [qd u.out,rI 0],[(1000,some<|.box j 193 [qd u.out,cZ,rI u.cut])],⟨_,R,⟨R,R,Za⟩⟩,⟨.inr R,Za⟩,R,R,AH [],R,R⟩
theorem eh{d1 r}(h:IZ d1=some r):AO prog 120 [qd d1] (.tup [qd r.1,rI r.2]):=by
 unfold IZ at h
 refine mF func120 ntmps120 R λl=>aU<|mA R<|mA R<|aZ<|aU<|sS R (BB (cs:=N9) 4 R SB R R)<|aZ<|aS λK3 c3 a2=>aU<|mM R<|xL Bw R<|mM R<|aZ<|Zf<|BJ h λo1 V a6 X=>?_
 have J1:∀(A:Ah) (u:NN),o1=.nrm A→K3 ⟨[(4,.ptr 4 l 0 0)],[(4,some<|.box l 193 [.own 3040<|u 0,.own 3041<|u 1,rI A.cut]),(3040,some<|.arr (u 0) 100 4<|A.out.map AI.row),(3041,some<|.arr (u 1) 51 3<|A.add.map AG.row)],(u 2),76⟩:=by
  intro A u e
  have h1:=a6 _ e
  refine c3 _<|aT λc5=>aR<|Gl h1 λr1 r2 w5 a7 h2=>?_
  refine Zq [4,3040,3041] (hc:=[(1000,some<|.box l 193 [.own 1001<|u 0,.own 1002<|u 1,rI A.cut]),(1001,some<|.arr (u 0) 100 4<|A.out.map AI.row),(1002,some<|.arr (u 1) 51 3<|A.add.map AG.row)]) (bs:=[.ptr 1000 l 0 0]) (caps:=[]) R R R R iL R ⟨.inl ⟨iL,R⟩,Za⟩ ⟨R,R,R,R,R,R,R,R,R,Za⟩ (by decide) (R6 a7) ?_
  intro i6 n1
  refine BC [4,73] [4] ?_
  exact xX R<|xX R<|mA R<|mA R<|aZ<|c5 _<|Zk<|Ct (P:=prog) (λ(r:(List AI) × Int)=>qd r.1) (λ(r:(List AI) × Int)=>rI r.2) h2 iL (.t<|.d R)<|.t<|.d R
 refine DH (λ(Y:Int) (q:Ah) j=>⟨[(4,.ptr 4 l 0 0),(8,qd d1),(9,rL d1),(10,rI Y)],[(4,some<|.box l 193 [.own 3040<|j 0,.own 3041<|j 1,rI q.cut]),(3040,some<|.arr (j 0) 100 4<|q.out.map AI.row),(3041,some<|.arr (j 1) 51 3<|q.add.map AG.row)],(j 2),76⟩) (AH [(l+1),(l+2),(l+3)]) V (Zm (Zm (ZN 4 0 3040 100 4 (by decide) R R<|by decide)<|by exact ZD (e':=[(0,qd d1),(2,cZ),(3,rI 0),(4,.ptr 4 l 0 0),(8,qd d1),(9,rL d1),(10,rI 0)]) (h':=[(4,some<|.box l 193 [.own 3040<|l+1,cZ,rI 0]),(3040,some<|.arr (l+1) 100 4<|([]:List AI).map AI.row)]) ⟨jL,jL,jL,jL,jL,jL,jL,Za⟩ ⟨.inl R,.inl R,Za⟩ nL)<|Zm (Zm (ZN 4 1 3041 51 3 (by decide) R R<|by decide)<|by exact ZD (e':=[(0,qd d1),(2,cZ),(3,rI 0),(4,.ptr 4 l 0 0),(8,qd d1),(9,rL d1),(10,rI 0)]) (h':=[(4,some<|.box l 193 [.own 3040<|l+1,.own 3041<|l+2,rI 0]),(3040,some<|.arr (l+1) 100 4<|([]:List AI).map AI.row),(3041,some<|.arr (l+2) 51 3<|([]:List AG).map AG.row)]) ⟨jL,jL,jL,jL,jL,jL,jL,Za⟩ ⟨.inl R,.inl R,.inl R,Za⟩ nL) wk) ?_
 intro Y q j v1 a8 C
 have h3:Fk d1 Y q=some v1:=a8;unfold Fk at h3
 refine aU<|xS R<|aZ<|aT λc7=>cI R h3 (λh4=>?_) λh4=>?_
 ·refine Zd<|c7 _<|aS λK8 c8 E=>Zf<|BJ h4 λp1 aa ab Z=>?_
  have J2:∀(w6:Ah) (w:NN),p1=.nrm w6→K8 ⟨[(4,.ptr 4 l 0 0),(8,qd d1),(9,rL d1),(10,rI Y)],[(4,some<|.box l 193 [.own 3040<|w 0,.own 3041<|w 1,rI w6.cut]),(3040,some<|.arr (w 0) 100 4<|w6.out.map AI.row),(3041,some<|.arr (w 1) 51 3<|w6.add.map AG.row)],(w 2),76⟩:=by
   intro w6 w e
   have h5:=ab _ e
   exact c8 _<|aR<|AE h5 λx4 ac h6=>xA R ac<|mM R<|Zi<|ZL h6 (AH [(w 0),(w 1),(w 2)]) wk
  refine aU<|AE aa λF ad h7=>xI Bw R ad<|xB ((Bt F)) Er R<|sS R (BB (cs:=EH) 6 R FM R R)<|Zj R R (Ac (ds:=(Bt F)) R FL iL R iL R R R R)<|aZ<|aU<|xC Er R<|AE h7 λe1 ae h8=>cL (e9<|ae) R<|mA R<|aZ<|aS λaf ag B=>aT λah=>aR<|lF B9 AJ R R<|xQ R<|mM R<|vF EO B0 R R<|vQ R (Bq R Ar.slice<|iR R)<|vQ R (Aw R (iR R) iL)<|xN R<|mM R<|vM R<|vQ R (Aw R (iR R) iL)<|xN R<|mM R<|vF B9 AJ R R<|vQ R (Cc R (iR R) iL)<|vQ R (AK R<|iR R)<|wQ R (fB R EJ iL fR R)<|wQ R (AU (a:=rI F.N) R AJ (iR R) R R)<|wQ R (Aw R (iR R) iL)<|vQ R (BQ R (iR R)<|iR R)<|vQ R (AK R<|iR R)<|wQ R (AK R iL)<|wQ R (Aw R (iR R) iL)<|vQ R (BQ R (iR R)<|iR R)<|xO R<|aZ<|ah _<|BA h8 λp2 a0 ai=>?_
  have J3:∀(e2:Int) (i8:NN),p2=e2→af ⟨[(4,.ptr 4 l 0 0),(6,.ptr 6 (j 2) 0 0),(7,rI e2),(8,qd d1),(9,rL d1),(10,rI Y)],[(4,some<|.box l 193 [.own 3040<|j 0,.own 3041<|j 1,rI q.cut]),(6,some<|.box (j 2) 100<|Bt F),(3040,some<|.arr (j 0) 100 4<|q.out.map AI.row),(3041,some<|.arr (j 1) 51 3<|q.add.map AG.row)],(i8 0),76⟩:=by
   intro e2 i8 e
   have h9:=ai _ e
   refine ag _<|aT λaj=>aU<|mM R<|xU R<|aZ<|cI R h9 (λI=>?_) λI=>?_
   ·exact aU<|mM R<|mA R<|mA R<|aZ<|Zk<|Ct (P:=prog) (λ(r:(List AI) × Int)=>qd r.1) (λ(r:(List AI) × Int)=>rI r.2) (X _<|C _ (Zb<|Z _ (Zb I).symm).symm) iL (.t<|.one<|.nil)<|.t<|.d R
   refine Zd<|aj _<|aU<|lF B9 AJ R R<|aZ<|Zf<|aU<|xQ R<|mA R<|aZ<|cI R I (λJ=>?_) λJ=>?_
   ·refine aR<|lF EJ AJ R R<|lF Dy BE R R<|AE J λw7 ak al=>?_
    refine Zq [4,3040,3041] (hc:=[(1000,some<|.box l 193 [.own 1001<|j 0,.own 1002<|j 1,rI q.cut]),(1001,some<|.arr (j 0) 100 4<|q.out.map AI.row),(1002,some<|.arr (j 1) 51 3<|q.add.map AG.row)]) (bs:=[.ptr 1000 l 0 0,rI F.N,qa F.Attrs]) (caps:=[]) R R R R iL R ⟨.inl ⟨iL,R⟩,.inl ⟨iL,R⟩,.inl ⟨iL,R⟩,Za⟩ ⟨R,R,R,R,R,R,R,R,R,Za⟩ (by decide) (NI ak) ?_
    intro i9 n2
    refine BC [4,6,7,8,9,10,46,47,49,50,60,61,62,63,64,65,66] [4,6,3040,3041] ?_
    exact Zi<|E _ _ wk<|J2 _ (AH [(i9 0),(i9 1),n2]) (Zb al).symm
   refine aU<|xQ R<|mA R<|aZ<|cI R J (λM=>?_) λM=>?_
   ·refine aG [4,6,8,9,10] [4,6,3040,3041] ?_
    refine aR<|lF EO B0 R R<|AE M λw8 an ao=>?_
    refine Zq [4,3040,3041] (hc:=[(1000,some<|.box l 193 [.own 1001<|j 0,.own 1002<|j 1,rI q.cut]),(1001,some<|.arr (j 0) 100 4<|q.out.map AI.row),(1002,some<|.arr (j 1) 51 3<|q.add.map AG.row)]) (bs:=[.ptr 1000 l 0 0,qb F.Elems]) (caps:=[]) R R R R iL R ⟨.inl ⟨iL,R⟩,.inl ⟨iL,R⟩,Za⟩ ⟨R,R,R,R,R,R,R,R,R,Za⟩ (by decide) (PD an) ?_
    intro a1 n3
    refine BC [4,6,8,9,10,69,70,71] [4,6,3040,3041] ?_
    exact Zi<|E _ _ wk<|J2 _ (AH [(a1 0),(a1 1),n3]) (Zb ao).symm
   refine aT λaq=>aG [4,6,8,9,10] [4,6,3040,3041] ?_
   refine aR<|lF Fp AJ R R<|lF EJ AJ R R<|AE M λx6 ar av=>xA R ar<|sQ R (fB R Fp iL fR R)<|Zj R R (Ac (ds:=[.own 3040<|j 0,.own 3041<|j 1,rI x6]) R Fa iL R iL R R R R)<|aZ<|aq _<|aU<|lF Fp AJ R R<|sQ R (BD R iL iL)<|aZ<|cI R av (λO=>?_) λO=>?_
   ·refine aT λaw=>aF [] ?_
    exact aR<|mA R<|mA R<|aZ<|aw _<|Zk<|Ct (P:=prog) (λ(r:(List AI) × Int)=>qd r.1) (λ(r:(List AI) × Int)=>rI r.2) (X _<|C _ (Zb<|Z _ (Zb O).symm).symm) iL (.t<|.one<|.nil)<|.t<|.d R
   exact Zd<|E _ _ wk<|J2 _ (AH [(j 0),(j 1),(i8 0)]) (Zb O).symm
  refine aC R (λT=>?_) λT=>?_
  ·have U:=Bk T a0
   refine aG [4,6,8,9,10] [4,6,3040,3041] ?_
   exact aR<|lF Dy BE R R<|AE U λe3 ax ay=>cL (Zs<|ax) R<|mA R<|Zi<|B _ _ wk<|J3 _ (AH [((j 2)+1)]) (Zb ay).symm
  ·have U:=Bn T a0
   exact Zd<|B _ _ wk<|J3 _ (AH [((j 2)+1)]) (Zb U).symm
 exact Zn<|a2 _ _ wk<|J1 _ (AH [(j 0),(j 1),(j 2)])<|xH C h4
theorem uf{w p a r}(h:Pc w p a=some r):AO prog 104 [qb w,.r<|.sl<|p.map<|Ak .i64,rS a] (qd r):=by
 unfold Pc at h
 refine mF func104 ntmps104 R λn0=>aU<|mA R<|aZ<|aU<|mM R<|xL Ar R<|AE h λa8 I h1=>sS R (Th 18 R N7 (f:=En) (z0:=false) ls iL iL I)<|mA R<|aZ<|aS λK3 c3 aa=>aU<|mM R<|xL B8 R<|mM R<|aZ<|Zf<|BA h1 λo1 Z ab=>?_
 have J1:∀(j:List Bool) (q:NN),o1=j→K3 ⟨[(0,qb w),(2,rS a),(7,.own 18<|q 0)],[(18,some<|.arr (q 0) 4 1<|j.map En)],(q 1),69⟩:=by
  intro j q e
  have h2:=ab _ e
  refine c3 _<|aU<|mA R<|aZ<|aS λK6 c6 ac=>aU<|mM R<|xL Ar R<|mM R<|aZ<|Zf<|BA h2 λo2 a0 ad=>?_
  have J2:∀(u:List AI) (J:NN),o2=u→K6 ⟨[(10,.own 5010<|J 0)],[(5010,some<|.arr (J 0) 100 4<|u.map AI.row)],(J 1),69⟩:=by
   intro u J e
   have h3:=ad _ e
   refine c6 _<|aT λc8=>aR<|mM R ?_
   refine AM.weak (by exact Ap.frz (e':=[(10,qd u),(64,qd u)]) (h':=[]) 5010 R ⟨.inl<|.inr<|.inr ⟨R,R⟩,.inl<|.inr<|.inr ⟨R,R⟩,Za⟩ Za) ?_
   exact D2 h3 λr1 r2 ae h4=>sS R (B4 (r:=.tup [qd r1,rI r2]) (caps:=[]) (bs:=[qd u]) R iL R ⟨.inl ⟨iL,R⟩,Za⟩ λ_=>eh<|ae)<|mM R<|xX R<|xX R<|mA R<|mA R<|aZ<|c8 _<|aU<|mM R<|mA R<|aZ<|Zk<|DE (P:=prog) (λ(r:(List AI))=>qd r) h4 iL<|.t<|.d R
  refine DH (λ(E:Int) (l:List AI) i8=>⟨[(2,rS a),(7,.own 18<|q 0),(10,.own 5010<|i8 0),(29,qb w),(30,rL w),(31,rI E)],[(18,some<|.arr (q 0) 4 1<|j.map En),(5010,some<|.arr (i8 0) 100 4<|l.map AI.row)],(i8 1),69⟩) (AH [(q 1),((q 1)+1)]) a0 (Zm (Zm (G8 10 5010 100 4 (by decide) R)<|by exact ZD (e':=[(0,qb w),(2,rS a),(7,.own 18<|q 0),(10,.own 5010<|q 1),(29,qb w),(30,rL w),(31,rI 0)]) (h':=[(18,some<|.arr (q 0) 4 1<|j.map En),(5010,some<|.arr (q 1) 100 4<|([]:List AI).map AI.row)]) ⟨jL,jL,jL,jL,jL,jL,jL,Za⟩ ⟨.inl R,.inl R,Za⟩ nL) wk) ?_
  intro E l i8 v1 af ag
  have h5:Ka w a j E l=some v1:=af;unfold Ka at h5
  refine aU<|xS R<|aZ<|aT λah=>cI R h5 (λh6=>?_) λh6=>?_
  ·refine Zd<|ah _<|aT λai=>Zf<|aU<|mM R<|AE h6 λY aj h7=>xI Ar R aj<|xB ((Ag Y)) Cf R<|sS R (BB (cs:=Ec) 12 R EV R R)<|mA R<|Zj R R (Ac (ds:=(Ag Y)) R DK iL R iL R R R R)<|aZ<|aT λak=>aR ?_
   refine sQ R (BM R Kv (q:=[(0,_),(1,_)]) (by exact⟨R,R,R,iL,R,R,R,iL,Za⟩) (cs:=VH)<|by rfl) ?_
   refine sS R (BB (cs:=EH) 13 R FM R R)<|Zj R R (Ac (ds:=VH) R FL iL R iL R R R R)<|aZ<|ak _<|aS λal an F=>Zf<|BA h7 λp1 ao aq=>?_
   have J3:∀(B:AI) (C:NN),p1=B→al ⟨[(2,rS a),(7,.own 18<|q 0),(10,.own 5010<|i8 0),(13,.ptr 13 ((i8 1)+1) 0 0),(29,qb w),(30,rL w),(31,rI E)],[(13,some<|.box ((i8 1)+1) 100 [rI B.Kind,rI B.N,.own 39<|C 0,cZ]),(18,some<|.arr (q 0) 4 1<|j.map En),(39,some<|.arr (C 0) 58 2<|B.Attrs.map AC.row),(5010,some<|.arr (i8 0) 100 4<|l.map AI.row)],(C 1),69⟩:=by
    intro B C e
    have h8:=aq _ e
    refine an _<|aR<|mM R<|xC Er R ?_
    refine AM.weak (by exact Ap.frz (e':=[(2,rS a),(7,.own 18<|q 0),(10,.own 5010<|i8 0),(13,.ptr 13 ((i8 1)+1) 0 0),(29,qb w),(30,rL w),(31,rI E),(58,.own 5010<|i8 0),(59,.agg [rI B.Kind,rI B.N,qa B.Attrs,cZ])]) (h':=[(13,some<|.box ((i8 1)+1) 100 [rI B.Kind,rI B.N,qa B.Attrs,cZ]),(18,some<|.arr (q 0) 4 1<|j.map En),(5010,some<|.arr (i8 0) 100 4<|l.map AI.row)]) 39 R ⟨jL,jL,jL,jL,jL,jL,jL,jL,.inr ⟨_,_,R,R,⟨.inl R,.inl R,.inr<|.inr ⟨R,R⟩,.inl R,Za⟩⟩,Za⟩ ⟨R,.inr<|.inr<|.inl ⟨_,_,_,_,R,R,⟨.inl R,.inl R,.inr<|.inr ⟨R,R⟩,.inl R,Za⟩⟩,R,.inl R,R,.inl R,Za⟩) ?_
    exact sS R (Bm 60 R Bw (f:=AI.row) (l:=([(AI.mk B.Kind B.N B.Attrs [])]:List AI)) ⟨R,⟨_,iL,R⟩,Za⟩ R (λ_=>R) R)<|AE h8 λb8 T h9=>sS R (Ci R Bw iL R (.inr<|.inl ⟨_,_,iL,R⟩) T)<|mA R<|aZ<|ai _<|aR<|AE h9 λx8 ar av=>xA R ar<|mM R<|Zi<|ZL av (AH [((C 1)+1),((C 1)+2)]) wk
   refine aU<|mM R<|mM R<|AE ao λx9 a1 aw=>sQ R (GB R N7.slice iL R iL λ_=>a1)<|sQ R (Ml (d:=.bool x9) R VX iL fR (λ_=>a1) R)<|sQ R (A3 R iL)<|mA R<|aZ<|cI R aw (λU=>?_) λU=>?_
   ·refine Zd ?_
    exact F _ _ (Zm (Zm (ZN 13 2 39 58 2 (by decide) R R<|by decide)<|by exact ZD (e':=[(2,rS a),(7,.own 18<|q 0),(10,.own 5010<|i8 0),(11,rI E),(12,.ptr 12 (i8 1) 0 0),(13,.ptr 13 ((i8 1)+1) 0 0),(29,qb w),(30,rL w),(31,rI E),(32,rB<|(decide<|E<(w.length:Int))),(33,rI E),(34,.rop (AG.row Y) 0),(35,.agg<|Ag Y),(36,.agg VH),(41,rB<|(!x9)),(42,.own 18<|q 0),(43,rI E),(44,.ptr 18 (q 0) E.toNat 0),(45,rB x9),(46,rB<|(!x9))]) (h':=[(12,some<|.box (i8 1) 51<|Ag Y),(13,some<|.box ((i8 1)+1) 100 [rI 0,rI 1,.own 39<|(i8 1)+2,cZ]),(18,some<|.arr (q 0) 4 1<|j.map En),(39,some<|.arr ((i8 1)+2) 58 2<|([]:List AC).map AC.row),(5010,some<|.arr (i8 0) 100 4<|l.map AI.row)]) ⟨jL,jL,jL,jL,jL,jL,jL,jL,jL,jL,jL,jL,jL,jL,jL,jL,jL,jL,jL,jL,Za⟩ ⟨.inl R,.inl R,.inl R,.inl R,.inl R,Za⟩ nL) wk)<|J3 _ (AH [((i8 1)+2),((i8 1)+3)]) (Zb U).symm
   refine aT λax=>aG [2,7,10,12,13,29,30,31] [12,13,18,5010] ?_
   refine aR<|mM R<|sQ R (CA R iL iL)<|mM R<|vF Cr BE R R<|AE U λr3 ay az=>vL (λhg=>Pr<|AP ay hg) R<|vM R<|vQ R (CA R (iR R)<|iR R)<|xO R<|mA R<|aZ<|ax _<|cI R az (λV=>?_) λV=>?_
   ·refine aR<|sQ R (fB R B9 iL fR R)<|Zj R R (Ac (ds:=[rI 2,rI 1,cZ,cZ]) R Fa iL R iL R R R R)<|Zi ?_
    exact F _ _ (Zm (Zm (ZN 13 2 39 58 2 (by decide) R R<|by decide)<|by exact ZD (e':=[(2,rS a),(7,.own 18<|q 0),(10,.own 5010<|i8 0),(12,.ptr 12 (i8 1) 0 0),(13,.ptr 13 ((i8 1)+1) 0 0),(29,qb w),(30,rL w),(31,rI E),(47,rB<|((a=[])||(r3=a))),(48,rS a),(49,rB<|(decide<|a=[])),(50,rB<|(decide<|a=[])),(56,rB<|((a=[])||(r3=a))),(57,.ptr 13 ((i8 1)+1) 0 0)]) (h':=[(12,some<|.box (i8 1) 51<|Ag Y),(13,some<|.box ((i8 1)+1) 100 [rI 2,rI 1,.own 39<|(i8 1)+2,cZ]),(18,some<|.arr (q 0) 4 1<|j.map En),(39,some<|.arr ((i8 1)+2) 58 2<|([]:List AC).map AC.row),(5010,some<|.arr (i8 0) 100 4<|l.map AI.row)]) ⟨jL,jL,jL,jL,jL,jL,jL,jL,jL,jL,jL,jL,jL,jL,Za⟩ ⟨.inl R,.inl R,.inl R,.inl R,.inl R,Za⟩ nL) wk)<|J3 _ (AH [((i8 1)+2),((i8 1)+3)]) (Zb V).symm
   refine aR<|mM R ?_
   refine sQ R (BM R Fo (q:=[(0,_),(1,_)]) (by exact⟨R,R,R,iL,R,R,R,iL,Za⟩) (cs:=[.r<|.str [99,117,116],rS a])<|by rfl) ?_
   exact sS R (Bm 39 R Af (f:=AC.row) (l:=([(AC.mk [99,117,116] a)]:List AC)) ⟨R,⟨_,iL,R⟩,Za⟩ R (λ_=>R) R)<|sQ R (fB R Dy iL fR R)<|Zj R R (Ac (ds:=[rI 0,rI 1,.own 39<|(i8 1)+2,cZ]) R GZ iL R iL R R R R)<|Zi<|F _ _ wk<|J3 _ (AH [((i8 1)+2),((i8 1)+3)]) (Zb V).symm
  exact Zn<|ac _ _ wk<|J2 _ (AH [(i8 0),(i8 1)])<|xH ag h6
 refine DH (λ(x2:Int) (A:List Bool) M=>⟨[(0,qb w),(2,rS a),(7,.own 18<|M 0),(19,.r<|.sl<|p.map<|Ak .i64),(20,rL p),(21,rI x2)],[(18,some<|.arr (M 0) 4 1<|A.map En)],(M 1),69⟩) (AH [n0,(n0+1)]) Z wk ?_
 intro x2 A M v2 b0 b1
 have a2:KU p x2 A=some v2:=b0;unfold KU at a2
 refine aU<|xS R<|aZ<|aT λb2=>cI R a2 (λX=>?_) λX=>?_
 ·exact Zd<|b2 _<|aT λb3=>Zf<|aU<|AE X λb4 a6 b5=>xI B8 R a6<|xV (.int .i64 b4) AJ R<|mA R<|aZ<|aR<|mM R<|mM R<|AE b5 λb9 O b6=>sQ R (GB R N7.slice iL R iL λ_=>O)<|Zj R R (Tf (v:=true) R mK iL R O iL R R R R)<|aZ<|b3 _<|aR<|AE b6 λba a7 b7=>xA R a7<|mM R<|Zi<|ZL b7 (AH [(M 0),(M 1)]) wk
 exact Zn<|aa _ _ wk<|J1 _ (AH [(M 0),(M 1)])<|xH b1 X
theorem pa{p a r}(h:QC p a=some r):AO prog 105 [.r<|.sl<|p.map<|Ak .i64,rI a] (rI r):=by
 unfold QC at h
 refine mF func105 ntmps105 R λF=>aU<|mA R<|aZ<|aT λw=>aU<|mM R<|xQ R<|aZ<|cI R h (λj=>?_) λj=>?_
 ·exact zI j R id
 exact Zd<|w _<|aU<|mM R<|mM R<|AE j λI l A=>sQ R (B5 R iL iL λ_=>l)<|AE A λB q C=>xI B8 R q<|xV (.int .i64 B) AJ R<|AE C λJ u E=>xA R u<|mA R<|aZ<|Zk<|yI E R
theorem oS{C r}(h:RP C=some r):Bf prog 66 1 [qb C] [] (λM h'=>∃(i:Nat→Nat),M=.own 1000 (i 0)∧h'=[(1000,some<|.arr (i 0) 51 3<|r.map AG.row)]):=by
 unfold RP at h
 refine EI func66 R R ntmps66 (Zz R) λn0=>aU<|mA R<|aZ<|aU<|mM R<|xL Ar R<|AE h λa1 E h1=>sS R (Th 8 R Ar (f:=AG.row) (z0:=(AG.mk 0 0 [])) WG iL iL E)<|mA R<|aZ<|aS λK3 c3 O=>aU<|mM R<|xL Ar R<|mM R<|aZ<|Zf<|BA h1 λo1 F T=>?_
 have J1:∀(q:List AG) (A:NN),o1=q→K3 ⟨[(3,.own 8<|A 0)],[(8,some<|.arr (A 0) 51 3<|q.map AG.row)],(A 1),29⟩:=by
  intro q A e
  have h2:=T _ e
  refine c3 _<|aU<|mM R<|mA R<|aZ ?_
  exact Zk<|CM.mk (s':=⟨[(2,.own 1000<|A 1)],[(1000,some<|.arr (A 1) 51 3<|q.map AG.row)],((A 1)+1),29⟩) (Zm (Zm (Ap.ren 2 8 1000 R R R)<|by exact ZD (e':=[(2,.own 1000<|A 1)]) (h':=[(1000,some<|.arr (A 1) 51 3<|q.map AG.row)]) ⟨jL,Za⟩ ⟨.inl R,Za⟩ nL) wk)<|Ck (λ(r:(List AG)) M h'=>∃(i:Nat→Nat),M=.own 1000 (i 0)∧h'=[(1000,some<|.arr (i 0) 51 3<|r.map AG.row)]) h2<|by exact⟨.own 1000<|A 1,[(1000,some<|.arr (A 1) 51 3<|q.map AG.row)],R,⟨.inr R,Za⟩,R,R,AH [(A 1)],R,R⟩
 refine DH (λ(B:Int) (u:List AG) j=>⟨[(3,.own 8<|j 0),(9,qb C),(10,rL C),(11,rI B)],[(8,some<|.arr (j 0) 51 3<|u.map AG.row)],(j 1),29⟩) (AH [n0,(n0+1)]) F wk ?_
 intro B u j v1 U V
 have h3:J0 C B u=some v1:=U;unfold J0 at h3
 refine aU<|xS R<|aZ<|aT λc7=>cI R h3 (λX=>?_) λX=>?_
 ·refine Zd<|c7 _<|aT λc8=>Zf<|aU<|mM R<|AE X λl Y h5=>xI Ar R Y<|xB ((Ag l)) Cf R<|sS R (BB (cs:=Ec) 5 R EV R R)<|mA R<|Zj R R (Ac (ds:=(Ag l)) R DK iL R iL R R R R)<|aZ<|AE h5 λI Z h6=>?_
  refine Hd 10 [pO 16<|.own 8<|j 0,pO 17<|rI B,pO 18<|.ptr 5 (j 1) 0 0,pO 19<|rI l.Char,pO 20<|.ptr 5 (j 1) 0 1,pO 21<|rI l.Ref,pO 22<|.ptr 5 (j 1) 0 2,pO 23<|qa l.Attrs,⟨some 24,(λw=>.own 24<|w 8),some (24,(λw=>some<|.arr (w 8) 58 2<|I.map AC.row)),[8]⟩,⟨some 25,(λw=>.agg [rI l.Char,rI l.Ref,.own 24<|w 8]),none,[8]⟩] BF (by kernel_rfl) (by exact⟨λ_ _ h=>⟨R,λ_ _ e=>by cases e⟩,λ_ _ h=>⟨R,λ_ _ e=>by cases e⟩,λ_ _ h=>⟨R,λ_ _ e=>by cases e⟩,λ_ _ h=>⟨R,λ_ _ e=>by cases e⟩,λ_ _ h=>⟨R,λ_ _ e=>by cases e⟩,λ_ _ h=>⟨R,λ_ _ e=>by cases e⟩,λ_ _ h=>⟨R,λ_ _ e=>by cases e⟩,λ_ _ h=>⟨R,λ_ _ e=>by cases e⟩,λ_ _ h=>⟨by simp only[h 8 R],λ_ _ e=>by cases e;simp only[h 8 R]⟩,λ_ _ h=>⟨by simp only[h 8 R],λ_ _ e=>by cases e⟩,Za⟩) R (by exact⟨oB [(3,.own 8<|j 0)] [(8,some<|.arr (j 0) 51 3<|u.map AG.row)]<|AK R<|.inl R,oB [(4,rI B)] []<|AK R<|.inl R,oB [(5,.ptr 5 (j 1) 0 0)] [(5,some<|.box (j 1) 51<|Ag l)]<|fB R Eb (.inl R) (λ_=>R) R,oB [(18,.ptr 5 (j 1) 0 0)] [(5,some<|.box (j 1) 51<|Ag l)]<|AU (a:=rI l.Char) R AJ (.inl R) R R,oB [(5,.ptr 5 (j 1) 0 0)] [(5,some<|.box (j 1) 51<|Ag l)]<|fB R Ek (.inl R) (λ_=>R) R,oB [(20,.ptr 5 (j 1) 0 1)] [(5,some<|.box (j 1) 51<|Ag l)]<|AU (a:=rI l.Ref) R AJ (.inl R) R R,oB [(5,.ptr 5 (j 1) 0 0)] [(5,some<|.box (j 1) 51<|Ag l)]<|fB R Cr (.inl R) (λ_=>R) R,oB [(22,.ptr 5 (j 1) 0 2)] [(5,some<|.box (j 1) 51<|Ag l)]<|AU (a:=qa l.Attrs) R BE (.inl R) R R,oM (λ_=>[(23,qa l.Attrs)]) (λ_=>[]) R λw e h' n=>Tp 24 (f:=AC.row) R Af (.inl R) (.inl ⟨(.inl R),λ_=>R⟩) Z,oC (λw=>[(19,rI l.Char),(21,rI l.Ref),(24,.own 24<|w 8)]) (λw=>[(24,some<|.arr (w 8) 58 2<|I.map AC.row)]) λw e h'=>BM R JJ (q:=[(0,_),(1,_),(2,_)]) (by exact⟨R,R,R,(.inl R),R,R,R,(.inl R),R,R,R,(.inl R),Za⟩) (cs:=[rI l.Char,rI l.Ref,.own 24<|w 8])<|by rfl,Za⟩) λw n1=>?_
  refine BC [3,4,5,9,10,11,12,13,14,15,16,17,18,19,20,21,22,23,24,25] [5,8,24] ?_
  refine AE h6 λx5 J h7=>sQ R (GB R Ar.slice iL R iL λ_=>J) ?_
  refine AM.weak (by exact Ap.frz (e':=[(3,.own 8<|j 0),(4,rI B),(5,.ptr 5 (j 1) 0 0),(9,qb C),(10,rL C),(11,rI B),(12,rB<|(decide<|B<(C.length:Int))),(13,rI B),(14,.rop (AG.row l) 0),(15,.agg<|Ag l),(16,.own 8<|j 0),(17,rI B),(18,.ptr 5 (j 1) 0 0),(19,rI l.Char),(20,.ptr 5 (j 1) 0 1),(21,rI l.Ref),(22,.ptr 5 (j 1) 0 2),(23,qa l.Attrs),(24,qa I),(25,.agg [rI l.Char,rI l.Ref,qa I]),(26,.ptr 8 (j 0) B.toNat 0)]) (h':=[(5,some<|.box (j 1) 51<|Ag l),(8,some<|.arr (j 0) 51 3<|u.map AG.row)]) 24 R ⟨jL,jL,jL,jL,jL,jL,jL,jL,jL,jL,jL,jL,jL,jL,jL,jL,jL,jL,.inl<|.inr<|.inr ⟨R,R⟩,.inr ⟨_,_,R,R,⟨.inl R,.inl R,.inr<|.inr ⟨R,R⟩,Za⟩⟩,jL,Za⟩ ⟨R,.inl R,R,.inl R,Za⟩) ?_
  refine Zj R R (Vd (v:=(AG.mk l.Char l.Ref I)) R DK iL R J iL R R R R)<|aZ<|c8 _<|aG [3,9,10,11] [8] ?_
  exact aR<|AE h7 λx6 a0 h8=>xA R a0<|mM R<|Zi<|ZL h8 (AH [(j 0),n1]) wk
 exact Zn<|O _ _ wk<|J1 _ (AH [(j 0),(j 1)])<|xH V X
theorem tQ{q a b c r}(h:O7 q a b c=some r):AO prog 106 [qb q,rI a,qb b,rS c] (qd r):=by
 unfold O7 at h
 refine mF func106 ntmps106 R λn0=>aU<|mA R<|aZ<|aT λc2=>aR<|mM R<|AE h λF J h1=>?_
 refine Zq [14] (hc:=[]) (bs:=[qb b]) (caps:=[]) R R R R iL R ⟨.inl ⟨iL,R⟩,Za⟩ Za (by decide) (oS J) ?_
 intro i1 n1
 refine BC [0,1,2,3,8,13,14] [14] ?_
 refine mA R<|aZ<|c2 _<|aS λK3 c3 M=>aU<|mM R<|sQ R (Ss R Ar.slice iL R)<|mM R<|aZ<|Zf<|BA h1 λo1 B O=>?_
 have J1:∀(l:List AG) (C:NN),o1=l→K3 ⟨[(0,qb q),(1,rI a),(9,.own 14<|C 0)],[(14,some<|.arr (C 0) 51 3<|l.map AG.row)],(C 1),50⟩:=by
  intro l C e
  have h2:=O _ e
  refine c3 _<|aT λc5=>aR<|mM R ?_
  refine sQ R (BM R Kv (q:=[(0,_),(1,_)]) (by exact⟨R,R,R,iL,R,R,R,iL,Za⟩) (cs:=[rI 0,rI a,cZ,cZ])<|by rfl) ?_
  refine mM R ?_
  refine sQ R (BM R Kv (q:=[(0,_),(3,_)]) (by exact⟨R,R,R,iL,R,R,R,iL,Za⟩) (cs:=[rI 1,rI 0,cZ,.own 14<|C 0])<|by rfl) ?_
  refine mM R<|xL Ar R<|mM R<|AE h2 λA T h3=>sQ R (B5 R iL iL λ_=>T) ?_
  refine sQ R (BM R Kv (q:=[(0,_),(1,_)]) (by exact⟨R,R,R,iL,R,R,R,iL,Za⟩) (cs:=[rI 0,rI A,cZ,cZ])<|by rfl) ?_
  refine AM.weak (by exact Ap.frz (e':=[(0,qb q),(1,rI a),(9,qb l),(36,rI a),(37,.agg [rI 0,rI a,cZ,cZ]),(38,qb l),(39,.agg [rI 1,rI 0,cZ,qb l]),(40,qb q),(41,rL q),(42,rI a),(43,rI A),(44,.agg [rI 0,rI A,cZ,cZ])]) (h':=[]) 14 R ⟨jL,jL,.inl<|.inr<|.inr ⟨R,R⟩,jL,jL,.inl<|.inr<|.inr ⟨R,R⟩,.inr ⟨_,_,R,R,⟨.inl R,.inl R,.inl R,.inr<|.inr ⟨R,R⟩,Za⟩⟩,jL,jL,jL,jL,jL,Za⟩ Za) ?_
  refine sS R (Bm 45 R Bw (f:=AI.row) (l:=([(AI.mk 0 a [] []),(AI.mk 1 0 [] l),(AI.mk 0 A [] [])]:List AI)) ⟨R,⟨_,iL,R⟩,R,⟨_,iL,R⟩,R,⟨_,iL,R⟩,Za⟩ R (λ_=>R) R) ?_
  refine AM.weak (by exact Ap.frz (e':=[(0,qb q),(1,rI a),(9,qb l),(36,rI a),(37,.agg [rI 0,rI a,cZ,cZ]),(38,qb l),(39,.agg [rI 1,rI 0,cZ,qb l]),(40,qb q),(41,rL q),(42,rI a),(43,rI A),(44,.agg [rI 0,rI A,cZ,cZ]),(45,.r<|.sl<|[(AI.mk 0 a [] []),(AI.mk 1 0 [] l),(AI.mk 0 A [] [])].map AI.row)]) (h':=[]) 45 R ⟨jL,jL,jL,jL,jL,jL,jL,jL,jL,jL,jL,jL,.inl<|.inr<|.inr ⟨R,R⟩,Za⟩ Za) ?_
  refine D2 h3 λr1 r2 U h4=>sS R (B4 (r:=.tup [qd r1,rI r2]) (caps:=[]) (bs:=[.r<|.sl<|[(AI.mk 0 a [] []),(AI.mk 1 0 [] l),(AI.mk 0 A [] [])].map AI.row]) R iL R ⟨.inl ⟨iL,R⟩,Za⟩ λ_=>eh<|U)<|mM R<|xX R<|xX R<|mA R<|mA R<|aZ<|c5 _<|aT λc6=>aF [11] ?_
  exact aR<|mM R<|mA R<|aZ<|c6 _<|Zk<|DE (P:=prog) (λ(r:(List AI))=>qd r) h4 iL<|.t<|.d R
 refine DH (λ(u:Int) (I:List AG) j=>⟨[(0,qb q),(1,rI a),(3,rS c),(9,.own 14<|j 0),(16,rL F),(17,rI u)],[(14,some<|.arr (j 0) 51 3<|I.map AG.row)],(j 1),50⟩) (AH [(i1 0),n1]) B wk ?_
 intro u I j v1 V X
 have h5:LE c F u I=some v1:=V;unfold LE at h5
 refine aU<|xS R<|aZ<|aT λc8=>cI R h5 (λY=>?_) λY=>?_
 ·refine Zd<|c8 _<|aT λc9=>Zf<|aU<|mM R<|mA R<|aZ<|aR<|mM R<|mM R<|mM R<|mM R<|AE Y λE w h7=>sQ R (GB R Ar.slice iL R iL λ_=>w)<|sQ R (H9 (ob:=.arr _ _ _ _) R Cr iL fR R)<|sQ R (Ml (d:=.sl<|E.Attrs.map AC.row) R BE iL fR (λ_=>w) R)<|mM R ?_
  refine sQ R (BM R Fo (q:=[(0,_),(1,_)]) (by exact⟨R,R,R,iL,R,R,R,iL,Za⟩) (cs:=[.r<|.str [97,100,100],rS c])<|by rfl) ?_
  refine sQ R (BM R Fo (q:=[(0,_)]) (by exact⟨R,R,R,iL,Za⟩) (cs:=TV)<|by rfl) ?_
  refine sS R (Bm 30 R Af (f:=AC.row) (l:=([(AC.mk [97,100,100] c),(AC.mk [99,117,116] [])]:List AC)) ⟨R,⟨_,iL,R⟩,R,⟨_,iL,R⟩,Za⟩ R (λ_=>R) R) ?_
  refine AM.weak (by exact Ap.frz (e':=[(0,qb q),(1,rI a),(3,rS c),(9,.own 14<|j 0),(10,rI u),(16,rL F),(17,rI u),(18,rB<|(decide<|u<(F.length:Int))),(19,rI u),(20,.own 14<|j 0),(21,rI u),(22,.own 14<|j 0),(23,rI u),(24,.ptr 14 (j 0) u.toNat 0),(25,.ptr 14 (j 0) u.toNat 2),(26,qa E.Attrs),(27,rS c),(28,.agg [.r<|.str [97,100,100],rS c]),(29,.agg TV),(30,.r<|.sl<|[(AC.mk [97,100,100] c),(AC.mk [99,117,116] [])].map AC.row)]) (h':=[(14,some<|.arr (j 0) 51 3<|I.map AG.row)]) 30 R ⟨jL,jL,jL,jL,jL,jL,jL,jL,jL,jL,jL,jL,jL,jL,jL,jL,jL,jL,jL,.inl<|.inr<|.inr ⟨R,R⟩,Za⟩ ⟨R,.inl R,Za⟩) ?_
  refine AE h7 λr3 Z h8=>sS R (B4 (r:=qa r3) (caps:=[]) (bs:=[qa E.Attrs,.r<|.sl<|[(AC.mk [97,100,100] c),(AC.mk [99,117,116] [])].map AC.row]) R iL R ⟨.inl ⟨iL,R⟩,.inl ⟨iL,R⟩,Za⟩ λ_=>YR<|Z)<|sQ R (GB R Ar.slice iL R iL λ_=>w)<|sQ R (H9 (ob:=.arr _ _ _ _) R Cr iL fR R)<|Zj R R (Tf (v:=(AG.mk E.Char E.Ref r3)) R GZ iL R w iL R R R R)<|aZ<|c9 _<|aG [0,1,3,9,16,17] [14] ?_
  exact aR<|AE h8 λx6 a0 h9=>xA R a0<|mM R<|Zi<|ZL h9 (AH [(j 0),((j 1)+1)]) wk
 exact Zn<|M _ _ wk<|J1 _ (AH [(j 0),(j 1)])<|xH X Y
theorem TX{d1 r}(h:Jz d1=some r):AO prog 148 [qd d1] (.tup [rI r.1,rI r.2]):=by
 unfold Jz at h
 refine mF func148 ntmps148 R λn0=>aU<|mA R<|mA R<|aZ<|aU<|mA R<|mA R<|aZ<|aS λK3 c3 a0=>aU<|mM R<|xL Bw R<|mM R<|aZ<|Zf<|Ks h λo1 O a1=>?_
 have J1:∀(l:Int) (A:Int) (i5:NN),o1=(l,A)→K3 ⟨[(4,rI l),(5,rI A)],[],(i5 0),31⟩:=by
  intro l A i5 e
  have h1:=a1 _ _ e
  exact c3 _<|aU<|mM R<|mM R<|mA R<|mA R<|aZ<|Zk<|Ct (P:=prog) (λ(r:Int × Int)=>rI r.1) (λ(r:Int × Int)=>rI r.2) h1 iL (.t<|.d R)<|.t<|.d R
 refine IU (λ(q:Int) (j:Int) (T:Int) I=>⟨[(4,rI q),(5,rI j),(8,qd d1),(9,rL d1),(10,rI T)],[],(I 0),31⟩) (AH [n0]) O wk ?_
 intro q j T I v1 a2 a6
 have h2:Jx d1 q j T=some v1:=a2;unfold Jx at h2
 refine aU<|xS R<|aZ<|aT λc7=>cI R h2 (λh3=>?_) λh3=>?_
 ·refine Zd<|c7 _<|aS λK8 c8 U=>Zf<|Ks h3 λp1 a7 a8=>?_
  have J2:∀(u:Int) (B:Int) (i6:NN),p1=(u,B)→K8 ⟨[(4,rI u),(5,rI B),(8,qd d1),(9,rL d1),(10,rI T)],[],(i6 0),31⟩:=by
   intro u B i6 e
   have h4:=a8 _ _ e
   exact c8 _<|aR<|AE h4 λx4 aa h5=>xA R aa<|mM R<|Zi<|Dv.mk h5 (AH [(i6 0)]) wk
  refine aU<|AE a7 λx5 ab h6=>xI Bw R ab<|xB ((Bt x5)) Er R<|sS R (BB (cs:=EH) 7 R FM R R)<|Zj R R (Ac (ds:=(Bt x5)) R FL iL R iL R R R R)<|aZ<|aS λac ad F=>aU<|lF B9 AJ R R<|xU R<|aZ<|BA h6 λp2 V ae=>?_
  have J3:∀(w:Int) (Y:NN),p2=w→ac ⟨[(4,rI w),(5,rI j),(7,.ptr 7 (I 0) 0 0),(8,qd d1),(9,rL d1),(10,rI T)],[(7,some<|.box (I 0) 100<|Bt x5)],(Y 0),31⟩:=by
   intro w Y e
   have h7:=ae _ e
   refine ad _<|aU<|lF B9 AJ R R<|xU R<|aZ<|cI R h7 (λh8=>?_) λh8=>?_
   ·exact aR<|mM R<|xC Er R<|AE h8 λr1 af h9=>cL (Tr<|af) R<|AE h9 λZ E ag=>xA R E<|mA R<|Zi<|U _ _ wk<|J2 _ _ (AH [(Y 0)]) (Zb ag).symm
   exact Zd<|U _ _ wk<|J2 _ _ (AH [(Y 0)]) (Zb h8).symm
  refine aC R (λJ=>?_) λJ=>?_
  ·have M:=Bk J V
   exact aR<|mM R<|lF EJ AJ R R<|AE M λX C ah=>xA R C<|mA R<|Zi<|F _ _ wk<|J3 _ (AH [((I 0)+1)]) (Zb ah).symm
  ·have M:=Bn J V
   exact Zd<|F _ _ wk<|J3 _ (AH [((I 0)+1)]) (Zb M).symm
 exact Zn<|a0 _ _ wk<|J1 _ _ (AH [(I 0)])<|xH a6 h3
theorem Jv{l:BX}{r:Int}{j:Nat}(h:Gf l=some r):Bf prog 149 1 [.ptr 1000 j 0 0] [(1000,some<|.box j 196 [qd l.steps,rI l.used])] (λq h'=>∃(i:Nat→Nat),q=rI r∧h'=[(1000,some<|.box j 196 [qd l.steps,rI l.used])]):=by
 unfold Gf at h
 refine EI func149 R R ntmps149 (Zz R) λB=>aU<|mA R<|aZ<|aT λC=>aU<|mM R<|sQ R (Bz (ob:=.box _ _ _) R iL fR R)<|lF LZ EF R R<|xL Bw R<|xQ R<|aZ<|cI R h (λu=>?_) λu=>?_
 ·refine aU<|mA R<|aZ ?_
  exact Zk<|CM.mk (s':=⟨[(2,rI<|(-1))],[(1000,some<|.box j 196 [qd l.steps,rI l.used])],B,16⟩) wk<|Ck (λ(r:Int) q h'=>∃(i:Nat→Nat),q=rI r∧h'=[(1000,some<|.box j 196 [qd l.steps,rI l.used])]) u<|by exact⟨rI<|(-1),[(1000,some<|.box j 196 [qd l.steps,rI l.used])],R,⟨.inr R,Za⟩,R,R,AH [],R,R⟩
 refine Zd<|C _<|aU<|mM R<|sQ R (Bz (ob:=.box _ _ _) R iL fR R)<|lF LZ EF R R<|AE u λw A E=>xI Bw R A<|sQ R (A6 R B9 iL)<|xV (.int .i64 w.Kind) AJ R<|mA R<|aZ ?_
 exact Zk<|CM.mk (s':=⟨[(2,rI w.Kind)],[(1000,some<|.box j 196 [qd l.steps,rI l.used])],B,16⟩) wk<|Ck (λ(r:Int) q h'=>∃(i:Nat→Nat),q=rI r∧h'=[(1000,some<|.box j 196 [qd l.steps,rI l.used])]) E<|by exact⟨rI w.Kind,[(1000,some<|.box j 196 [qd l.steps,rI l.used])],R,⟨.inr R,Za⟩,R,R,AH [],R,R⟩
theorem KS{l:BX}{r:Int}{j:Nat}(h:Gs l=some r):Bf prog 151 1 [.ptr 1000 j 0 0] [(1000,some<|.box j 196 [qd l.steps,rI l.used])] (λu h'=>∃(i:Nat→Nat),u=rI r∧h'=[(1000,some<|.box j 196 [qd l.steps,rI l.used])]):=by
 unfold Gs at h
 refine EI func151 R R ntmps151 (Zz R) λE=>aU<|mA R<|aZ<|aT λF=>?_
 refine ZB BF (by kernel_rfl) ?_
 refine qP R (AK R iL)<|qP R (Bz (ob:=.box _ _ _) R iL fR R)<|qP R (fB R LZ iL fR R)<|qP R (AU (a:=qd l.steps) R EF iL R R)<|AE h λq w I=>qP R (At R Bw.slice iL iL (λ_=>R) λ_=>w)<|qP R (CV (cs:=(Bt q)) R Er iL R R)<|AE I λJ A M=>FZ R R R (r:=rI J) (caps:=[]) (bs:=(RX q)) R iL R ⟨⟨_,iL,.g (cs:=[.int .i64 q.Kind,.int .i64 q.N,.sl<|q.Attrs.map AC.row,.sl<|q.Elems.map AG.row]) R R⟩,Za⟩ (λ_=>Tr<|A) R<|qP R (AK R iL)<|qP R (Bz (ob:=.box _ _ _) R iL fR R)<|qP R (fB R LP iL fR R)<|qP R (AU (a:=rI l.used) R AJ iL R R)<|AE M λC B O=>qP R (B5 R iL iL λ_=>B)<|qP R (DU R iL)<|AQ.nil<|F _ ?_
 exact Zk<|CM.mk (s':=⟨[(2,rI C)],[(1000,some<|.box j 196 [qd l.steps,rI l.used])],E,15⟩) wk<|Ck (λ(r:Int) u h'=>∃(i:Nat→Nat),u=rI r∧h'=[(1000,some<|.box j 196 [qd l.steps,rI l.used])]) O<|by exact⟨rI C,[(1000,some<|.box j 196 [qd l.steps,rI l.used])],R,⟨.inr R,Za⟩,R,R,AH [],R,R⟩
theorem Jo{u:BX}{n1:Int}{r:AI × BX}{j:Nat}(h:Fx u n1=some r):Bf prog 150 1 [.ptr 1000 j 0 0,rI n1] [(1000,some<|.box j 196 [qd u.steps,rI u.used])] (λT h'=>∃(i:Nat→Nat),T=.agg (Bt r.1)∧h'=[(1000,some<|.box j 196 [qd r.2.steps,rI r.2.used])]):=by
 unfold Fx at h
 refine EI func150 R R ntmps150 (Zz R) λq=>aU<|sS R (BB (cs:=EH) 4 R FM R R)<|aZ<|aU<|mM R<|sQ R (Bz (ob:=.box _ _ _) R iL fR R)<|lF LZ EF R R<|AE h λl E h1=>xI Bw R E<|xB ((Bt l)) Er R<|sS R (BB (cs:=EH) 5 R FM R R)<|Zj R R (Ac (ds:=(Bt l)) R FL iL R iL R R R R)<|aZ<|aS λK3 c3 F=>aU<|lF B9 AJ R R<|xQ R<|aZ<|BA h1 λp1 I U=>?_
 have J1:∀(A:AI) (O:NN),p1=A→K3 ⟨[(0,.ptr 1000 j 0 0),(1,rI n1),(4,.ptr 4 q 0 0),(5,.ptr 5 (q+1) 0 0)],[(4,some<|.box q 100 EH),(5,some<|.box (q+1) 100<|Bt A),(1000,some<|.box j 196 [qd u.steps,rI u.used])],(O 0),63⟩:=by
  intro A O e
  have h2:=U _ e
  refine c3 _<|aS λK5 c5 J=>aU<|mM R<|sQ R (Bz (ob:=.box _ _ _) R iL fR R)<|lF LP AJ R R<|mM R<|AE h2 λV X h3=>xA R X<|sQ R (Bz (ob:=.box _ _ _) R iL fR R)<|sQ R (fB R LP iL fR R)<|Zj R R (Ac (ds:=[qd u.steps,rI V]) R Fa iL R iL R R R R)<|aZ<|aT λc7=>aG [0,4,5] [4,5,1000] ?_
  refine ZB BF (by kernel_rfl) ?_
  refine qP R (AK R iL)<|qP R (Bz (ob:=.box _ _ _) R iL fR R)<|qP R (fB R LP iL fR R)<|qP R (AU (a:=rI V) R AJ iL R R)<|qP R (AK R iL)<|qP R (Bz (ob:=.box _ _ _) R iL fR R)<|qP R (fB R LZ iL fR R)<|qP R (AU (a:=qd u.steps) R EF iL R R)<|qP R (At R Bw.slice iL iL (λ_=>R) λ_=>E)<|qP R (CV (cs:=(Bt l)) R Er iL R R)<|AE h3 λr1 Y h4=>FZ R R R (r:=rI r1) (caps:=[]) (bs:=(RX l)) R iL R ⟨⟨_,iL,.g (cs:=[.int .i64 l.Kind,.int .i64 l.N,.sl<|l.Attrs.map AC.row,.sl<|l.Elems.map AG.row]) R R⟩,Za⟩ (λ_=>Tr<|Y) R<|qP R (Aw R iL iL)<|AQ.nil<|c7 _<|BA h4 λp2 M Z=>?_
  have J2:∀(w:BX) (i2:NN),p2=w→K5 ⟨[(4,.ptr 4 q 0 0),(5,.ptr 5 (q+1) 0 0)],[(4,some<|.box q 100 EH),(5,some<|.box (q+1) 100<|Bt A),(1000,some<|.box j 196 [qd w.steps,rI w.used])],(i2 0),63⟩:=by
   intro w i2 e
   have h5:=Z _ e
   refine c5 _<|aU<|xC Er R<|Zj R R (Ac (ds:=(Bt A)) R FL iL R iL R R R R)<|aZ ?_
   exact Zk<|CM.mk (s':=⟨[(4,.ptr 4 q 0 0)],[(4,some<|.box q 100<|Bt A),(1000,some<|.box j 196 [qd w.steps,rI w.used])],(i2 0),63⟩) wk<|Ck (λ(r:AI × BX) T h'=>∃(i:Nat→Nat),T=.agg (Bt r.1)∧h'=[(1000,some<|.box j 196 [qd r.2.steps,rI r.2.used])]) h5<|by exact⟨.agg<|Bt A,[(1000,some<|.box j 196 [qd w.steps,rI w.used])],.inr ⟨_,R,Er,_,_,_,R,R⟩,⟨.inr R,Za⟩,R,R,AH [],R,R⟩
  refine aC R (λB=>?_) λB=>?_
  ·have h6:=Bk B M
   refine aG [0,4,5] [4,5,1000] ?_
   refine aR<|mM R<|mM R<|mM R<|sQ R (Bz (ob:=.box _ _ _) R iL fR R)<|lF LZ EF R R<|AE h6 λl1 a0 h7=>?_
   refine sQ R (Qr R Bw.slice iL (by exact⟨_,iL⟩) (by exact R) (λ_=>R) λ_=>a0) ?_
   exact sQ R (Bz (ob:=.box _ _ _) R iL fR R)<|sQ R (fB R LZ iL fR R)<|Zj R R (Ac (ds:=[qd l1,rI V]) R Rw iL R iL R R R R)<|sQ R (Bz (ob:=.box _ _ _) R iL fR R)<|sQ R (fB R LP iL fR R)<|Zj R R (Ac (ds:=[qd l1,rI 0]) R Fa iL R iL R R R R)<|Zi<|J _ _ wk<|J2 _ (AH [(O 0)]) (Zb h7).symm
  ·have h6:=Bn B M
   exact Zd<|J _ _ wk<|J2 _ (AH [(O 0)]) (Zb h6).symm
 refine aC R (λC=>?_) λC=>?_
 ·have h8:=Bk C I
  refine aG [0,1,4,5] [4,5,1000] ?_
  refine L5 14 BF (by kernel_rfl) R R ?_
  refine Zu R R R (fB R EO iL fR R)<|Zu R R R (AU (a:=qb l.Elems) R B0 iL R R)<|Zu R R R (AK R iL)<|Zu R R R (Bz (ob:=.box _ _ _) R iL fR R)<|Zu R R R (fB R LP iL fR R)<|Zu R R R (AU (a:=rI u.used) R AJ iL R R)<|Zu R R R (AK R iL)<|Zu R R R (Bz (ob:=.box _ _ _) R iL fR R)<|Zu R R R (fB R LP iL fR R)<|Zu R R R (AU (a:=rI u.used) R AJ iL R R)<|Zu R R R (AK R iL)<|AE h8 λx3 a1 h9=>Zu R R R (Gj R iL iL λ_=>a1)<|AE h9 λl2 a2 a6=>?_
  refine Zu R R R (Qr R Ar.slice iL (by exact⟨_,iL⟩) (by exact⟨_,iL⟩) (λ_=>R) λ_=>a2) ?_
  exact Zu R R R (fB R EO iL fR R)<|AT.nil<|Zj R R (Ac (ds:=[rI l.Kind,rI l.N,qa l.Attrs,qb l2]) R RB iL R iL R R R R)<|Zi<|F _ _ wk<|J1 _ (AH [(q+2)]) (Zb a6).symm
 ·have h8:=Bn C I
  refine aG [0,1,4,5] [4,5,1000] ?_
  exact aR<|mM R<|sQ R (fB R EJ iL fR R)<|Zj R R (Ac (ds:=[rI l.Kind,rI n1,qa l.Attrs,qb l.Elems]) R Fa iL R iL R R R R)<|Zi<|F _ _ wk<|J1 _ (AH [(q+2)]) (Zb h8).symm
theorem Wi{w:List AC}{A:AC}{B:AC}{r:(List AC)}{j:Nat}{l:Nat}(h:Ke w A B=some r):Bf prog 188 2 [.agg<|BL A,.agg<|BL B,.ptr 1000 j 0 0] [(1000,some<|.box j 39 [.own 1001 l]),(1001,some<|.arr l 58 2<|w.map AC.row)] (λu h'=>∃(i:Nat→Nat),u=.tup []∧h'=[(1000,some<|.box j 39 [.own 1001<|i 0]),(1001,some<|.arr (i 0) 58 2<|r.map AC.row)]):=by
 unfold Ke at h
 refine EI func188 R R ntmps188 (Zz R) λq=>aU<|sS R (Az (cs:=(BL A)) 3 R iL R R)<|sS R (Az (cs:=(BL B)) 4 R iL R R)<|aZ<|aU<|lF Cb BG R R<|sQ R (CA R iL iL)<|aZ<|cI R h (λC=>?_) λC=>?_
 ·refine aR<|sQ R (AU (a:=.own 1001 l) R BE iL R R)<|xC CO R<|sS R (Bm 10 R Af (f:=AC.row) (l:=([A]:List AC)) ⟨R,⟨_,iL,R⟩,Za⟩ R (λ_=>R) R)<|AE C λF E I=>sS R (Ci R Af iL R (.inr<|.inl ⟨_,_,iL,R⟩) E)<|Zj R R (Ac (ds:=[.own 1001<|q+3]) R GZ iL R iL R R R R)<|Zi ?_
  exact CM.mk (s':=⟨[],[(1000,some<|.box j 39 [.own 1001<|q+3]),(1001,some<|.arr (q+3) 58 2<|F.map AC.row)],(q+4),12⟩) wk<|Ck (λ(r:(List AC)) u h'=>∃(i:Nat→Nat),u=.tup []∧h'=[(1000,some<|.box j 39 [.own 1001<|i 0]),(1001,some<|.arr (i 0) 58 2<|r.map AC.row)]) I<|by exact⟨.tup [],[(1000,some<|.box j 39 [.own 1001<|q+3]),(1001,some<|.arr (q+3) 58 2<|F.map AC.row)],⟨_,R,Za⟩,⟨.inr R,.inr R,Za⟩,R,R,AH [(q+3)],R,R⟩
 refine Zd ?_
 exact CM.mk (s':=⟨[],[(1000,some<|.box j 39 [.own 1001 l]),(1001,some<|.arr l 58 2<|w.map AC.row)],(q+2),12⟩) wk<|Ck (λ(r:(List AC)) u h'=>∃(i:Nat→Nat),u=.tup []∧h'=[(1000,some<|.box j 39 [.own 1001<|i 0]),(1001,some<|.arr (i 0) 58 2<|r.map AC.row)]) C<|by exact⟨.tup [],[(1000,some<|.box j 39 [.own 1001 l]),(1001,some<|.arr l 58 2<|w.map AC.row)],⟨_,R,Za⟩,⟨.inr R,.inr R,Za⟩,R,R,AH [l],R,R⟩
theorem tM{c1:List AC}{B:List AC}{C:List AC}{r:(List AC)}{j:Nat}{l:Nat}(h:Oo c1 B C=some r):Bf prog 144 2 [qa B,qa C,.fn 188 [.ptr 1000 j 0 0]] [(1000,some<|.box j 39 [.own 1001 l]),(1001,some<|.arr l 58 2<|c1.map AC.row)] (λE h'=>∃(i:Nat→Nat),E=.tup []∧h'=[(1000,some<|.box j 39 [.own 1001<|i 0]),(1001,some<|.arr (i 0) 58 2<|r.map AC.row)]):=by
 unfold Oo at h
 refine EI func144 R R ntmps144 (Zz R) λn0=>aU<|mA R<|mA R<|aZ<|Zf<|BJ h λo4 w av F=>IU (λ(I:Int) (J:Int) (o2:List AC) q=>⟨[(0,qa B),(1,qa C),(2,.fn 188 [.ptr 1000 j 0 0]),(6,rI I),(7,rI J)],[(1000,some<|.box j 39 [.own 1001<|q 0]),(1001,some<|.arr (q 0) 58 2<|o2.map AC.row)],(q 1),92⟩) (AH [l,n0]) w wk ?_
 intro I J o2 q v1 M O
 have h1:QM B C I J o2=some v1:=M;unfold QM at h1
 refine aT λC2=>aU<|mM R<|mM R<|xL Af R<|xS R<|mM R<|vM R<|vM R<|vQ R (Bq R Af.slice<|iR R)<|vQ R (B7 R (iR R)<|iR R)<|xO R<|aZ<|cI R h1 (λT=>?_) λT=>?_
 ·refine Zd<|C2 _<|Zf<|Zf<|aT λC4=>?_
  refine ZB BF (by kernel_rfl) ?_
  refine qP R (AK R iL)<|qP R (AK R iL)<|qP R (Bq R Af.slice iL)<|qP R (Aw R iL iL)<|qP R (AK R iL)<|qO R (AK R iL)<|qO R (AK R iL)<|qO R (Bq R Af.slice<|iR R)<|qO R (B7 R (iR R)<|iR R)<|qO R (AK R<|iR R)<|qT R (AK R iL)<|qT R (AK R iL)<|AE T λx1 U h3=>qT R (At R Af.slice (iR R) (iR R) (λ_=>R)<|AP U)<|qT R (A6 R Cb<|iR R)<|qT R (BV (d:=.str x1.Name) R BG (iR R) R)<|qT R (AK R iL)<|qT R (AK R iL)<|AE h3 λx2 V h4=>qT R (At R Af.slice (iR R) (iR R) (λ_=>R)<|AP V)<|qT R (A6 R Cb<|iR R)<|qT R (BV (d:=.str x2.Name) R BG (iR R) R)<|qT R (Lr R (iR R)<|iR R)<|qO R (BQ R (iR R)<|iR R)<|qP R (CB R iL<|iR R)<|qP R (DU R iL)<|AQ.nil<|C4 _<|cI R h4 (λX=>?_) λX=>?_
  ·refine aT λC5=>aG [0,1,2,6,7] [1000,1001] ?_
   refine aR<|mM R<|mM R<|mM R<|AE X λx3 Y h6=>xI Af R Y<|xB ((BL x3)) CO R ?_
   refine sQ R (BM R Fo (q:=[]) (by exact Za) (cs:=[.r<|.str [],.r<|.str []])<|by rfl) ?_
   refine AE h6 λw1 Z h7=>?_
   refine Zq [1000,1001] (hc:=[(1000,some<|.box j 39 [.own 1001<|q 0]),(1001,some<|.arr (q 0) 58 2<|o2.map AC.row)]) (bs:=(VS x3)) (caps:=[.ptr 1000 j 0 0]) R R R R iL R ⟨.inl ⟨iL,R⟩,.inl ⟨iL,R⟩,Za⟩ ⟨R,R,R,R,R,R,Za⟩ (by decide) (Wi Z) ?_
   intro i8 n1
   refine BC [0,1,2,6,7,56,57,58,59,60,61,62] [1000,1001] ?_
   exact aZ<|C5 _<|aR<|mM R<|AE h7 λi9 a0 h8=>xA R a0<|mA R<|Zi<|Dv.mk h8 (AH [(i8 0),n1]) wk
  refine aT λC6=>aG [0,1,2,6,7] [1000,1001] ?_
  refine ZB BF (by kernel_rfl) ?_
  refine qP R (AK R iL)<|qP R (AK R iL)<|qP R (Bq R Af.slice iL)<|qP R (Aw R iL iL)<|qP R (AK R iL)<|qO R (AK R iL)<|qO R (AK R iL)<|AE X λx4 a2 h9=>qO R (At R Af.slice (iR R) (iR R) (λ_=>R)<|AP a2)<|qO R (A6 R Cb<|iR R)<|qO R (BV (d:=.str x4.Name) R BG (iR R) R)<|qO R (AK R iL)<|qO R (AK R iL)<|AE h9 λx5 a6 a7=>qO R (At R Af.slice (iR R) (iR R) (λ_=>R)<|AP a6)<|qO R (A6 R Cb<|iR R)<|qO R (BV (d:=.str x5.Name) R BG (iR R) R)<|qO R (Lr R (iR R)<|iR R)<|qP R (CB R iL<|iR R)<|qP R (DU R iL)<|AQ.nil<|C6 _<|cI R a7 (λu=>?_) λu=>?_
  ·refine aT λC7=>aR<|mM R ?_
   refine sQ R (BM R Fo (q:=[]) (by exact Za) (cs:=[.r<|.str [],.r<|.str []])<|by rfl) ?_
   refine mM R<|mM R<|AE u λx6 a8 aa=>xI Af R a8<|xB ((BL x6)) CO R<|AE aa λw2 ab ac=>?_
   refine Zq [1000,1001] (hc:=[(1000,some<|.box j 39 [.own 1001<|q 0]),(1001,some<|.arr (q 0) 58 2<|o2.map AC.row)]) (bs:=(Uk x6)) (caps:=[.ptr 1000 j 0 0]) R R R R iL R ⟨.inl ⟨iL,R⟩,.inl ⟨iL,R⟩,Za⟩ ⟨R,R,R,R,R,R,Za⟩ (by decide) (Wi ab) ?_
   intro ad n2
   refine BC [0,1,2,6,7,65,66,67,68,69,70,82,83,84,85,86,87,88,89] [1000,1001] ?_
   refine aZ<|C7 _<|aG [0,1,2,6,7] [1000,1001] ?_
   exact aR<|mM R<|AE ac λj4 ae af=>xA R ae<|mA R<|Zi<|Dv.mk af (AH [(ad 0),n2]) wk
  refine aT λC8=>?_
  refine L5 9 BF (by kernel_rfl) R R ?_
  refine Zu R R R (AK R iL)<|Zu R R R (AK R iL)<|Zu R R R (AK R iL)<|AE u λx7 ag ah=>Zu R R R (At R Af.slice iL iL (λ_=>R) λ_=>ag)<|Zu R R R (CV (cs:=(BL x7)) R CO iL R R)<|Zu R R R (AK R iL)<|Zu R R R (AK R iL)<|AE ah λx8 ai aj=>Zu R R R (At R Af.slice iL iL (λ_=>R) λ_=>ai)<|Zu R R R (CV (cs:=(BL x8)) R CO iL R R)<|AT.nil<|AE aj λw3 ak al=>?_
  refine Zq [1000,1001] (hc:=[(1000,some<|.box j 39 [.own 1001<|q 0]),(1001,some<|.arr (q 0) 58 2<|o2.map AC.row)]) (bs:=[.agg<|BL x7,.agg<|BL x8]) (caps:=[.ptr 1000 j 0 0]) R R R R iL R ⟨.inl ⟨iL,R⟩,.inl ⟨iL,R⟩,Za⟩ ⟨R,R,R,R,R,R,Za⟩ (by decide) (Wi ak) ?_
  intro an n3
  refine BC [0,1,2,6,7,18,19,20,21,22,23,24,25,26,27,65,66,67,68,69,70,82] [1000,1001] ?_
  refine aZ<|C8 _<|aG [0,1,2,6,7] [1000,1001] ?_
  exact aR<|mM R<|AE al λaw A ao=>xA R A<|mM R<|AE ao λj5 aq ar=>xA R aq<|mA R<|mA R<|Zi<|Dv.mk ar (AH [(an 0),n3]) wk
 refine Zn ?_
 exact CM.mk (s':=⟨[],[(1000,some<|.box j 39 [.own 1001<|q 0]),(1001,some<|.arr (q 0) 58 2<|o2.map AC.row)],(q 1),92⟩) wk<|Ck (λ(r:(List AC)) E h'=>∃(i:Nat→Nat),E=.tup []∧h'=[(1000,some<|.box j 39 [.own 1001<|i 0]),(1001,some<|.arr (i 0) 58 2<|r.map AC.row)]) (F _<|xH O T)<|by exact⟨.tup [],[(1000,some<|.box j 39 [.own 1001<|q 0]),(1001,some<|.arr (q 0) 58 2<|o2.map AC.row)],⟨_,R,Za⟩,⟨.inr R,.inr R,Za⟩,R,R,AH [(q 0)],R,R⟩
theorem kv{l q r}(h:PW l q=some r):AO prog 154 [qa l,qa q] (qa r):=by
 unfold PW at h
 refine mF func154 ntmps154 R λj=>aU<|mA R<|aZ<|aU<|sS R (BB (cs:=[cZ]) 5 R WB R R)<|aZ<|aT λw=>aR<|mM R<|mM R ?_
 refine sQ R (RD (bs:=[.ptr 5 j 0 0]) R<|by exact⟨iL,Za⟩) ?_
 refine AM.weak (Zm (ZN 5 0 3050 58 2 (by decide) R R<|by decide)<|by exact ZD (e':=[(0,qa l),(1,qa q),(4,cZ),(5,.ptr 5 j 0 0),(6,qa l),(7,qa q),(8,.fn 188 [.ptr 5 j 0 0])]) (h':=[(5,some<|.box j 39 [.own 3050<|j+1]),(3050,some<|.arr (j+1) 58 2<|([]:List AC).map AC.row)]) ⟨jL,jL,jL,jL,jL,jL,jL,Za⟩ ⟨.inl R,.inl R,Za⟩ nL) ?_
 refine AE h λC u A=>?_
 refine Zq [5,3050] (hc:=[(1000,some<|.box j 39 [.own 1001<|j+1]),(1001,some<|.arr (j+1) 58 2<|([]:List AC).map AC.row)]) (bs:=[qa l,qa q,.fn 188 [.ptr 1000 j 0 0]]) (caps:=[]) R R R R iL R ⟨.inl ⟨iL,R⟩,.inl ⟨iL,R⟩,.inl ⟨iL,R⟩,Za⟩ ⟨R,R,R,R,R,R,Za⟩ (by decide) (tM u) ?_
 intro B E
 refine BC [0,1,4,5,6,7,8,9] [5,3050] ?_
 exact aZ<|w _<|aU<|sQ R (AU (a:=.own 3050<|B 0) R BE iL R R)<|mA R<|aZ<|Zk<|DE (P:=prog) (λ(r:(List AC))=>qa r) A iL<|.t<|.one<|.own R
theorem o6{q u r}(h:Ns q u=some r):AO prog 107 [qd q,qd u] (.tup [qd r.1,qd r.2.1,rI r.2.2]):=by
 unfold Ns at h
 refine mF func107 ntmps107 R λj=>aU<|mA R<|mA R<|mA R<|aZ<|aT λc2=>aU<|mM R<|AE h λe1 b8 h1=>cL (Px<|b8) R<|mA R<|aZ<|aU<|mM R<|xU R<|aZ<|cI R h1 (λh2=>?_) λh2=>?_
 ·refine aT λc5=>aF [7] ?_
  exact aR<|mM R<|mA R<|mA R<|mA R<|aZ<|c5 _<|Zk<|FY (P:=prog) (λ(r:(List AI) × (List AI) × Int)=>qd r.1) (λ(r:(List AI) × (List AI) × Int)=>qd r.2.1) (λ(r:(List AI) × (List AI) × Int)=>rI r.2.2) h2 iL (.t<|.one<|.nil) (.t<|.one<|.nil)<|.t<|.d R
 refine Zd<|c2 _<|aT λc6=>aU<|mM R<|AE h2 λe2 b9 h3=>cL (Px<|b9) R<|mA R<|aZ<|aT λc8=>aF [0,1,8] ?_
 refine aR<|mM R<|xU R<|aZ<|c8 _<|cI R h3 (λh4=>?_) λh4=>?_
 ·exact aU<|mM R<|mA R<|mA R<|mA R<|aZ<|Zk<|FY (P:=prog) (λ(r:(List AI) × (List AI) × Int)=>qd r.1) (λ(r:(List AI) × (List AI) × Int)=>qd r.2.1) (λ(r:(List AI) × (List AI) × Int)=>rI r.2.2) h4 iL (.t<|.one<|.nil) (.t<|.one<|.nil)<|.t<|.d R
 refine Zd<|c6 _<|aU<|mM R<|D2 h4 λr1 r2 ba h5=>cL (TX<|ba) R<|mM R<|xX R<|xX R<|mA R<|mA R<|aZ<|aT λbb=>aT λbc=>aF [0,1,9] ?_
 refine aR<|mM R<|D2 h5 λr3 r4 bd h6=>cL (TX<|bd) R<|mM R<|xX R<|xX R<|mA R<|mA R<|aZ<|bc _<|aU<|mM R<|mM R<|xU R<|aZ<|cI R h6 (λh7=>?_) λh7=>?_
 ·refine aT λbe=>aF [] ?_
  exact aR<|mA R<|mA R<|mA R<|aZ<|be _<|Zk<|FY (P:=prog) (λ(r:(List AI) × (List AI) × Int)=>qd r.1) (λ(r:(List AI) × (List AI) × Int)=>qd r.2.1) (λ(r:(List AI) × (List AI) × Int)=>rI r.2.2) h7 iL (.t<|.one<|.nil) (.t<|.one<|.nil)<|.t<|.d R
 refine Zd<|bb _<|aT λbf=>aF [0,1] ?_
 refine aR<|sS R (BB (cs:=N9) 13 R SB R R)<|sS R (BB (cs:=N9) 14 R SB R R)<|aZ<|bf _<|aT λbg=>aR<|mM R ?_
 refine sQ R (BM R TA (q:=[(0,_)]) (by exact⟨R,R,R,iL,Za⟩) (cs:=[qd q,rI 0])<|by rfl) ?_
 refine sS R (Az (cs:=[qd q,rI 0]) 51 R iL R R)<|mM R ?_
 refine sQ R (BM R TA (q:=[(0,_)]) (by exact⟨R,R,R,iL,Za⟩) (cs:=[qd u,rI 0])<|by rfl) ?_
 refine sS R (Az (cs:=[qd u,rI 0]) 54 R iL R R)<|mA R<|mA R<|aZ<|bg _<|aS λbh bi ac=>Zf<|Ks h7 λo1 ad bj=>?_
 have J1:∀(M:Ah) (O:Ah) (w:NN),o1=(M,O)→bh ⟨[(13,.ptr 13 j 0 0),(14,.ptr 14 (j+1) 0 0)],[(13,some<|.box j 193 [.own 3130<|w 0,.own 3131<|w 1,rI M.cut]),(14,some<|.box (j+1) 193 [.own 3140<|w 2,.own 3141<|w 3,rI O.cut]),(3130,some<|.arr (w 0) 100 4<|M.out.map AI.row),(3131,some<|.arr (w 1) 51 3<|M.add.map AG.row),(3140,some<|.arr (w 2) 100 4<|O.out.map AI.row),(3141,some<|.arr (w 3) 51 3<|O.add.map AG.row)],(w 4),158⟩:=by
  intro M O w e
  have h8:=bj _ _ e
  refine bi _<|aT λbk=>aR<|Gl h8 λr5 r6 w1 bl h9=>?_
  refine Zq [13,3130,3131] (hc:=[(1000,some<|.box j 193 [.own 1001<|w 0,.own 1002<|w 1,rI M.cut]),(1001,some<|.arr (w 0) 100 4<|M.out.map AI.row),(1002,some<|.arr (w 1) 51 3<|M.add.map AG.row)]) (bs:=[.ptr 1000 j 0 0]) (caps:=[]) R R R R iL R ⟨.inl ⟨iL,R⟩,Za⟩ ⟨R,R,R,R,R,R,R,R,R,Za⟩ (by decide) (R6 bl) ?_
  intro i6 n1
  refine BC [13,14,143] [13,14,3140,3141] ?_
  refine mM R<|xX R<|xX R<|mA R<|mA R<|aZ<|bk _<|aT λbm=>aR<|Gl h9 λr7 r8 w2 bn bo=>?_
  refine Zq [14,3140,3141] (hc:=[(1000,some<|.box (j+1) 193 [.own 1001<|w 2,.own 1002<|w 3,rI O.cut]),(1001,some<|.arr (w 2) 100 4<|O.out.map AI.row),(1002,some<|.arr (w 3) 51 3<|O.add.map AG.row)]) (bs:=[.ptr 1000 (j+1) 0 0]) (caps:=[]) R R R R iL R ⟨.inl ⟨iL,R⟩,Za⟩ ⟨R,R,R,R,R,R,R,R,R,Za⟩ (by decide) (R6 bn) ?_
  intro i7 n2
  refine BC [13,14,22,23,142,143,144,145,147] [13,14] ?_
  refine mM R<|xX R<|xX R<|mA R<|mA R<|aZ<|bm _<|aT λbp=>aT λbq=>aF [22,23,24,25] ?_
  refine aR<|mM R<|xU R<|mM R<|vM R<|vQ R (Cc R (iR R) iL)<|xO R<|aZ<|bq _<|cI R bo (λU=>?_) λU=>?_
  ·refine aT λbr=>aF [] ?_
   exact aR<|mA R<|mA R<|mA R<|aZ<|br _<|Zk<|FY (P:=prog) (λ(r:(List AI) × (List AI) × Int)=>qd r.1) (λ(r:(List AI) × (List AI) × Int)=>qd r.2.1) (λ(r:(List AI) × (List AI) × Int)=>rI r.2.2) U iL (.t<|.one<|.nil) (.t<|.one<|.nil)<|.t<|.d R
  exact Zd<|bp _<|aU<|mM R<|mM R<|mA R<|mA R<|mA R<|aZ<|Zk<|FY (P:=prog) (λ(r:(List AI) × (List AI) × Int)=>qd r.1) (λ(r:(List AI) × (List AI) × Int)=>qd r.2.1) (λ(r:(List AI) × (List AI) × Int)=>rI r.2.2) U iL (.t<|.d R) (.t<|.d R)<|.t<|.d R
 refine vT (λ(C:Ah) (E:Ah) (A:BX) (B:BX) l=>⟨[(13,.ptr 13 j 0 0),(14,.ptr 14 (j+1) 0 0),(15,.ptr 51 (j+2) 0 0),(16,.ptr 54 (j+3) 0 0)],[(13,some<|.box j 193 [.own 3130<|l 0,.own 3131<|l 1,rI C.cut]),(14,some<|.box (j+1) 193 [.own 3140<|l 2,.own 3141<|l 3,rI E.cut]),(51,some<|.box (j+2) 196 [qd A.steps,rI A.used]),(54,some<|.box (j+3) 196 [qd B.steps,rI B.used]),(3130,some<|.arr (l 0) 100 4<|C.out.map AI.row),(3131,some<|.arr (l 1) 51 3<|C.add.map AG.row),(3140,some<|.arr (l 2) 100 4<|E.out.map AI.row),(3141,some<|.arr (l 3) 51 3<|E.add.map AG.row)],(l 4),158⟩) (AH [(j+4),(j+5),(j+6),(j+7),(j+8)]) ad (Zm (Zm (ZN 13 0 3130 100 4 (by decide) R R<|by decide)<|by exact ZD (e':=[(0,qd q),(1,qd u),(13,.ptr 13 j 0 0),(14,.ptr 14 (j+1) 0 0),(15,.ptr 51 (j+2) 0 0),(16,.ptr 54 (j+3) 0 0),(49,qd q),(50,.agg [qd q,rI 0]),(51,.ptr 51 (j+2) 0 0),(52,qd u),(53,.agg [qd u,rI 0]),(54,.ptr 54 (j+3) 0 0)]) (h':=[(13,some<|.box j 193 [.own 3130<|j+4,cZ,rI 0]),(14,some<|.box (j+1) 193 N9),(51,some<|.box (j+2) 196 [qd q,rI 0]),(54,some<|.box (j+3) 196 [qd u,rI 0]),(3130,some<|.arr (j+4) 100 4<|([]:List AI).map AI.row)]) ⟨jL,jL,jL,jL,jL,jL,jL,jL,jL,jL,jL,jL,Za⟩ ⟨.inl R,.inl R,.inl R,.inl R,.inl R,Za⟩ nL)<|Zm (Zm (ZN 13 1 3131 51 3 (by decide) R R<|by decide)<|by exact ZD (e':=[(0,qd q),(1,qd u),(13,.ptr 13 j 0 0),(14,.ptr 14 (j+1) 0 0),(15,.ptr 51 (j+2) 0 0),(16,.ptr 54 (j+3) 0 0),(49,qd q),(50,.agg [qd q,rI 0]),(51,.ptr 51 (j+2) 0 0),(52,qd u),(53,.agg [qd u,rI 0]),(54,.ptr 54 (j+3) 0 0)]) (h':=[(13,some<|.box j 193 [.own 3130<|j+4,.own 3131<|j+5,rI 0]),(14,some<|.box (j+1) 193 N9),(51,some<|.box (j+2) 196 [qd q,rI 0]),(54,some<|.box (j+3) 196 [qd u,rI 0]),(3130,some<|.arr (j+4) 100 4<|([]:List AI).map AI.row),(3131,some<|.arr (j+5) 51 3<|([]:List AG).map AG.row)]) ⟨jL,jL,jL,jL,jL,jL,jL,jL,jL,jL,jL,jL,Za⟩ ⟨.inl R,.inl R,.inl R,.inl R,.inl R,.inl R,Za⟩ nL)<|Zm (Zm (ZN 14 0 3140 100 4 (by decide) R R<|by decide)<|by exact ZD (e':=[(0,qd q),(1,qd u),(13,.ptr 13 j 0 0),(14,.ptr 14 (j+1) 0 0),(15,.ptr 51 (j+2) 0 0),(16,.ptr 54 (j+3) 0 0),(49,qd q),(50,.agg [qd q,rI 0]),(51,.ptr 51 (j+2) 0 0),(52,qd u),(53,.agg [qd u,rI 0]),(54,.ptr 54 (j+3) 0 0)]) (h':=[(13,some<|.box j 193 [.own 3130<|j+4,.own 3131<|j+5,rI 0]),(14,some<|.box (j+1) 193 [.own 3140<|j+6,cZ,rI 0]),(51,some<|.box (j+2) 196 [qd q,rI 0]),(54,some<|.box (j+3) 196 [qd u,rI 0]),(3130,some<|.arr (j+4) 100 4<|([]:List AI).map AI.row),(3131,some<|.arr (j+5) 51 3<|([]:List AG).map AG.row),(3140,some<|.arr (j+6) 100 4<|([]:List AI).map AI.row)]) ⟨jL,jL,jL,jL,jL,jL,jL,jL,jL,jL,jL,jL,Za⟩ ⟨.inl R,.inl R,.inl R,.inl R,.inl R,.inl R,.inl R,Za⟩ nL)<|Zm (Zm (ZN 14 1 3141 51 3 (by decide) R R<|by decide)<|by exact ZD (e':=[(0,qd q),(1,qd u),(13,.ptr 13 j 0 0),(14,.ptr 14 (j+1) 0 0),(15,.ptr 51 (j+2) 0 0),(16,.ptr 54 (j+3) 0 0),(49,qd q),(50,.agg [qd q,rI 0]),(51,.ptr 51 (j+2) 0 0),(52,qd u),(53,.agg [qd u,rI 0]),(54,.ptr 54 (j+3) 0 0)]) (h':=[(13,some<|.box j 193 [.own 3130<|j+4,.own 3131<|j+5,rI 0]),(14,some<|.box (j+1) 193 [.own 3140<|j+6,.own 3141<|j+7,rI 0]),(51,some<|.box (j+2) 196 [qd q,rI 0]),(54,some<|.box (j+3) 196 [qd u,rI 0]),(3130,some<|.arr (j+4) 100 4<|([]:List AI).map AI.row),(3131,some<|.arr (j+5) 51 3<|([]:List AG).map AG.row),(3140,some<|.arr (j+6) 100 4<|([]:List AI).map AI.row),(3141,some<|.arr (j+7) 51 3<|([]:List AG).map AG.row)]) ⟨jL,jL,jL,jL,jL,jL,jL,jL,jL,jL,jL,jL,Za⟩ ⟨.inl R,.inl R,.inl R,.inl R,.inl R,.inl R,.inl R,.inl R,Za⟩ nL) wk) ?_
 intro C E A B l v1 bs bt
 have ae:Ma C E A B=some v1:=bs;unfold Ma at ae
 refine aT λbu=>aS λbv bw T=>aR<|mM R<|AE ae λr9 af bx=>?_
 refine Zq [51] (hc:=[(1000,some<|.box (j+2) 196 [qd A.steps,rI A.used])]) (bs:=[.ptr 1000 (j+2) 0 0]) (caps:=[]) R R R R iL R ⟨.inl ⟨iL,R⟩,Za⟩ ⟨R,R,R,Za⟩ (by decide) (Jv af) ?_
 intro i8 n3
 refine BC [13,14,15,16,55,56] [13,14,51,54,3130,3131,3140,3141] ?_
 refine sQ R (Cv R iL iL)<|mM R<|vM R<|BA bx λp4 ag bz=>?_
 have J2:∀(x5:Bool) (i9:NN),p4=x5→bv ⟨[(13,.ptr 13 j 0 0),(14,.ptr 14 (j+1) 0 0),(15,.ptr 51 (j+2) 0 0),(16,.ptr 54 (j+3) 0 0),(62,rB x5)],[(13,some<|.box j 193 [.own 3130<|l 0,.own 3131<|l 1,rI C.cut]),(14,some<|.box (j+1) 193 [.own 3140<|l 2,.own 3141<|l 3,rI E.cut]),(51,some<|.box (j+2) 196 [qd A.steps,rI A.used]),(54,some<|.box (j+3) 196 [qd B.steps,rI B.used]),(3130,some<|.arr (l 0) 100 4<|C.out.map AI.row),(3131,some<|.arr (l 1) 51 3<|C.add.map AG.row),(3140,some<|.arr (l 2) 100 4<|E.out.map AI.row),(3141,some<|.arr (l 3) 51 3<|E.add.map AG.row)],(i9 0),158⟩:=by
  intro x5 i9 e
  have c0:=bz _ e
  refine bw _<|cI R c0 (λV=>?_) λV=>?_
  ·refine Zd<|bu _<|Zf<|aT λc1=>Zf<|aT λc3=>aR<|mM R ?_
   refine Zq [51] (hc:=[(1000,some<|.box (j+2) 196 [qd A.steps,rI A.used])]) (bs:=[.ptr 1000 (j+2) 0 0]) (caps:=[]) R R R R iL R ⟨.inl ⟨iL,R⟩,Za⟩ ⟨R,R,R,Za⟩ (by decide) (Jv af) ?_
   intro dg n4
   refine BC [13,14,15,16,62,64,65] [13,14,51,54,3130,3131,3140,3141] ?_
   refine xQ R<|mA R<|aZ<|c3 _<|cI R V (λX=>?_) λX=>?_
   ·refine aT λc4=>aR<|mM R<|mM R<|AE X λc7 ah c9=>?_
    refine Zq [51] (hc:=[(1000,some<|.box (j+2) 196 [qd A.steps,rI A.used])]) (bs:=[.ptr 1000 (j+2) 0 0]) (caps:=[]) R R R R iL R ⟨.inl ⟨iL,R⟩,Za⟩ ⟨R,R,R,Za⟩ (by decide) (KS ah) ?_
    intro dh n5
    refine BC [13,14,15,16,62,63,64,65,66,67,68,69] [13,14,51,54,3130,3131,3140,3141] ?_
    refine D2 c9 λY w3 ai ca=>?_
    refine Zq [51] (hc:=[(1000,some<|.box (j+2) 196 [qd A.steps,rI A.used])]) (bs:=[.ptr 1000 (j+2) 0 0,rI c7]) (caps:=[]) R R R R iL R ⟨.inl ⟨iL,R⟩,.inl ⟨iL,R⟩,Za⟩ ⟨R,R,R,Za⟩ (by decide) (Jo ai) ?_
    intro di n6
    refine BC [13,14,15,16,62,63,64,65,66,67,68,69,70] [13,14,51,54,3130,3131,3140,3141] ?_
    refine sS R (BB (cs:=EH) 17 R FM R R)<|Zj R R (Ac (ds:=(Bt Y)) R FL iL R iL R R R R)<|aZ<|c4 _<|aT λcb=>aG [13,14,15,16,17] [13,14,17,51,54,3130,3131,3140,3141] ?_
    refine aR<|lF EO B0 R R<|AE ca λw4 cc cd=>?_
    refine Zq [13,3130,3131] (hc:=[(1000,some<|.box j 193 [.own 1001<|l 0,.own 1002<|l 1,rI C.cut]),(1001,some<|.arr (l 0) 100 4<|C.out.map AI.row),(1002,some<|.arr (l 1) 51 3<|C.add.map AG.row)]) (bs:=[.ptr 1000 j 0 0,qb Y.Elems]) (caps:=[]) R R R R iL R ⟨.inl ⟨iL,R⟩,.inl ⟨iL,R⟩,Za⟩ ⟨R,R,R,R,R,R,R,R,R,Za⟩ (by decide) (PD cc) ?_
    intro aj n7
    refine BC [13,14,15,16,17,71,72,73] [13,14,17,51,54,3130,3131,3140,3141] ?_
    refine aZ<|cb _<|aT λcf=>aR<|lF EO B0 R R<|xL Ar R<|AE cd λw5 cg ch=>?_
    refine Zq [14,3140,3141] (hc:=[(1000,some<|.box (j+1) 193 [.own 1001<|l 2,.own 1002<|l 3,rI E.cut]),(1001,some<|.arr (l 2) 100 4<|E.out.map AI.row),(1002,some<|.arr (l 3) 51 3<|E.add.map AG.row)]) (bs:=[.ptr 1000 (j+1) 0 0,rL Y.Elems,.r<|.sl []]) (caps:=[]) R R R R iL R ⟨.inl ⟨iL,R⟩,.inl ⟨iL,R⟩,.inr ⟨iL,R⟩,Za⟩ ⟨R,R,R,R,R,R,R,R,R,Za⟩ (by decide) (NI cg) ?_
    intro ak n8
    refine BC [13,14,15,16,17,71,72,73,74,75,76,77] [13,14,17,51,54,3130,3131,3140,3141] ?_
    exact aZ<|cf _<|Zn<|Ie.mk ch (AH [(aj 0),(aj 1),(ak 0),(ak 1),n8]) wk
   refine aT λcj=>aR<|mM R<|AE X λdj al ck=>?_
   refine Zq [54] (hc:=[(1000,some<|.box (j+3) 196 [qd B.steps,rI B.used])]) (bs:=[.ptr 1000 (j+3) 0 0]) (caps:=[]) R R R R iL R ⟨.inl ⟨iL,R⟩,Za⟩ ⟨R,R,R,Za⟩ (by decide) (Jv al) ?_
   intro dk n9
   refine BC [13,14,15,16,62,63,64,65,66,79,80] [13,14,51,54,3130,3131,3140,3141] ?_
   refine xQ R<|mA R<|aZ<|cj _<|cI R ck (λZ=>?_) λZ=>?_
   ·refine aT λcl=>aG [13,14,15,16] [13,14,51,54,3130,3131,3140,3141] ?_
    refine aR<|mM R<|mM R<|AE Z λcm an cn=>?_
    refine Zq [54] (hc:=[(1000,some<|.box (j+3) 196 [qd B.steps,rI B.used])]) (bs:=[.ptr 1000 (j+3) 0 0]) (caps:=[]) R R R R iL R ⟨.inl ⟨iL,R⟩,Za⟩ ⟨R,R,R,Za⟩ (by decide) (KS an) ?_
    intro i16 dm
    refine BC [13,14,15,16,82,83,84] [13,14,51,54,3130,3131,3140,3141] ?_
    refine D2 cn λa0 w6 ao cp=>?_
    refine Zq [54] (hc:=[(1000,some<|.box (j+3) 196 [qd B.steps,rI B.used])]) (bs:=[.ptr 1000 (j+3) 0 0,rI cm]) (caps:=[]) R R R R iL R ⟨.inl ⟨iL,R⟩,.inl ⟨iL,R⟩,Za⟩ ⟨R,R,R,Za⟩ (by decide) (Jo ao) ?_
    intro dn dp
    refine BC [13,14,15,16,82,83,84,85] [13,14,51,54,3130,3131,3140,3141] ?_
    refine sS R (BB (cs:=EH) 18 R FM R R)<|Zj R R (Ac (ds:=(Bt a0)) R FL iL R iL R R R R)<|aZ<|cl _<|aT λcq=>aR<|lF EO B0 R R<|xL Ar R<|AE cp λw7 cr cs=>?_
    refine Zq [13,3130,3131] (hc:=[(1000,some<|.box j 193 [.own 1001<|l 0,.own 1002<|l 1,rI C.cut]),(1001,some<|.arr (l 0) 100 4<|C.out.map AI.row),(1002,some<|.arr (l 1) 51 3<|C.add.map AG.row)]) (bs:=[.ptr 1000 j 0 0,rL a0.Elems,.r<|.sl []]) (caps:=[]) R R R R iL R ⟨.inl ⟨iL,R⟩,.inl ⟨iL,R⟩,.inr ⟨iL,R⟩,Za⟩ ⟨R,R,R,R,R,R,R,R,R,Za⟩ (by decide) (NI cr) ?_
    intro aq dq
    refine BC [13,14,15,16,18,82,83,84,85,86,87,88,89] [13,14,18,51,54,3130,3131,3140,3141] ?_
    refine aZ<|cq _<|aT λct=>aR<|lF EO B0 R R<|AE cs λw8 cu cv=>?_
    refine Zq [14,3140,3141] (hc:=[(1000,some<|.box (j+1) 193 [.own 1001<|l 2,.own 1002<|l 3,rI E.cut]),(1001,some<|.arr (l 2) 100 4<|E.out.map AI.row),(1002,some<|.arr (l 3) 51 3<|E.add.map AG.row)]) (bs:=[.ptr 1000 (j+1) 0 0,qb a0.Elems]) (caps:=[]) R R R R iL R ⟨.inl ⟨iL,R⟩,.inl ⟨iL,R⟩,Za⟩ ⟨R,R,R,R,R,R,R,R,R,Za⟩ (by decide) (PD cu) ?_
    intro ar cw
    refine BC [13,14,15,16,18,82,83,84,85,86,87,88,89,90,91,92] [13,14,18,51,54,3130,3131,3140,3141] ?_
    exact aZ<|ct _<|Zn<|Ie.mk cv (AH [(aq 0),(aq 1),(ar 0),(ar 1),cw]) wk
   refine Zd<|c1 _<|aT λcx=>aG [13,14,15,16] [13,14,51,54,3130,3131,3140,3141] ?_
   refine aR<|mM R<|AE Z λI av cy=>?_
   refine Zq [51] (hc:=[(1000,some<|.box (j+2) 196 [qd A.steps,rI A.used])]) (bs:=[.ptr 1000 (j+2) 0 0]) (caps:=[]) R R R R iL R ⟨.inl ⟨iL,R⟩,Za⟩ ⟨R,R,R,Za⟩ (by decide) (KS av) ?_
   intro dr ds
   refine BC [13,14,15,16,93,94] [13,14,51,54,3130,3131,3140,3141] ?_
   refine mM R<|AE cy λJ aw cz=>?_
   refine Zq [54] (hc:=[(1000,some<|.box (j+3) 196 [qd B.steps,rI B.used])]) (bs:=[.ptr 1000 (j+3) 0 0]) (caps:=[]) R R R R iL R ⟨.inl ⟨iL,R⟩,Za⟩ ⟨R,R,R,Za⟩ (by decide) (KS aw) ?_
   intro dt du
   refine BC [13,14,15,16,93,94,95,96] [13,14,51,54,3130,3131,3140,3141] ?_
   refine sQ R (Kb R iL iL)<|mA R<|aZ<|cx _<|aT λd0=>aR<|mM R<|mM R<|D2 cz λax w9 ay d1=>?_
   refine Zq [51] (hc:=[(1000,some<|.box (j+2) 196 [qd A.steps,rI A.used])]) (bs:=[.ptr 1000 (j+2) 0 0,rI<|(min I J)]) (caps:=[]) R R R R iL R ⟨.inl ⟨iL,R⟩,.inl ⟨iL,R⟩,Za⟩ ⟨R,R,R,Za⟩ (by decide) (Jo ay) ?_
   intro dv dw
   refine BC [13,14,15,16,19,93,94,95,96,97,98,99,100] [13,14,51,54,3130,3131,3140,3141] ?_
   refine mM R<|mM R<|D2 d1 λa2 dx az d2=>?_
   refine Zq [54] (hc:=[(1000,some<|.box (j+3) 196 [qd B.steps,rI B.used])]) (bs:=[.ptr 1000 (j+3) 0 0,rI<|(min I J)]) (caps:=[]) R R R R iL R ⟨.inl ⟨iL,R⟩,.inl ⟨iL,R⟩,Za⟩ ⟨R,R,R,Za⟩ (by decide) (Jo az) ?_
   intro dy a6
   refine BC [13,14,15,16,19,93,94,95,96,97,98,99,100,101,102,103] [13,14,51,54,3130,3131,3140,3141] ?_
   refine sS R (BB (cs:=EH) 20 R FM R R)<|sS R (BB (cs:=EH) 21 R FM R R)<|Zj R R (Ac (ds:=(Bt ax)) R FL iL R iL R R R R)<|Zj R R (Ac (ds:=(Bt a2)) R FL iL R iL R R R R)<|aZ<|d0 _<|Zf<|aT λd3=>aG [13,14,15,16,19,20,21] [13,14,20,21,51,54,3130,3131,3140,3141] ?_
   refine aR<|lF B9 AJ R R<|xQ R<|mM R<|vF B9 AJ R R<|vQ R (Aw R (iR R) iL)<|xN R<|mA R<|aZ<|d3 _<|cI R d2 (λa7=>?_) λa7=>?_
   ·refine aT λd4=>aR<|mM R<|lF Dy BE R R<|lF Dy BE R R<|AE a7 λb0 b2 d5=>sS R (B4 (r:=qa b0) (caps:=[]) (bs:=[qa ax.Attrs,qa a2.Attrs]) R iL R ⟨.inl ⟨iL,R⟩,.inl ⟨iL,R⟩,Za⟩ λ_=>kv<|b2)<|AE d5 λdz b3 d6=>?_
    refine Zq [13,3130,3131] (hc:=[(1000,some<|.box j 193 [.own 1001<|l 0,.own 1002<|l 1,rI C.cut]),(1001,some<|.arr (l 0) 100 4<|C.out.map AI.row),(1002,some<|.arr (l 1) 51 3<|C.add.map AG.row)]) (bs:=[.ptr 1000 j 0 0,rI<|(min I J),qa b0]) (caps:=[]) R R R R iL R ⟨.inl ⟨iL,R⟩,.inl ⟨iL,R⟩,.inl ⟨iL,R⟩,Za⟩ ⟨R,R,R,R,R,R,R,R,R,Za⟩ (by decide) (NI b3) ?_
    intro b4 e0
    refine BC [13,14,15,16,19,20,21,104,105,106,107,108,112,113,114,115,116,117,118,119] [13,14,20,21,51,54,3130,3131,3140,3141] ?_
    refine aZ<|d4 _<|aG [13,14,15,16,19,21] [13,14,21,51,54,3130,3131,3140,3141] ?_
    refine aR<|mM R<|lF Dy BE R R<|AE d6 λe3 b5 d7=>?_
    refine Zq [14,3140,3141] (hc:=[(1000,some<|.box (j+1) 193 [.own 1001<|l 2,.own 1002<|l 3,rI E.cut]),(1001,some<|.arr (l 2) 100 4<|E.out.map AI.row),(1002,some<|.arr (l 3) 51 3<|E.add.map AG.row)]) (bs:=[.ptr 1000 (j+1) 0 0,rI<|(min I J),qa a2.Attrs]) (caps:=[]) R R R R iL R ⟨.inl ⟨iL,R⟩,.inl ⟨iL,R⟩,.inl ⟨iL,R⟩,Za⟩ ⟨R,R,R,R,R,R,R,R,R,Za⟩ (by decide) (NI b5) ?_
    intro b6 d8
    refine BC [13,14,15,16,19,21,120,121,122,123] [13,14,21,51,54,3130,3131,3140,3141] ?_
    exact Zi<|Ie.mk d7 (AH [(b4 0),(b4 1),(b6 0),(b6 1),d8]) wk
   refine aU<|lF B9 AJ R R<|xQ R<|mA R<|aZ<|cI R a7 (λa8=>?_) λa8=>?_
   ·refine aG [13,14,15,16,19] [13,14,51,54,3130,3131,3140,3141] ?_
    exact aR<|lF Fp AJ R R<|mM R<|AE a8 λx6 d9 da=>xA R d9<|sQ R (fB R Fp iL fR R)<|Zj R R (Ac (ds:=[.own 3140<|l 2,.own 3141<|l 3,rI x6]) R Fa iL R iL R R R R)<|Zi<|Ie.mk da (AH [(l 0),(l 1),(l 2),(l 3),(a6+2)]) wk
   refine aT λdb=>aG [13,14,15,16,19,21] [13,14,21,51,54,3130,3131,3140,3141] ?_
   refine aR<|lF B9 AJ R R<|xQ R<|mA R<|aZ<|db _<|cI R a8 (λaa=>?_) λaa=>?_
   ·exact aR<|lF Fp AJ R R<|mM R<|AE aa λx7 dc dd=>xA R dc<|sQ R (fB R Fp iL fR R)<|Zj R R (Ac (ds:=[.own 3130<|l 0,.own 3131<|l 1,rI x7]) R Fa iL R iL R R R R)<|Zi<|Ie.mk dd (AH [(l 0),(l 1),(l 2),(l 3),(a6+2)]) wk
   exact Zd<|Ie.mk aa (AH [(l 0),(l 1),(l 2),(l 3),(a6+2)]) wk
  exact Zn<|ac _ _ wk<|J1 _ _ (AH [(l 0),(l 1),(l 2),(l 3),(i9 0)])<|xH bt V
 refine AM.split ((decide<|0≤r9)==false) (λF=>?_) λF=>?_
 ·have ab:=Bk F ag
  refine AM.weak (by exact Rk (e':=[(13,.ptr 13 j 0 0),(14,.ptr 14 (j+1) 0 0),(15,.ptr 51 (j+2) 0 0),(16,.ptr 54 (j+3) 0 0),(55,.ptr 51 (j+2) 0 0),(56,rI r9),(57,rB<|(decide<|0≤r9)),(58,rB<|(decide<|0≤r9)),(59,.ptr 54 (j+3) 0 0)]) F ⟨.inl R,.inl R,.inl R,.inl R,.inl R,.inl R,.inl R,.inl R,.inr iL,Za⟩) ?_
  refine AE ab λe4 b7 de=>?_
  refine iy (.one R R R) F [54] (hc:=[(1000,some<|.box (j+3) 196 [qd B.steps,rI B.used])]) (bs:=[.ptr 1000 (j+3) 0 0]) (caps:=[]) R R R iL R ⟨.inl ⟨iL,R⟩,Za⟩ ⟨R,R,R,Za⟩ (by decide) (Jv b7) ?_
  intro e5 df
  refine BC [13,14,15,16,55,56,57,58,59,60] [13,14,51,54,3130,3131,3140,3141] ?_
  exact IV (.one R R R) F R R (AR.spec (Cv R (.inl R)<|.inl R) _)<|sQ R (CB R iL iL)<|Zi<|T _ _ wk<|J2 _ (AH [df]) (Zb de).symm
 ·have ab:=Bn F ag
  exact GT (.one R R R) F R R<|GT (.one R R R) F R R<|xO R<|Zi<|T _ _ wk<|J2 _ (AH [n3]) (Zb ab).symm
theorem XS{F:List AC}{B:AC}{I:AC}{r:(List AC)}{j:Nat}{l:Nat}(h:LB F B I=some r):Bf prog 189 2 [.agg<|BL B,.agg<|BL I,.ptr 1000 j 0 0] [(1000,some<|.box j 39 [.own 1001 l]),(1001,some<|.arr l 58 2<|F.map AC.row)] (λJ h'=>∃(i:Nat→Nat),J=.tup []∧h'=[(1000,some<|.box j 39 [.own 1001<|i 0]),(1001,some<|.arr (i 0) 58 2<|r.map AC.row)]):=by
 unfold LB at h
 refine EI func189 R R ntmps189 (Zz R) λC=>aU<|sS R (Az (cs:=(BL B)) 3 R iL R R)<|sS R (Az (cs:=(BL I)) 4 R iL R R)<|aZ<|aS λX Y w=>aU<|lF Cb BG R R<|sQ R (CA R iL iL)<|aZ<|BA h λZ A M=>?_
 have U:∀(E:AC) (q:NN),Z=E→X ⟨[(2,.ptr 1000 j 0 0),(4,.ptr 4 (C+1) 0 0)],[(4,some<|.box (C+1) 58<|BL E),(1000,some<|.box j 39 [.own 1001 l]),(1001,some<|.arr l 58 2<|F.map AC.row)],(q 0),13⟩:=by
  intro E q e
  have h1:=M _ e
  refine Y _<|aR<|sQ R (AU (a:=.own 1001 l) R BE iL R R)<|xC CO R<|sS R (Bm 11 R Af (f:=AC.row) (l:=([E]:List AC)) ⟨R,⟨_,iL,R⟩,Za⟩ R (λ_=>R) R)<|AE h1 λV O h2=>sS R (Ci R Af iL R (.inr<|.inl ⟨_,_,iL,R⟩) O)<|Zj R R (Ac (ds:=[.own 1001<|(q 0)+1]) R GZ iL R iL R R R R)<|Zi ?_
  exact CM.mk (s':=⟨[],[(1000,some<|.box j 39 [.own 1001<|(q 0)+1]),(1001,some<|.arr ((q 0)+1) 58 2<|V.map AC.row)],((q 0)+2),13⟩) wk<|Ck (λ(r:(List AC)) J h'=>∃(i:Nat→Nat),J=.tup []∧h'=[(1000,some<|.box j 39 [.own 1001<|i 0]),(1001,some<|.arr (i 0) 58 2<|r.map AC.row)]) h2<|by exact⟨.tup [],[(1000,some<|.box j 39 [.own 1001<|(q 0)+1]),(1001,some<|.arr ((q 0)+1) 58 2<|V.map AC.row)],⟨_,R,Za⟩,⟨.inr R,.inr R,Za⟩,R,R,AH [((q 0)+1)],R,R⟩
 refine aC R (λu=>?_) λu=>?_
 ·have T:=Bk u A
  exact aR<|xC CO R<|Zj R R (Ac (ds:=(BL B)) R Nw iL R iL R R R R)<|Zi<|w _ _ wk<|U _ (AH [(C+2)]) (Zb T).symm
 ·have T:=Bn u A
  exact Zd<|w _ _ wk<|U _ (AH [(C+2)]) (Zb T).symm
end Go.Proofs.YtdafahjmopdleaaGreatDoor.Al
