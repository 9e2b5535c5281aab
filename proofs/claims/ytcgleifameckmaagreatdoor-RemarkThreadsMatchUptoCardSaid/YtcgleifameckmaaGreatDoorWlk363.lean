/- Walks, as printed. -/
import Derived.Test.YtcgleifameckmaaGreatDoorPL2
import Derived.Test.YtcgleifameckmaaGreatDoorProg
set_option linter.all false
set_option maxHeartbeats 4000000
set_option maxRecDepth 20000
set_option linter.unusedVariables false
namespace Go.Proofs.YtcgleifameckmaaGreatDoor.Al
open Go.Proofs Go.Proofs.Tryz
@[reducible] noncomputable def Bx t:=(prog.info? t).map (λi=>(i.zero,i.size,i.bytes))
theorem BP:prog.follows .mixedOrders=true:=by kernel_rfl
theorem jg:Bx 109=some (some<|.nilFunc,1,8):=by kernel_rfl
theorem cQ:Bx 112=some (some<|.agg #[.int .i64 0,.int .i64 0,.bool false],3,24):=by kernel_rfl
theorem Us:Bx 113=some (some<|.nilFunc,1,8):=by kernel_rfl
theorem Tb:Bx 124=some (some<|.agg #[.int .i64 0,.int .i64 0,.string ⟨#[]⟩,.int .i64 0,.slice none 0 0],5,64):=by kernel_rfl
theorem OF:Bx 127=some (some<|.agg #[.int .i64 0,.int .i64 0,.int .i64 0,.int .i64 0],4,32):=by kernel_rfl
theorem VF:Bx 129=some (some<|.slice none 0 0,1,24):=by kernel_rfl
theorem PC:Bx 133=some (some<|.agg #[.int .i64 0,.int .i64 0,.string ⟨#[]⟩,.slice none 0 0],4,56):=by kernel_rfl
theorem Vz:Bx 157=some (some<|.map none,1,8):=by kernel_rfl
theorem Tu:Bx 175=some (some<|.agg #[.int .i64 0,.int .i64 0,.int .i64 0,.int .i64 0,.int .i64 0,.string ⟨#[]⟩,.string ⟨#[]⟩,.string ⟨#[]⟩],8,88):=by kernel_rfl
theorem bL:Bx 22=some (some<|.slice none 0 0,1,24):=by kernel_rfl
theorem TH:Bx 24=some (some<|.agg #[.slice none 0 0],1,24):=by kernel_rfl
theorem WL:Bx 242=some (some<|.map none,1,8):=by kernel_rfl
theorem eJ:Bx 243=some (some<|.map none,1,8):=by kernel_rfl
theorem YM:Bx 244=some (some<|.map none,1,8):=by kernel_rfl
theorem lr:Bx 246=some (some<|.agg #[.map none,.map none],2,16):=by kernel_rfl
theorem uM:Bx 247=some (some<|.pointer none,1,8):=by kernel_rfl
theorem Vk:Bx 248=some (some<|.nilFunc,1,8):=by kernel_rfl
theorem V2:Bx 26=some (some<|.slice none 0 0,1,24):=by kernel_rfl
theorem R3:Bx 269=some (some<|.agg #[.int .u8 0,.int .u8 0],2,2):=by kernel_rfl
theorem Cd:Bx 3=some (some<|.int .i64 0,1,8):=by kernel_rfl
theorem Vw:Bx 30=some (some<|.slice none 0 0,1,24):=by kernel_rfl
theorem L2:Bx 36=some (some<|.slice none 0 0,1,24):=by kernel_rfl
theorem WA:Bx 37=some (some<|.slice none 0 0,1,24):=by kernel_rfl
theorem W3:Bx 38=some (some<|.slice none 0 0,1,24):=by kernel_rfl
theorem Vi:Bx 39=some (some<|.slice none 0 0,1,24):=by kernel_rfl
theorem Qi:Bx 4=some (some<|.bool false,1,1):=by kernel_rfl
theorem Og:Bx 41=some (some<|.agg #[.int .i64 0,.int .i64 0,.slice none 0 0,.slice none 0 0],4,64):=by kernel_rfl
theorem Vx:Bx 42=some (some<|.slice none 0 0,1,24):=by kernel_rfl
theorem Pd:Bx 44=some (some<|.agg #[.int .i64 0,.int .i64 0,.slice none 0 0,.slice none 0 0,.int .i64 0,.int .i64 0,.slice none 0 0,.slice none 0 0,.slice none 0 0],9,152):=by kernel_rfl
theorem XU:Bx 47=some (some<|.agg #[.int .i64 0,.int .i64 0,.bool false],3,24):=by kernel_rfl
theorem Nz:Bx 5=some (some<|.int .u8 0,1,1):=by kernel_rfl
theorem Mf:Bx 51=some (some<|.agg #[.int .i64 0,.int .i64 0,.slice none 0 0],3,40):=by kernel_rfl
theorem VM:Bx 54=some (some<|.agg #[.int .i64 0,.int .i64 0],2,16):=by kernel_rfl
theorem Wk:Bx 56=some (some<|.agg #[.int .i64 0,.int .i64 0,.int .i64 0],3,24):=by kernel_rfl
theorem UP:Bx 58=some (some<|.slice none 0 0,1,24):=by kernel_rfl
theorem Yw:Bx 60=some (some<|.agg #[.int .i64 0,.slice none 0 0,.bool false],3,40):=by kernel_rfl
theorem Um:Bx 80=some (some<|.map none,1,8):=by kernel_rfl
theorem Jg:Bx 9=some (some<|.string ⟨#[]⟩,1,16):=by kernel_rfl
theorem Pk:Bx 91=some (some<|.agg #[.string ⟨#[]⟩,.string ⟨#[]⟩],2,32):=by kernel_rfl
def tF:=Cj.of Us
def IP:=Cj.of Tb
def IW:=Cj.of OF
def T1:=Cj.of VF
def PV:=Cj.of PC
def X6:=Cj.of Vz
def Te:=Cj.of Tu
def eM:=Cj.of TH
def ir:=Cj.of WL
def ic:=Cj.of uM
def vS:=Cj.of Vk
def nT:=Cj.of V2
def vq:=Cj.of R3
def kJ:=Cj.of Cd
def pX:=Cj.of Vw
def Uy:=Cj.of L2
def Vv:=Cj.of Qi
def mX:=Cj.of Og
def Ia:=Cj.of Pd
def On:=Cj.of Mf
def tn:=Cj.of Um
def Yh:=Cj.of Pk
theorem fD:prog.underlying 82=some (.interface<|prog.methodsAt 82):=by kernel_rfl
theorem pE:BW prog 112 3:=BW.of underlying112 rfl cQ
theorem FR:BW prog 124 5:=BW.of underlying124 rfl Tb
theorem Dh:BW prog 127 4:=BW.of underlying127 rfl OF
theorem Gr:BW prog 133 4:=BW.of underlying133 rfl PC
theorem IK:BW prog 175 8:=BW.of underlying175 rfl Tu
theorem CG:BW prog 24 1:=BW.of underlying24 rfl TH
theorem u7:BW prog 269 2:=BW.of underlying269 rfl R3
theorem Jj:BW prog 41 4:=BW.of underlying41 rfl Og
theorem D8:BW prog 44 9:=BW.of underlying44 rfl Pd
theorem sX:BW prog 47 3:=BW.of underlying47 rfl XU
theorem Kb:BW prog 51 3:=BW.of underlying51 rfl Mf
theorem ri:BW prog 54 2:=BW.of underlying54 rfl VM
theorem gZ:BW prog 56 3:=BW.of underlying56 rfl Wk
theorem E3:BW prog 91 2:=BW.of underlying91 rfl Pk
theorem mf:HP 3=some (GH.flatMap<|Ai .u8):=by kernel_rfl
theorem vJ:HP 4=some (Sz.flatMap Il.row):=by kernel_rfl
theorem Tm:Cn prog 112 [(0,1),(1,1),(2,1)] [.int .i64 0,.int .i64 0,.bool false]:=Cn.of underlying112 (λw=>by kernel_rfl) cQ
theorem gl:Cn prog 127 [(0,1),(1,1),(2,1),(3,1)] [.int .i64 0,.int .i64 0,.int .i64 0,.int .i64 0]:=Cn.of underlying127 (λw=>by kernel_rfl) OF
theorem RA:Cn prog 133 [(0,1),(1,1),(2,1),(3,1)] [.int .i64 0,.int .i64 0,.string ⟨#[]⟩,.slice none 0 0]:=Cn.of underlying133 (λw=>by kernel_rfl) PC
theorem mK:Cn prog 24 [(0,1)] [.slice none 0 0]:=Cn.of underlying24 (λw=>by kernel_rfl) TH
theorem nU:Cn prog 246 [(0,1),(1,1)] [.map none,.map none]:=Cn.of underlying246 (λw=>by kernel_rfl) lr
theorem l8:Cn prog 41 [(0,1),(1,1),(2,1),(3,1)] [.int .i64 0,.int .i64 0,.slice none 0 0,.slice none 0 0]:=Cn.of underlying41 (λw=>by kernel_rfl) Og
theorem Q0:Cn prog 47 [(0,1),(1,1),(2,1)] [.int .i64 0,.int .i64 0,.bool false]:=Cn.of underlying47 (λw=>by kernel_rfl) XU
theorem uD:Cn prog 51 [(0,1),(1,1),(2,1)] [.int .i64 0,.int .i64 0,.slice none 0 0]:=Cn.of underlying51 (λw=>by kernel_rfl) Mf
theorem X8:Cn prog 54 [(0,1),(1,1)] [.int .i64 0,.int .i64 0]:=Cn.of underlying54 (λw=>by kernel_rfl) VM
theorem eT:Cn prog 56 [(0,1),(1,2)] [.int .i64 0,.int .i64 0,.int .i64 0]:=Cn.of underlying56 (λw=>by kernel_rfl) Wk
theorem fU:Cn prog 60 [(0,1),(1,1),(2,1)] [.int .i64 0,.slice none 0 0,.bool false]:=Cn.of underlying60 (λw=>by kernel_rfl) Yw
theorem TA:Cn prog 91 [(0,1),(1,1)] [.string ⟨#[]⟩,.string ⟨#[]⟩]:=Cn.of underlying91 (λw=>by kernel_rfl) Pk
theorem n9:Fm prog 127 [some<|.int .i64,some<|.int .i64,some<|.int .i64,some<|.int .i64]:=Fm.of underlying127 (by kernel_rfl) (by kernel_rfl)<|by exact⟨rfl,rfl,underlying3,rfl,rfl,underlying3,rfl,rfl,underlying3,rfl,rfl,underlying3,trivial⟩
theorem uz:Fm prog 54 [some<|.int .i64,some<|.int .i64]:=Fm.of underlying54 (by kernel_rfl) (by kernel_rfl)<|by exact⟨rfl,rfl,underlying3,rfl,rfl,underlying3,trivial⟩
theorem iM:NX prog 56 [some<|.int .i64,some<|.int .i64,some<|.int .i64]:=NX.of [none,some 2] underlying56 (by kernel_rfl) (by kernel_rfl)<|by exact⟨rfl,rfl,underlying3,rfl,rfl,ri,by decide,uz,trivial⟩
theorem qw:Fm prog 91 [some .string,some .string]:=Fm.of underlying91 (by kernel_rfl) (by kernel_rfl)<|by exact⟨rfl,rfl,underlying9,rfl,rfl,underlying9,trivial⟩
theorem Ki:An prog 112 0 0:=An.of underlying112 rfl rfl Cd<|by decide
theorem qz:An prog 112 1 1:=An.of underlying112 rfl rfl Cd<|by decide
theorem Wy:An prog 112 2 2:=An.of underlying112 rfl rfl Qi<|by decide
theorem FU:An prog 124 0 0:=An.of underlying124 rfl rfl Cd<|by decide
theorem Ft:An prog 124 1 1:=An.of underlying124 rfl rfl Cd<|by decide
theorem JO:An prog 124 2 2:=An.of underlying124 rfl rfl Jg<|by decide
theorem Ez:An prog 124 3 3:=An.of underlying124 rfl rfl Cd<|by decide
theorem Hb:An prog 124 4 4:=An.of underlying124 rfl rfl L2<|by decide
theorem Cz:An prog 127 0 0:=An.of underlying127 rfl rfl Cd<|by decide
theorem DV:An prog 127 1 1:=An.of underlying127 rfl rfl Cd<|by decide
theorem Gz:An prog 127 2 2:=An.of underlying127 rfl rfl Cd<|by decide
theorem Ge:An prog 127 3 3:=An.of underlying127 rfl rfl Cd<|by decide
theorem Ef:An prog 133 0 0:=An.of underlying133 rfl rfl Cd<|by decide
theorem MU:An prog 133 1 1:=An.of underlying133 rfl rfl Cd<|by decide
theorem IL:An prog 133 2 2:=An.of underlying133 rfl rfl Jg<|by decide
theorem Kk:An prog 133 3 3:=An.of underlying133 rfl rfl L2<|by decide
theorem Iw:An prog 175 0 0:=An.of underlying175 rfl rfl Cd<|by decide
theorem KV:An prog 175 1 1:=An.of underlying175 rfl rfl Cd<|by decide
theorem F2:An prog 175 2 2:=An.of underlying175 rfl rfl Cd<|by decide
theorem Fb:An prog 175 3 3:=An.of underlying175 rfl rfl Cd<|by decide
theorem Gx:An prog 175 4 4:=An.of underlying175 rfl rfl Cd<|by decide
theorem Nn:An prog 175 5 5:=An.of underlying175 rfl rfl Jg<|by decide
theorem Mt:An prog 175 6 6:=An.of underlying175 rfl rfl Jg<|by decide
theorem JE:An prog 175 7 7:=An.of underlying175 rfl rfl Jg<|by decide
theorem Wa:An prog 246 0 0:=An.of underlying246 rfl rfl eJ<|by decide
theorem VS:An prog 246 1 1:=An.of underlying246 rfl rfl YM<|by decide
theorem CZ:An prog 24 0 0:=An.of underlying24 rfl rfl bL<|by decide
theorem vO:An prog 269 0 0:=An.of underlying269 rfl rfl Nz<|by decide
theorem lE:An prog 269 1 1:=An.of underlying269 rfl rfl Nz<|by decide
theorem HZ:An prog 41 0 0:=An.of underlying41 rfl rfl Cd<|by decide
theorem Hg:An prog 41 1 1:=An.of underlying41 rfl rfl Cd<|by decide
theorem EU:An prog 41 2 2:=An.of underlying41 rfl rfl W3<|by decide
theorem Eg:An prog 41 3 3:=An.of underlying41 rfl rfl Vi<|by decide
theorem Ea:An prog 44 0 0:=An.of underlying44 rfl rfl Cd<|by decide
theorem CH:An prog 44 1 1:=An.of underlying44 rfl rfl Cd<|by decide
theorem KE:An prog 44 2 2:=An.of underlying44 rfl rfl L2<|by decide
theorem Ew:An prog 44 3 3:=An.of underlying44 rfl rfl WA<|by decide
theorem Ej:An prog 44 4 4:=An.of underlying44 rfl rfl Og<|by decide
theorem HF:An prog 44 5 8:=An.of underlying44 rfl rfl Vx<|by decide
theorem LP:An prog 47 0 0:=An.of underlying47 rfl rfl Cd<|by decide
theorem Ur:An prog 47 2 2:=An.of underlying47 rfl rfl Qi<|by decide
theorem Hu:An prog 51 0 0:=An.of underlying51 rfl rfl Cd<|by decide
theorem EP:An prog 51 1 1:=An.of underlying51 rfl rfl Cd<|by decide
theorem QS:An prog 51 2 2:=An.of underlying51 rfl rfl L2<|by decide
theorem OE:An prog 54 1 1:=An.of underlying54 rfl rfl Cd<|by decide
theorem qW:An prog 56 0 0:=An.of underlying56 rfl rfl Cd<|by decide
theorem ON:An prog 56 1 1:=An.of underlying56 rfl rfl VM<|by decide
theorem VG:An prog 60 0 0:=An.of underlying60 rfl rfl Cd<|by decide
theorem Js:An prog 60 1 1:=An.of underlying60 rfl rfl UP<|by decide
theorem Ys:An prog 60 2 2:=An.of underlying60 rfl rfl Qi<|by decide
theorem Ep:An prog 91 0 0:=An.of underlying91 rfl rfl Jg<|by decide
theorem Jd:An prog 91 1 1:=An.of underlying91 rfl rfl Jg<|by decide
theorem BV:Ba prog 129 133 4 56:=Ba.of underlying129 PC rfl rfl<|by decide
theorem B7:Ba prog 22 44 9 152:=Ba.of underlying22 Pd rfl rfl<|by decide
theorem D1:Ba prog 26 56 3 24:=Ba.of underlying26 Wk rfl rfl<|by decide
theorem De:Ba prog 30 60 3 40:=Ba.of underlying30 Yw rfl rfl<|by decide
theorem Np:Ba prog 34 47 3 24:=Ba.of underlying34 XU rfl rfl<|by decide
theorem BK:Ba prog 36 91 2 32:=Ba.of underlying36 Pk rfl rfl<|by decide
theorem CN:Ba prog 37 51 3 40:=Ba.of underlying37 Mf rfl rfl<|by decide
theorem CD:Ba prog 38 124 5 64:=Ba.of underlying38 Tb rfl rfl<|by decide
theorem DW:Ba prog 39 127 4 32:=Ba.of underlying39 OF rfl rfl<|by decide
theorem FQ:Ba prog 42 175 8 88:=Ba.of underlying42 Tu rfl rfl<|by decide
theorem Bo:Ba prog 58 3 1 8:=Ba.of underlying58 Cd rfl rfl<|by decide
theorem oo:Ba prog 92 5 1 1:=Ba.of underlying92 Nz rfl rfl<|by decide
theorem qQ:JI prog 44 [.int .i64 0,.int .i64 0,.sl [],.sl [],.int .i64 0,.int .i64 0,.sl [],.sl [],.sl []]:=JI.of Pd rfl
theorem vD:JI prog 51 [.int .i64 0,.int .i64 0,.sl []]:=JI.of Mf rfl
theorem pF:BH prog 109:=BH.of underlying109 rfl jg
theorem QW:BH prog 113:=BH.of underlying113 rfl Us
theorem XE:BH prog 129:=BH.of underlying129 rfl VF
theorem Q4:BH prog 157:=BH.of underlying157 rfl Vz
theorem Cf:BH prog 22:=BH.of underlying22 rfl bL
theorem Sy:BH prog 242:=BH.of underlying242 rfl WL
theorem Wv:BH prog 243:=BH.of underlying243 rfl eJ
theorem VJ:BH prog 244:=BH.of underlying244 rfl YM
theorem fK:BH prog 248:=BH.of underlying248 rfl Vk
theorem ND:BH prog 26:=BH.of underlying26 rfl V2
theorem AJ:BH prog 3:=BH.of underlying3 rfl Cd
theorem Ny:BH prog 30:=BH.of underlying30 rfl Vw
theorem Cq:BH prog 36:=BH.of underlying36 rfl L2
theorem E5:BH prog 37:=BH.of underlying37 rfl WA
theorem Ek:BH prog 38:=BH.of underlying38 rfl W3
theorem E6:BH prog 39:=BH.of underlying39 rfl Vi
theorem JM:BH prog 4:=BH.of underlying4 rfl Qi
theorem Ic:BH prog 42:=BH.of underlying42 rfl Vx
theorem V5:BH prog 5:=BH.of underlying5 rfl Nz
theorem Ml:BH prog 58:=BH.of underlying58 rfl UP
theorem UZ:BH prog 80:=BH.of underlying80 rfl Um
theorem BO:BH prog 9:=BH.of underlying9 rfl Jg
theorem tG:T7 prog 267 256 5 1:=⟨underlying267,Co Nz⟩
theorem py:T7 prog 270 16 269 2:=⟨underlying270,Co R3⟩
theorem jF:∃i,prog.info? 113=some i/\i.size=1:=Co Us
theorem Ih:∃i,prog.info? 124=some i/\i.size=5:=Co Tb
theorem Gu:∃i,prog.info? 127=some i/\i.size=4:=Co OF
theorem X0:∃i,prog.info? 129=some i/\i.size=1:=Co VF
theorem MP:∃i,prog.info? 133=some i/\i.size=4:=Co PC
theorem fW:∃i,prog.info? 157=some i/\i.size=1:=Co Vz
theorem RI:∃i,prog.info? 175=some i/\i.size=8:=Co Tu
theorem XL:∃i,prog.info? 24=some i/\i.size=1:=Co TH
theorem jZ:∃i,prog.info? 242=some i/\i.size=1:=Co WL
theorem qJ:∃i,prog.info? 248=some i/\i.size=1:=Co Vk
theorem ro:∃i,prog.info? 26=some i/\i.size=1:=Co V2
theorem mT:∃i,prog.info? 269=some i/\i.size=2:=Co R3
theorem Yu:∃i,prog.info? 3=some i/\i.size=1:=Co Cd
theorem jc:∃i,prog.info? 30=some i/\i.size=1:=Co Vw
theorem Ls:∃i,prog.info? 36=some i/\i.size=1:=Co L2
theorem th:∃i,prog.info? 37=some i/\i.size=1:=Co WA
theorem ma:∃i,prog.info? 38=some i/\i.size=1:=Co W3
theorem pI:∃i,prog.info? 39=some i/\i.size=1:=Co Vi
theorem Zd:∃i,prog.info? 41=some i/\i.size=4:=Co Og
theorem ik:∃i,prog.info? 42=some i/\i.size=1:=Co Vx
theorem HV:∃i,prog.info? 44=some i/\i.size=9:=Co Pd
theorem NR:∃i,prog.info? 51=some i/\i.size=3:=Co Mf
theorem gJ:∃i,prog.info? 58=some i/\i.size=1:=Co UP
theorem na:∃i,prog.info? 80=some i/\i.size=1:=Co Um
theorem Xv:∃i,prog.info? 91=some i/\i.size=2:=Co Pk
@[reducible] def qa(l:List AH):AV:=.r<|.sl<|l.map AH.row
@[reducible] def qb(l:List Ad):AV:=.r<|.sl<|l.map Ad.row
@[reducible] def qc(l:List Aw):AV:=.r<|.sl<|l.map Aw.row
@[reducible] def qd(l:List At):AV:=.r<|.sl<|l.map At.row
@[reducible] def qe(l:List Aq):AV:=.r<|.sl<|l.map Aq.row
@[reducible] def qf(l:List BA):AV:=.r<|.sl<|l.map BA.row
@[reducible] def qg(l:List AC):AV:=.r<|.sl<|l.map AC.row
@[reducible] def qh(l:List Ae):AV:=.r<|.sl<|l.map Ae.row
@[reducible] def qi(l:List Ag):AV:=.r<|.sl<|l.map Ag.row
@[reducible] def qj(l:List Aj):AV:=.r<|.sl<|l.map Aj.row
set_option linter.defProp false
@[reducible] def E7:List AV:=[rI<|0,rI<|0,.cst<|.slice none 0 0,.cst<|.slice none 0 0,rI<|0,rI<|0,.cst<|.slice none 0 0,.cst<|.slice none 0 0,.cst<|.slice none 0 0]
@[reducible] def JG(x:Ad):List AV:=[.agg [rI<|x.ID,rI<|x.Kind,qa x.Attrs,qe x.Flow,rI<|x.Grid.Rows,rI<|x.Grid.Cols,qc x.Grid.Cells,qd x.Grid.Merges,qf x.Draw]]
@[reducible] def ka(x:BA):List AV:=[.agg [rI<|x.Clock,rI<|x.Site,rI<|x.Kind,rI<|x.Item,rI<|x.Parent,.r<|.str x.Place,.r<|.str x.Name,.r<|.str x.Value]]
@[reducible] def A8(x:Ad):List AV:=[rI<|x.ID,rI<|x.Kind,qa x.Attrs,qe x.Flow,rI<|x.Grid.Rows,rI<|x.Grid.Cols,qc x.Grid.Cells,qd x.Grid.Merges,qf x.Draw]
@[reducible] def CV(x:BA):List AV:=[rI<|x.Clock,rI<|x.Site,rI<|x.Kind,rI<|x.Item,rI<|x.Parent,.r<|.str x.Place,.r<|.str x.Name,.r<|.str x.Value]
@[reducible] def TE:List AV:=[rI<|0,rI<|0,rI<|0,rI<|0,rI<|0,.r<|.str [],.r<|.str [],.r<|.str []]
@[reducible] def gC(x:Aw):List AV:=[.agg [rI<|x.Row,rI<|x.Col,.r<|.str x.Text,rI<|x.Ref,qa x.Attrs]]
@[reducible] def B2(x:Aw):List AV:=[rI<|x.Row,rI<|x.Col,.r<|.str x.Text,rI<|x.Ref,qa x.Attrs]
@[reducible] def SZ:List AV:=[rI<|0,rI<|0,.cst<|.slice none 0 0,.cst<|.slice none 0 0]
@[reducible] def Iz:List AV:=[rI<|0,rI<|0,.r<|.str [],rI<|0,.cst<|.slice none 0 0]
@[reducible] def Cw(x:AC):List AV:=[rI<|x.Item,rI<|x.Parent,.r<|.str x.Place,qa x.Attrs]
@[reducible] def Vu(x:BJ):List AV:=[.agg [rI<|x.Rows,rI<|x.Cols,qc x.Cells,qd x.Merges]]
@[reducible] def M8:List AV:=[rI<|0,rI<|0,.r<|.str [],.cst<|.slice none 0 0]
@[reducible] def CY(x:BJ):List AV:=[rI<|x.Rows,rI<|x.Cols,qc x.Cells,qd x.Merges]
@[reducible] def BY(x:At):List AV:=[rI<|x.Row,rI<|x.Col,rI<|x.H,rI<|x.W]
@[reducible] def Yd(x:Aq):List AV:=[.agg [rI<|x.Char,rI<|x.Ref,qa x.Attrs]]
@[reducible] def HN(x:As):List AV:=[rI<|x.id,rI<|x.parent,rB<|x.visible]
@[reducible] def H6(x:Aj):List AV:=[rI<|x.ID,rI<|x.Parent,rB<|x.Visible]
@[reducible] def QY:List AV:=[rI<|0,rI<|0,.cst<|.slice none 0 0]
@[reducible] def Cp(x:AH):List AV:=[.r<|.str x.Name,.r<|.str x.Value]
@[reducible] def Eh(x:Aq):List AV:=[rI<|x.Char,rI<|x.Ref,qa x.Attrs]
@[reducible] def F6:List AV:=[rI<|0,rI<|0,rI<|0,rI<|0]
@[reducible] def wq{T r:Int}{x:Exit}{s:St}{j:ResultVar}:=@C3 Int prog T r x s j λr=>rI r
@[reducible] def wo{T r:Bool}{x:Exit}{s:St}{j:ResultVar}:=@C3 Bool prog T r x s j λr=>rB r
@[reducible] def yI:=@aP prog
@[reducible] def yB:=@ZH prog
@[reducible] def Za:=@trivial
@[reducible] def Zc:=@AW.skip
@[reducible] def Zf:=@xh
@[reducible] def Zg:=@AW.block
@[reducible] def Zh:=@AN.nil
@[reducible] def Zj:=@AW.ret
@[reducible] def Zk:=@hM
@[reducible] def Zm:=@AW.exit
@[reducible] def Zn:=@AZ.trans
@[reducible] def Zr:=@TO.mk
@[reducible] def Zv:=@wh
@[reducible] def Zw:=@xu
@[reducible] def Zz:=@g8
@[reducible] def ZB:=@wL
@[reducible] def ZE:=@Su.mk
@[reducible] def R:=@rfl
theorem AG{P:Program}{ops:Array Oper}{K:St->Prop}{o:Oper}{s:St}{d:Nat}{x:Operand}(hg:(o.guard,o.dst,Nat.blt d s.N,o.op)=(none,some d,true,.assign x))(j:K { e:=(d,BE s.e x)::s.e,h:=s.h,n:=s.n,N:=s.N }):AN P ops [o] s K:=mA hg<|aZ j
theorem AK{P:Program}{Q:Exit->St->Prop}{s:St}{y:Code}{id:Nat}{l:List Oper}{o:Oper}{d:Nat}{x:Operand}(hg:(o.guard,o.dst,Nat.blt d s.N,o.op)=(none,some d,true,.move x))(j:AN P (o::l).toArray l { e:=(d,BE s.e x)::s.e,h:=s.h,n:=s.n,N:=s.N } λm=>AW P y Q m):AW P (.seq (.region id (o::l).toArray false) y) Q s:=aU<|mM hg j
theorem Ah{P:Program}{Q:Exit->St->Prop}{s:St}{id:Nat}{l:List Oper}{o:Oper}{d:Nat}{x:Operand}(hg:(o.guard,o.dst,Nat.blt d s.N,o.op)=(none,some d,true,.move x))(j:AN P (o::l).toArray l { e:=(d,BE s.e x)::s.e,h:=s.h,n:=s.n,N:=s.N } (Q .normal)):AW P (.region id (o::l).toArray false) Q s:=aR<|mM hg j
theorem FS{P:Program}{Q:Exit->St->Prop}{s:St}{y:Code}{id:Nat}{l:List Oper}{ops:Array Oper}(h:AN P l.toArray l s λj=>AW P y Q j):AN P ops [] s λs=>AW P (.seq (.region id l.toArray false) y) Q s:=aZ<|aU h
theorem Ar{P:Program}{Q:Exit->St->Prop}{s:St}{x y:Code}{ops:Array Oper}(h:∀ {K:St->Prop},(∀s,AW P y Q s->K s)->AW P x (Es K Q) s):AN P ops [] s λs=>AW P (.seq x y) Q s:=aZ<|aT h
theorem zN{p:PO}(l:∀G j,p.v j=p.v G:=by intros;rfl)(m:p.hp=none:=by rfl):∀G j:Nat->Nat,(∀k,p.dep.contains k=true->G k=j k)->p.v j=p.v G/\∀id ob,p.hp=some (id,ob)->ob j=ob G:=λG j _=>⟨l G j,λ_ _ e=>by rw[m] at e;cases e⟩
theorem zS{p:PO}(k:Nat)(l:p.dep.contains k=true:=by rfl)(m:∀G j:Nat->Nat,G k=j k->p.v j=p.v G:=by intro _ _ h;first | rfl | simp only[h])(q:∀G j:Nat->Nat,G k=j k->∀id ob,p.hp=some (id,ob)->ob j=ob G:=by intro _ _ h _ _ e;cases e<;>first | rfl | simp only[h]):∀G j:Nat->Nat,(∀k,p.dep.contains k=true->G k=j k)->p.v j=p.v G/\∀id ob,p.hp=some (id,ob)->ob j=ob G:=λG j h=>⟨m G j<|h k l,q G j<|h k l⟩
@[reducible] def bX(k g:Nat)(t:TypeId)(c:List AV):Nat × Option AU:=(k,some<|.box g t c)
@[reducible] def aX(k g:Nat)(t:TypeId)(z:Nat)(c:List (List RV)):Nat × Option AU:=(k,some<|.arr g t z c)
@[reducible] def pT(k g:Nat):AV:=.ptr k g 0 0
@[reducible] def RM j l:=([bX 2 j 124<|B2 l]:AL)
@[reducible] def Sq j l:=([bX 3 j 124<|B2 l]:AL)
@[reducible] def DS j l:=([bX 1000 j 127<|BY l]:AL)
@[reducible] def Rm j l:=([bX 2 j 175<|CV l]:AL)
@[reducible] def TR j l:=([bX 3 j 175<|CV l]:AL)
@[reducible] def If j l:=([aX 5003 j 3 1 l]:AL)
@[reducible] def R2 j l m q:=([(3,.own 5003 j),(6,l),(7,m),(8,rI q)]:Aa)
@[reducible] def PN j l:=([aX 1000 j 3 1 l]:AL)
@[reducible] def O6 j l:=([bX 3 j 24 [l]]:AL)
@[reducible] def FN j l:=([bX 1 j 24 [l]]:AL)
@[reducible] def MB j l:=([bX 5 j 51<|Eh l]:AL)
@[reducible] def ZZ O T U J V X Z x7 x8 M m q w A B j l C E F I:=([bX 1 O 44 [rI T,rI U,.own 8 J,V,rI X,rI Z,x7,x8,.own 16 M],bX 2 m 44 q,bX 3 w 41 [rI A,rI B,.own 26 j,.own 22 l],aX 8 J 91 2<|List.map AH.row C,aX 16 M 175 8<|List.map BA.row E,aX 22 l 127 4<|List.map At.row F,aX 26 j 124 5<|List.map Aw.row I]:AL)
@[reducible] def aH l m q j w:=([bX 2 l 24 [m],bX 3 q 24 [.own 9 j],aX 9 j 44 9<|List.map Ad.row w]:AL)
@[reducible] def R1 j l:=([bX 1000 j 24 [l]]:AL)
@[reducible] def GL j l m:=([bX 1000 j 109 [l],(1001,some m)]:AL)
@[reducible] def Dr l j m:=([bX 1000 l 36 [.own 1001 j],aX 1001 j 91 2<|List.map AH.row m]:AL)
@[reducible] def Dn q j m w A B:=([bX 1000 q 246 [.mref 1001 j,.mref 1002 m],(1001,some<|.mb j w 133<|Ap AC.row A),(1002,some<|.md m<|Ap (λ(l:List AH)=>RV.sl<|l.map AH.row) B)]:AL)
@[reducible] def KD j l m:=([bX 1000 j 246 [.mref 1001 l,.mref 1002 m]]:AL)
@[reducible] def JV j l:=([bX 5 j 175<|CV l]:AL)
@[reducible] def RP j l:=([bX 2 j 133<|Cw l]:AL)
@[reducible] def S3 j l:=([bX 3 j 133<|Cw l]:AL)
@[reducible] def Fp m q E F w A I B C J j:=([bX 1000 m 242 [.mref 1001 q],(1001,some<|.mr q E 133 4 none<|Ap (λ(l:List AC)=>l.map AC.row) F),bX 1002 w 129 [.own 1003 A],aX 1003 A 133 4<|List.map AC.row I,bX 1004 B 157 [.mref 1005 C],(1005,some<|.md C<|Ap RV.bool J),bX 1006 j 248 [.fn 180 [pT 1000 m,pT 1002 w,pT 1004 B,pT 1006 j]]]:AL)
@[reducible] def Wi j l m q:=([(3,pT 14 j),(4,pT 4 l),(5,.own 5005 m),(20,pT 20 q)]:Aa)
@[reducible] def V1 C w E A B F I J M O j m q:=([bX 4 C 242 [.mref 15 w],bX 14 E 246 [.mref 8225 A,.mref 8226 B],(15,some<|.mr w F 133 4 none<|Ap (λ(l:List AC)=>l.map AC.row) I),(20,some J),aX 5005 M 133 4<|List.map AC.row O,(8225,some<|.mb A j 133<|Ap AC.row m),(8226,some<|.md B<|Ap (λ(l:List AH)=>RV.sl<|l.map AH.row) q)]:AL)
@[reducible] def Gk j l m:=([(8225,some<|.mb j l 133<|Ap AC.row m)]:AL)
@[reducible] def EY j l:=([aX 1000 j 133 4<|List.map AC.row l]:AL)
@[reducible] def dK m j q l w A B C:=([bX 8 m 129 [.own 3080 j],bX 9 q 157 [.mref 57 l],(57,some<|.md l<|Ap RV.bool w),aX 3080 j 133 4<|List.map AC.row A,aX 5005 B 133 4<|List.map AC.row C]:AL)
@[reducible] def CQ j l B m q C E w F A:=([bX 1000 j 157 [.mref 1001 l],(1001,some<|.md l<|Ap RV.bool B),bX 1002 m 113 [.fn 47 [pT 1003 q]],bX 1003 q 109 [C],(1004,some E),bX 1005 w 24 [F],bX 1006 A 113 [.fn 84 [pT 1000 j,pT 1002 m,pT 1005 w,pT 1006 A]]]:AL)
@[reducible] def Qb E F I J w A M B C O m j q l:=([bX 5 E 112<|HN F,bX 9 I 44<|A8 J,bX 1000 w 157 [.mref 1001 A],(1001,some<|.md A<|Ap RV.bool M),bX 1002 B 113 [.fn 47 [pT 1003 C]],bX 1003 C 109 [O],(1004,some m),bX 1005 j 24 [q],bX 1006 l 113 [.fn 84 [pT 1000 w,pT 1002 B,pT 1005 j,pT 1006 l]]]:AL)
@[reducible] def KP j l m:=([(1000,some j),bX 1001 l 24 [m]]:AL)
@[reducible] def eW j l m q w:=([(2,pT 2 j),(3,pT 3 l),(7,pT 7 m),(19,.agg [q]),(20,.fn 45 [pT 20 w])]:Aa)
@[reducible] def eD l m q w A j B C E:=([bX 2 l 24 [m],bX 3 q 3 [rI w],bX 7 A 26 [.own 90 j],bX 20 B 24 [C],aX 90 j 56 3<|List.map Ag.row E]:AL)
@[reducible] def Lb j l:=([bX 2 j 24 [l]]:AL)
@[reducible] def R8 l m q w A B j C:=([(0,some l),bX 2 m 24 [q],bX 3 w 3 [rI A],bX 7 B 26 [.own 90 j],aX 90 j 56 3<|List.map Ag.row C]:AL)
@[reducible] def U1 m q w A j B l C E:=([(0,some m),bX 1 q 24 [w],bX 5 A 30 [.own 3050 j],bX 6 B 80 [.mref 19 l],(19,some<|.md l C),(3050,some<|.rr j 60 3 1 3 1 none<|List.map Ae.row E)]:AL)
@[reducible] def VU j l m q:=([(3050,some<|.rr j 60 3 1 3 1 (some (l,23050,m))<|List.map Ae.row q)]:AL)
@[reducible] def qM w A q l B j m C:=([(5,pT 5 w),(6,pT 6 A),(7,rI q),(12,rI l),(59,.mref 19 B),(60,rI q),(61,rI l),(62,.own 3050 j),(63,rI l),(64,.own 3050 j),(65,rI l),(66,.ptr 3050 j m 0),(67,.ptr 3050 j m 1),(69,rI q),(70,.own 70 C),(72,.ptr 3050 j m 0),(73,.ptr 3050 j m 1)]:Aa)
@[reducible] def Nl j l m q:=([bX 1 j 44<|A8 l,aX 5003 m 3 1 q]:AL)
@[reducible] def OW j l m q:=([bX 3 j 91<|Cp l,aX 5005 m 91 2<|List.map AH.row q]:AL)
@[reducible] def Rn j l:=([aX 5008 j 91 2<|List.map AH.row l]:AL)
@[reducible] def LQ j l m q:=([aX 5004 j 133 4<|List.map AC.row l,aX 5005 m 133 4<|List.map AC.row q]:AL)
@[reducible] def Uj j l m q w A:=([bX 7 j 175<|CV l,aX 5004 m 133 4<|List.map AC.row q,aX 5005 w 133 4<|List.map AC.row A]:AL)
@[reducible] def Tk j l:=([aX 7918 j 133 4<|List.map AC.row l]:AL)
@[reducible] def EO j l:=([aX 1000 j 47 3<|List.map Aj.row l]:AL)
@[reducible] def MN j l m q w A B C:=([bX 3 j 24 [l],bX 4 m 47<|H6 q,bX 7 w 44<|A8 A,aX 1000 B 47 3<|List.map Aj.row C]:AL)
@[reducible] def Hn j l:=([(1000,some<|.rr j 60 3 1 3 1 none<|List.map Ae.row l)]:AL)
@[reducible] def RG j l m q:=([bX 3 j 44<|A8 l,(1000,some<|.rr m 60 3 1 3 1 none<|List.map Ae.row q)]:AL)
@[reducible] def Q8 j l:=([bX 3 j 44<|A8 l]:AL)
@[reducible] def W6 l m q w j A B:=([bX 3 l 44<|A8 m,(1000,some<|.rr q 60 3 1 3 1 (some (w,21000,j))<|List.map Ae.row A),aX 21000 j 3 1 B]:AL)
@[reducible] def R4 j l m q w A:=([bX 2 j 24 [l],aX 5010 m 56 3<|List.map Ag.row q,(7011,some<|.rr w 60 3 1 3 1 none<|List.map Ae.row A)]:AL)
@[reducible] def W4 j l:=([(7011,some<|.rr j 60 3 1 3 1 none<|List.map Ae.row l)]:AL)
@[reducible] def U0 j l m q w A B C:=([bX 2 j 24 [l],bX 14 m 44<|A8 q,aX 5010 w 56 3<|List.map Ag.row A,(7011,some<|.rr B 60 3 1 3 1 none<|List.map Ae.row C)]:AL)
set_option maxHeartbeats 4000000 in
set_option maxRecDepth 100000 in
theorem YX{r}(h:X2=some r):AY prog 42 [] (rB r):=by
 unfold X2 at h
 cases h
 exact AY.runX [] (λp hp=>by cases hp) [] [] 40 1000000 BP func42 R R R<|by kernel_rfl
set_option maxHeartbeats 4000000 in
set_option maxRecDepth 100000 in
theorem ui{r}(h:gH=some r):AY prog 18 [] (rB r):=by
 unfold gH at h
 cases h
 exact AY.runX [(42,true)] (λp hp=>by simp only[yD,List.not_mem_nil,or_false] at hp;subst hp;exact YX rfl) [] [44,71] 40 1000000 BP func18 rfl rfl rfl<|by kernel_rfl
set_option maxHeartbeats 4000000 in
set_option maxRecDepth 100000 in
theorem pj{r}(h:S5=some r):AY prog 4 [] (rB r):=by
 unfold S5 at h
 cases h
 exact wV (lH (fid:=27) λn r h=>AY.itoaS (g:=XN) YR rfl (by kernel_rfl) rfl ⟨_,func27,rfl,rfl⟩ h) [(42,true),(18,true)] (λp hp=>by simp only[yD,List.not_mem_nil,or_false] at hp;rcases hp with rfl | rfl<;>first | exact YX rfl | exact ui rfl) [] [44,71] 40 1000000 BP func4 rfl rfl rfl<|by kernel_rfl
theorem Xz{j r}(h:NF j=some r):AY prog 161 [rS j] (rB r):=by
 unfold NF at h
 refine mF func161 ntmps161 R λn0=>aU<|AG R<|aT λC2=>AK R<|sQ R (EM R iL iL)<|mM R<|vM R<|vQ R (Df R underlying9<|iR R)<|vQ R (Bd R (iR R) iL)<|xO R<|mM R<|vM R<|AE h λa0 l h1=>vQ R (Ce R underlying9 (iR R) iL<|Af l)<|vQ R (B6 R (iR R) iL)<|xO R<|mM R<|vM R<|AE h1 λa1 m h2=>vQ R (Ce R underlying9 (iR R) iL<|Af m)<|vQ R (Bd R (iR R) iL)<|xO R<|aZ<|cI R h2 (λB=>?_) λB=>?_
 .exact zB B R id
 refine Zc<|C2 _<|aS λK5 C5 C=>aT λC6=>aF [0] ?_
 refine Ah R<|sQ R (Df R underlying9 iL)<|mM R<|aZ<|C6 _<|Zg<|BU B λo1 q E F=>?_
 have J1:∀(X:Unit) (Z:NN),o1=.nrm X->K5 ⟨[],[],(Z 0),53⟩:=by
  intro X Z e
  have h4:=E _ e
  exact C5 _<|zB h4 R id
 refine Zv (λ(I:Int) A=>⟨[(0,rS j),(23,rL j),(24,rI I)],[],(A 0),53⟩) (AI [n0]) q wk ?_
 intro I A v1 J w
 have h5:NY j I=some v1:=J;unfold NY at h5
 refine aU<|xS R<|Ar λC9=>cI R h5 (λM=>?_) λM=>?_
 .refine Zc<|C9 _<|aT λO=>Zg<|AK R<|AG R<|AK R<|mM R<|AE M λc1 T h7=>sQ R (Ce R underlying9 iL iL λ_=>T)<|AG R<|AK R<|xS R<|mM R<|vM R<|vQ R (Bd R (iR R) iL)<|xO R<|mM R<|vM R<|vQ R (B6 R (iR R) iL)<|vQ R (AM R<|iR R)<|wQ R (AM R iL)<|wQ R (Bd R (iR R) iL)<|vQ R (CS R (iR R)<|iR R)<|xN R<|mM R<|vM R<|vQ R (Cm R (iR R) iL)<|xN R<|mM R<|vM R<|vQ R (Cm R (iR R) iL)<|xN R<|aZ<|cI R h7 (λU=>?_) λU=>?_
  .exact zB (F _<|xH w U) R id
  refine Zc<|O _<|aF [0,23,24] ?_
  exact aR<|AE U λx4 V h9=>xA R V<|mM R<|Zh<|Zr h9 (AI [(A 0)]) wk
 exact Zm<|C _ _ wk<|J1 _ (AI [(A 0)])<|xH w M
theorem Zl{l r}(h:MY l=some r):AY prog 34 [rS l] (rB r):=by
 unfold MY at h
 refine mF func34 ntmps34 R λZ=>aU<|AG R<|aT λc2=>AK R<|sQ R (EM R iL iL)<|mM R<|vM R<|vQ R (Df R underlying9<|iR R)<|vQ R (Bd R (iR R) iL)<|xO R<|aZ<|cI R h (λA=>?_) λA=>?_
 .exact zB A R id
 refine Zc<|c2 _<|aS λK5 c5 B=>AK R<|sQ R (Df R underlying9 iL)<|mM R<|aZ<|Zg<|BU A λo1 m C E=>?_
 have J1:∀(U:Unit) (V:NN),o1=.nrm U->K5 ⟨[],[],(V 0),27⟩:=by
  intro U V e
  have h2:=C _ e
  exact c5 _<|zB h2 R id
 refine Zv (λ(F:Int) w=>⟨[(0,rS l),(12,rL l),(13,rI F)],[],(w 0),27⟩) (AI [Z]) m wk ?_
 intro F w v1 I q
 have X:QF l F=some v1:=I;unfold QF at X
 refine aU<|xS R<|Ar λc9=>cI R X (λJ=>?_) λJ=>?_
 .refine Zc<|c9 _<|aT λM=>Zg<|AK R<|AG R<|AK R<|mM R<|AE J λa0 j h5=>sQ R (Ce R underlying9 iL iL λ_=>j)<|xS R<|mM R<|vM R<|vM R<|vQ R (Ce R underlying9 (iR R) (iR R) λ_=>j)<|vQ R (Bd R (iR R) iL)<|xO R<|aZ<|cI R h5 (λO=>?_) λO=>?_
  .exact zB (E _<|xH q O) R id
  refine Zc<|M _<|aF [0,12,13] ?_
  exact aR<|AE O λx4 T h7=>xA R T<|mM R<|Zh<|Zr h7 (AI [(w 0)]) wk
 exact Zm<|B _ _ wk<|J1 _ (AI [(w 0)])<|xH q J
theorem vY{q b r}(h:OJ q b=some r):AY prog 122 [qa q,rB b] (rI r):=by
 unfold OJ at h
 refine mF func122 ntmps122 R λn0=>aU<|AG R<|aS λK2 c2 C=>AK R<|xL BK R<|mM R<|aZ<|Zg<|BU h λo1 w E l=>?_
 have J1:∀(u2:Unit) (i5:NN),o1=.nrm u2->K2 ⟨[],[],(i5 0),48⟩:=by
  intro u2 i5 e
  have h1:=E _ e
  exact c2 _<|zI h1 R id
 refine Zv (λ(F:Int) A=>⟨[(0,qa q),(1,rB b),(7,qa q),(8,rL q),(9,rI F)],[],(A 0),48⟩) (AI [n0]) w wk ?_
 intro F A v1 I j
 have h2:Mq q b F=some v1:=I;unfold Mq at h2
 refine aU<|xS R<|Ar λc6=>cI R h2 (λJ=>?_) λJ=>?_
 .refine Zc<|c6 _<|aT λc7=>Zg<|AK R<|AE J λB M h4=>xI BK R M<|xB ((Cp B)) E3 R<|sS R (BT (cs:=[.r<|.str [],.r<|.str []]) 6 R Yh R R)<|mA R<|Zk R R (BF (ds:=(Cp B)) R Xv iL R iL R R R R)<|aZ<|Zg<|aU<|lF Ep BO R R<|AE h4 λr1 O h5=>cL (Xz<|O) R<|sQ R (BC R iL)<|AG R<|cI R h5 (λT=>?_) λT=>?_
  .exact zI (l _<|xH j T) R id
  refine aT λU=>aG [0,1,5,6,7,8,9] [6] ?_
  refine aR<|lF Jd BO R R<|AE T λr2 V h7=>cL (Zl<|V) R<|sQ R (BC R iL)<|mM R<|vM R<|vQ R (AM R<|iR R)<|wQ R (fB R Jd iL fR R)<|wQ R (Ab (a:=rS B.Value) R BO (iR R) R R)<|wQ R (EM R (iR R) iL)<|vQ R (BZ R (iR R)<|iR R)<|vQ R (BC R<|iR R)<|xN R<|AG R<|U _<|cI R h7 (λX=>?_) λX=>?_
  .exact zI (l _<|xH j X) R id
  refine aT λZ=>?_
  refine Zz BP (by kernel_rfl) ?_
  refine qP R (AM R iL)<|qP R (Bd R iL iL)<|qP R (AM R iL)<|qO R (fB R Ep iL fR R)<|qO R (Ab (a:=rS B.Name) R BO (iR R) R R)<|qO R (AM R iL)<|qO R (AM R iL)<|AE X λx5 a0 h9=>qO R (CJ R (iR R) iL<|Af a0)<|AE h9 λx6 a1 a2=>qO R (BN R BK.slice (iR R) (iR R) (λ_=>R)<|Af a1)<|qO R (BL R Ep<|iR R)<|qO R (Bm (d:=.str x6.Name) R BO (iR R) R)<|qO R (ZL R (iR R)<|iR R)<|qP R (BZ R iL<|iR R)<|qP R (EL R iL)<|AQ.nil<|Z _<|cI R a2 (λm=>?_) λm=>?_
  .exact zI (l _<|xH j m) R id
  refine Zc<|c7 _<|aF [0,1,7,8,9] ?_
  exact aR<|AE m λx7 a6 a7=>xA R a6<|mM R<|Zh<|Zr a7 (AI [((A 0)+1)]) wk
 exact Zm<|C _ _ wk<|J1 _ (AI [(A 0)])<|xH j J
theorem Wp{l r}(h:JN l=some r):AY prog 90 [qa l] (rI r):=by
 unfold JN at h
 exact mF func90 ntmps90 R λq=>aU<|AG R<|AK R<|AE h λw j m=>cL (vY<|j) R<|AG R<|Zj<|yI m R
theorem VN{k r}(h:FJ k=some r):AY prog 22 [rI k] (rB r):=by
 unfold FJ at h
 exact mF func22 ntmps22 R λj=>aU<|AG R<|AK R<|xQ R<|mM R<|vM R<|vQ R (BB R (iR R) iL)<|xO R<|mM R<|vM R<|vQ R (BB R (iR R) iL)<|xO R<|mM R<|vM R<|vQ R (BB R (iR R) iL)<|xO R<|AG R<|Zj<|yB h R
theorem mw{k r}(h:HW k=some r):AY prog 91 [rI k] (rB r):=by
 unfold HW at h
 exact mF func91 ntmps91 R λj=>aU<|AG R<|AK R<|xQ R<|mM R<|vM R<|vQ R (BB R (iR R) iL)<|xO R<|AG R<|Zj<|yB h R
theorem sh{k r}(h:GM k=some r):AY prog 92 [rI k] (rB r):=by
 unfold GM at h
 exact mF func92 ntmps92 R λj=>aU<|AG R<|AK R<|xQ R<|mM R<|vM R<|vQ R (BB R (iR R) iL)<|xO R<|AG R<|Zj<|yB h R
theorem tE{s a r}(h:OS s a=some r):AY prog 136 [qd s,qd a] (rB r):=by
 unfold OS at h
 refine mF func136 ntmps136 R λn0=>aU<|AG R<|aT λc2=>AK R<|xL DW R<|mM R<|xL DW R<|xU R<|aZ<|cI R h (λq=>?_) λq=>?_
 .exact zB q R id
 refine Zc<|c2 _<|aS λK5 c5 w=>AK R<|xL DW R<|mM R<|aZ<|Zg<|BU q λo1 j A B=>?_
 have J1:∀(V:Unit) (X:NN),o1=.nrm V->K5 ⟨[],[],(X 0),26⟩:=by
  intro V X e
  have h2:=A _ e
  exact c5 _<|zB h2 R id
 refine Zv (λ(C:Int) m=>⟨[(0,qd s),(1,qd a),(12,rL s),(13,rI C)],[],(m 0),26⟩) (AI [n0]) j wk ?_
 intro C m v1 E l
 have Z:SK s a C=some v1:=E;unfold SK at Z
 refine aU<|xS R<|Ar λc9=>cI R Z (λF=>?_) λF=>?_
 .refine Zc<|c9 _<|aT λI=>Zg<|AK R<|AG R<|aT λJ=>?_
  refine Zz BP (by kernel_rfl) ?_
  refine qP R (AM R iL)<|qP R (AM R iL)<|AE F λx4 M h5=>qP R (BN R DW.slice iL iL (λ_=>R) λ_=>M)<|qP R (EB (cs:=(BY x4)) R Dh iL R R)<|qP R (AM R iL)<|qP R (AM R iL)<|AE h5 λx5 O h6=>qP R (BN R DW.slice iL iL (λ_=>R) λ_=>O)<|qP R (EB (cs:=(BY x5)) R Dh iL R R)<|qP R (U8 R n9 iL iL R)<|AQ.nil<|J _<|cI R h6 (λT=>?_) λT=>?_
  .exact zB (B _<|xH l T) R id
  refine Zc<|I _<|aF [0,1,12,13] ?_
  exact aR<|AE T λx6 U h8=>xA R U<|mM R<|Zh<|Zr h8 (AI [(m 0)]) wk
 exact Zm<|w _ _ wk<|J1 _ (AI [(m 0)])<|xH l F
theorem vl{j q r}(h:PJ j q=some r):AY prog 124 [qa j,qa q] (rB r):=by
 unfold PJ at h
 refine mF func124 ntmps124 R λn0=>aU<|AG R<|aT λc2=>AK R<|xL BK R<|mM R<|xL BK R<|xU R<|aZ<|cI R h (λA=>?_) λA=>?_
 .exact zB A R id
 refine Zc<|c2 _<|aS λK5 c5 B=>AK R<|xL BK R<|mM R<|aZ<|Zg<|BU A λo1 l C E=>?_
 have J1:∀(Z:Unit) (i5:NN),o1=.nrm Z->K5 ⟨[],[],(i5 0),26⟩:=by
  intro Z i5 e
  have h2:=C _ e
  exact c5 _<|zB h2 R id
 refine Zv (λ(F:Int) w=>⟨[(0,qa j),(1,qa q),(12,rL j),(13,rI F)],[],(w 0),26⟩) (AI [n0]) l wk ?_
 intro F w v1 I m
 have h3:PK j q F=some v1:=I;unfold PK at h3
 refine aU<|xS R<|Ar λc9=>cI R h3 (λJ=>?_) λJ=>?_
 .refine Zc<|c9 _<|aT λM=>Zg<|AK R<|AG R<|aT λO=>?_
  refine Zz BP (by kernel_rfl) ?_
  refine qP R (AM R iL)<|qP R (AM R iL)<|AE J λx4 T h5=>qP R (BN R BK.slice iL iL (λ_=>R) λ_=>T)<|qP R (EB (cs:=(Cp x4)) R E3 iL R R)<|qP R (AM R iL)<|qP R (AM R iL)<|AE h5 λx5 U h6=>qP R (BN R BK.slice iL iL (λ_=>R) λ_=>U)<|qP R (EB (cs:=(Cp x5)) R E3 iL R R)<|qP R (U8 R qw iL iL R)<|AQ.nil<|O _<|cI R h6 (λV=>?_) λV=>?_
  .exact zB (E _<|xH m V) R id
  refine Zc<|M _<|aF [0,1,12,13] ?_
  exact aR<|AE V λx6 X h8=>xA R X<|mM R<|Zh<|Zr h8 (AI [(w 0)]) wk
 exact Zm<|B _ _ wk<|J1 _ (AI [(w 0)])<|xH m J
theorem vB{j l r}(h:O0 j l=some r):AY prog 138 [.agg<|B2 j,.agg<|B2 l] (rB r):=by
 unfold O0 at h
 exact mF func138 ntmps138 R λA=>aU<|sS R (BD (cs:=(B2 j)) 2 R iL R R)<|sS R (BD (cs:=(B2 l)) 3 R iL R R)<|AG R<|aT λq=>aR<|lF FU AJ R R<|lF FU AJ R R<|xQ R<|mM R<|vF Ft AJ R R<|vF Ft AJ R R<|vQ R (BB R (iR R)<|iR R)<|xN R<|mM R<|vF JO BO R R<|vF JO BO R R<|vQ R (EM R (iR R)<|iR R)<|xN R<|mM R<|vF Ez AJ R R<|vF Ez AJ R R<|vQ R (BB R (iR R)<|iR R)<|xN R<|mM R<|vF Hb Cq R R<|vF Hb Cq R R<|AE h λB m w=>vL (λhg=>vl<|Af m hg) R<|xN R<|AG R<|q _<|Zj<|yB w R
theorem mx{s a r}(h:QB s a=some r):AY prog 137 [qc s,qc a,.fn 138 []] (rB r):=by
 unfold QB at h
 refine mF func137 ntmps137 R λn0=>aU<|AG R<|aT λc2=>AK R<|xL CD R<|mM R<|xL CD R<|xU R<|aZ<|cI R h (λq=>?_) λq=>?_
 .exact zB q R id
 refine Zc<|c2 _<|aS λK5 c5 w=>AK R<|xL CD R<|mM R<|aZ<|Zg<|BU q λo1 j A B=>?_
 have J1:∀(X:Unit) (Z:NN),o1=.nrm X->K5 ⟨[],[],(Z 0),32⟩:=by
  intro X Z e
  have h2:=A _ e
  exact c5 _<|zB h2 R id
 refine Zv (λ(C:Int) m=>⟨[(1,qc a),(2,.fn 138 []),(15,qc s),(16,rL s),(17,rI C)],[],(m 0),32⟩) (AI [n0]) j wk ?_
 intro C m v1 E l
 have h3:So s a C=some v1:=E;unfold So at h3
 refine aU<|xS R<|Ar λc9=>cI R h3 (λF=>?_) λF=>?_
 .refine Zc<|c9 _<|aT λI=>Zg<|AK R<|AE F λx4 J h5=>xI CD R J<|xB ((B2 x4)) FR R<|sS R (BT (cs:=Iz) 8 R IP R R)<|mA R<|Zk R R (BF (ds:=(B2 x4)) R Ih iL R iL R R R R)<|aZ<|AK R<|mM R<|AE h5 λx5 M h6=>xI CD R M<|xB ((B2 x5)) FR R<|sS R (BT (cs:=Iz) 9 R IP R R)<|Zk R R (BF (ds:=(B2 x5)) R Ih iL R iL R R R R)<|Ar λO=>aG [1,2,8,9,15,16,17] [8,9] ?_
  refine Ah R<|xC FR R<|xC FR R<|AE h6 λr1 T h7=>cL (vB<|T) R<|sQ R (BC R iL)<|aZ<|O _<|cI R h7 (λU=>?_) λU=>?_
  .exact zB (B _<|xH l U) R id
  exact Zc<|I _<|aR<|AE U λx6 V h9=>xA R V<|mM R<|Zh<|Zr h9 (AI [((m 0)+2)]) wk
 exact Zm<|w _ _ wk<|J1 _ (AI [(m 0)])<|xH l F
theorem vA{j l r}(h:MS j l=some r):AY prog 93 [.agg<|CY j,.agg<|CY l] (rB r):=by
 unfold MS at h
 exact mF func93 ntmps93 R λC=>aU<|sS R (BD (cs:=(CY j)) 2 R iL R R)<|sS R (BD (cs:=(CY l)) 3 R iL R R)<|AG R<|aU<|lF HZ AJ R R<|lF HZ AJ R R<|xQ R<|mM R<|vF Hg AJ R R<|vF Hg AJ R R<|vQ R (BB R (iR R)<|iR R)<|xN R<|mM R<|vF Eg E6 R R<|vF Eg E6 R R<|AE h λE m w=>vL (λhg=>tE<|Af m hg) R<|xN R<|mM R<|vF EU Ek R R<|vF EU Ek R R<|AE w λA q B=>AN.stepW (.one R R R) R R (Db (r:=rB A) (caps:=[]) (bs:=[qc j.Cells,qc l.Cells,.fn 138 []]) R iL R ⟨⟨_,(iR R),.d R⟩,⟨_,(iR R),.d R⟩,⟨_,iL,.one<|.closed (.fn 138 []) R⟩,Za⟩ (λhg=>mx<|Af q hg) R)<|xN R<|AG R<|Zj<|yB B R
theorem VI{k r}(h:Hk k=some r):AY prog 94 [rI k] (rB r):=by
 unfold Hk at h
 exact mF func94 ntmps94 R λj=>aU<|AG R<|AK R<|xQ R<|mM R<|vM R<|vQ R (BB R (iR R) iL)<|xO R<|mM R<|vM R<|vQ R (BB R (iR R) iL)<|xO R<|AG R<|Zj<|yB h R
theorem Z1{j r}(h:Mi j=some r):AY prog 119 [rI j] (rB r):=by
 unfold Mi at h
 exact mF func119 ntmps119 R λl=>aU<|AG R<|AK R<|xQ R<|mM R<|vM R<|vQ R (BB R (iR R) iL)<|xO R<|mM R<|vM R<|vQ R (DE R (iR R) iL)<|vQ R (AM R<|iR R)<|wQ R (AM R iL)<|wQ R (B6 R (iR R) iL)<|vQ R (BZ R (iR R)<|iR R)<|xO R<|mM R<|vM R<|vQ R (DE R (iR R) iL)<|vQ R (AM R<|iR R)<|wQ R (AM R iL)<|wQ R (B6 R (iR R) iL)<|vQ R (BZ R (iR R)<|iR R)<|xO R<|mM R<|vM R<|vQ R (Bd R (iR R) iL)<|vQ R (AM R<|iR R)<|wQ R (AM R iL)<|wQ R (FA R (iR R) iL)<|vQ R (BZ R (iR R)<|iR R)<|xO R<|AG R<|Zj<|yB h R
theorem nl{l r}(h:O5 l=some r):AY prog 139 (Yd l) (rI r):=by
 unfold O5 at h
 refine mF func139 ntmps139 R λw=>aU<|sS R (BD (cs:=(Eh l)) 1 R iL R R)<|AG R<|aT λT=>Zg<|aU<|lF Hu AJ R R<|xU R<|lF EP AJ R R<|xU R<|sQ R (cB R underlying4 iL iL)<|AG R<|cI R h (λA=>?_) λA=>?_
 .exact zI A R id
 refine aS λU V m=>aT λX=>aG [1] [1] ?_
 refine aR<|lF EP AJ R R<|xQ R<|mM R<|vF Hu AJ R R<|AE A λr1 B Z=>vL (λhg=>Z1<|Af B hg) R<|vQ R (BC R<|iR R)<|xN R<|AG R<|X _<|Bb Z λp1 q C=>?_
 have M:∀(E:Bool) (O:NN),p1=E->U ⟨[(1,pT 1 w),(11,rB E)],[bX 1 w 51<|Eh l],(O 0),37⟩:=by
  intro E O e
  have h3:=C _ e
  refine V _<|cI R h3 (λF=>?_) λF=>?_
  .exact zI F R id
  exact Zc<|T _<|aU<|lF QS Cq R R<|AE F λr2 I h5=>cL (Wp<|I) R<|AG R<|Zj<|yI h5 R
 refine aC R (λj=>?_) λj=>?_
 .have J:=D2 j q
  exact Zc<|m _ _ wk<|M _ (AI [(w+1)]) (Zf J).symm
 .have J:=Dw j q
  refine aG [1] [1] ?_
  exact aR<|lF EP AJ R R<|xU R<|mM R<|vF EP AJ R R<|vQ R (B6 R (iR R) iL)<|vQ R (AM R<|iR R)<|wQ R (fB R EP iL fR R)<|wQ R (Ab (a:=rI l.Ref) R AJ (iR R) R R)<|wQ R (Bd R (iR R) iL)<|vQ R (CS R (iR R)<|iR R)<|xN R<|mA R<|Zh<|m _ _ wk<|M _ (AI [(w+1)]) (Zf J).symm
theorem qK{j a r}(h:H4 j a=some r):AY prog 95 [qe j,rB a] (rI r):=by
 unfold H4 at h
 refine mF func95 ntmps95 R λn0=>aU<|AG R<|aS λK2 c2 B=>AK R<|xL CN R<|mM R<|aZ<|Zg<|BU h λo1 q C w=>?_
 have J1:∀(u2:Unit) (i5:NN),o1=.nrm u2->K2 ⟨[(0,qe j),(1,rB a)],[],(i5 0),43⟩:=by
  intro u2 i5 e
  have h1:=C _ e
  refine c2 _<|aT λc4=>AK R<|mM R<|vM R<|vQ R (DA R CN.slice<|iR R)<|vQ R (BB R (iR R) iL)<|vQ R (AM R<|iR R)<|wQ R (AM R iL)<|wQ R (AM R iL)<|wQ R (DA R CN.slice<|iR R)<|AE h1 λx4 E h2=>wQ R (CJ R (iR R) iL<|Af E)<|AE h2 λx5 F h3=>wQ R (BN R CN.slice (iR R) (iR R) (λ_=>R)<|Af F)<|wQ R (BL R Hu<|iR R)<|wQ R (Bm (d:=.int .i64 x5.Char) R AJ (iR R) R)<|wQ R (Cm R (iR R) iL)<|vQ R (CS R (iR R)<|iR R)<|xN R<|aZ<|cI R h3 (λI=>?_) λI=>?_
  .exact zI I R id
  exact Zc<|c4 _<|zI I R id
 refine Zv (λ(J:Int) A=>⟨[(0,qe j),(1,rB a),(8,qe j),(9,rL j),(10,rI J)],[],(A 0),43⟩) (AI [n0]) q wk ?_
 intro J A v1 M l
 have h5:La j a J=some v1:=M;unfold La at h5
 refine aU<|xS R<|Ar λc9=>cI R h5 (λO=>?_) λO=>?_
 .refine Zc<|c9 _<|aT λT=>Zg<|aU<|AE O λx6 U h7=>xI CN R U<|xB ((Eh x6)) Kb R<|sS R (BT (cs:=QY) 6 R On R R)<|Zk R R (BF (ds:=(Eh x6)) R NR iL R iL R R R R)<|Ar λV=>aU<|xC Kb R<|AE h7 λe1 X h8=>cL (nl<|X) R<|AG R<|AK R<|xU R<|aZ<|cI R h8 (λZ=>?_) λZ=>?_
  .refine aT λa0=>aF [7] ?_
   exact Ah R<|AG R<|a0 _<|Zj<|yI (w _<|xH l Z) R
  refine Zc<|V _<|AK R<|sQ R (BC R iL)<|mM R<|vF EP AJ R R<|vQ R (BB R (iR R) iL)<|xN R<|aZ<|cI R Z (λm=>?_) λm=>?_
  .exact zI (w _<|xH l m) R id
  refine Zc<|T _<|aF [0,1,8,9,10] ?_
  exact aR<|AE m λx7 a1 a2=>xA R a1<|mM R<|Zh<|Zr a2 (AI [((A 0)+1)]) wk
 exact Zm<|B _ _ wk<|J1 _ (AI [(A 0)])<|xH l O
theorem pG{s1 r}(h:Qp s1=some r):AY prog 160 [rS s1] (.tup [.r<|.int .i32 r.1,rI r.2]):=by
 unfold Qp at h
 refine mF func160 ntmps160 R λn0=>aU<|mA R<|AG R<|AK R<|sQ R (Df R underlying9 iL)<|AG R<|aT λc3=>AK R<|xS R<|aZ<|cI R h (λE=>?_) λE=>?_
 .exact aU<|mA R<|AG R<|Zj<|EI (P:=prog) (λ(r:Int × Int)=>.r<|.int .i32 r.1) (λ(r:Int × Int)=>rI r.2) E iL (.t<|.d R)<|.t<|.d R
 refine Zc<|c3 _<|AK R<|AE E λag j h2=>sQ R (Ce R underlying9 iL iL λ_=>j)<|AG R<|aT λc7=>Ah R<|AE h2 λx1 F h3=>?_
 refine sQ R (eY (f:=(Ai .u8)) (l:=GH) R tG mf (by kernel_rfl) iL (λ_=>R) (by decide) λ_=>F) ?_
 refine xV (.int .u8 x1) V5 R<|AG R<|c7 _<|aT λc8=>aT λc9=>aF [0,4,5,6] ?_
 refine Ah R<|sQ R (DE R iL iL)<|aZ<|c9 _<|cI R h3 (λI=>?_) λI=>?_
 .refine AK R<|sQ R (D3 R underlying5 underlying21 iL)<|sQ R (KM (b:=31) R iL iL)<|sQ R (SQ (b:=31) R iL iL)<|AG R<|aT λJ=>aF [0,7] ?_
  exact Ah R<|sQ R (Ce R underlying9 iL iL λ_=>j)<|sQ R (D3 R underlying5 underlying21 iL)<|mM R<|sQ R (gM R iL iL)<|mM R<|sQ R (GV R iL iL)<|sQ R (KI R iL iL)<|mA R<|AG R<|J _<|Zj<|EI (P:=prog) (λ(r:Int × Int)=>.r<|.int .i32 r.1) (λ(r:Int × Int)=>rI r.2) I iL (.t<|.d R)<|.t<|.d R
 refine Zc<|c8 _<|AK R<|sQ R (GV R iL iL)<|sQ R (D3 R underlying5 underlying3 iL)<|AG R<|aT λM=>Ah R<|sQ R (SQ (b:=4) R iL iL)<|AE I λC O h5=>?_
 refine sQ R (eY (f:=Il.row) (l:=Sz) R py vJ (by kernel_rfl) iL (λ_=>R) (by decide) λ_=>O) ?_
 refine xB ([.r<|.int .u8 C.lo,.r<|.int .u8 C.hi]) u7 R<|sS R (BT (cs:=[.r<|.int .u8 0,.r<|.int .u8 0]) 9 R vq R R)<|Zk R R (BF (ds:=[.r<|.int .u8 C.lo,.r<|.int .u8 C.hi]) R mT iL R iL R R R R)<|aZ<|M _<|aT λT=>aT λU=>aG [0,4,5,8,9] [9] ?_
 refine Ah R<|mM R<|xS R<|aZ<|U _<|cI R h5 (λV=>?_) λV=>?_
 .exact aU<|mA R<|AG R<|Zj<|EI (P:=prog) (λ(r:Int × Int)=>.r<|.int .i32 r.1) (λ(r:Int × Int)=>rI r.2) V iL (.t<|.d R)<|.t<|.d R
 refine Zc<|T _<|AK R<|AE V λah w h7=>sQ R (Ce R underlying9 iL iL λ_=>w)<|AG R<|aT λX=>AK R<|lF vO V5 R R<|xS R<|mM R<|vF lE V5 R R<|vM R<|vQ R (B6 R (iR R)<|iR R)<|xO R<|aZ<|cI R h7 (λZ=>?_) λZ=>?_
 .refine aT λa0=>aF [] ?_
  exact aR<|mA R<|AG R<|a0 _<|Zj<|EI (P:=prog) (λ(r:Int × Int)=>.r<|.int .i32 r.1) (λ(r:Int × Int)=>rI r.2) Z iL (.t<|.d R)<|.t<|.d R
 refine Zc<|X _<|aT λa1=>aT λa2=>aF [0,5,8,10] ?_
 refine Ah R<|sQ R (FA R iL iL)<|aZ<|a2 _<|cI R Z (λh9=>?_) λh9=>?_
 .exact AK R<|sQ R (GV R iL iL)<|sQ R (D3 R underlying5 underlying21 iL)<|sQ R (KM (b:=6) R iL iL)<|mM R<|sQ R (GV R iL iL)<|sQ R (D3 R underlying5 underlying21 iL)<|sQ R (KI R iL iL)<|mA R<|AG R<|Zj<|EI (P:=prog) (λ(r:Int × Int)=>.r<|.int .i32 r.1) (λ(r:Int × Int)=>rI r.2) h9 iL (.t<|.d R)<|.t<|.d R
 refine Zc<|a1 _<|AK R<|AE h9 λai A a6=>sQ R (Ce R underlying9 iL iL λ_=>A)<|AG R<|aT λa7=>AK R<|xS R<|mM R<|vM R<|vQ R (B6 R iL<|iR R)<|xO R<|aZ<|cI R a6 (λl=>?_) λl=>?_
 .refine aT λa8=>aF [] ?_
  exact aR<|mA R<|AG R<|a8 _<|Zj<|EI (P:=prog) (λ(r:Int × Int)=>.r<|.int .i32 r.1) (λ(r:Int × Int)=>rI r.2) l iL (.t<|.d R)<|.t<|.d R
 refine Zc<|a7 _<|aT λaa=>aT λab=>aF [0,5,8,10,11] ?_
 refine Ah R<|sQ R (FA R iL iL)<|aZ<|ab _<|cI R l (λm=>?_) λm=>?_
 .exact AK R<|sQ R (GV R iL iL)<|sQ R (D3 R underlying5 underlying21 iL)<|sQ R (KM (b:=12) R iL iL)<|mM R<|sQ R (GV R iL iL)<|sQ R (D3 R underlying5 underlying21 iL)<|sQ R (KM (b:=6) R iL iL)<|sQ R (KI R iL iL)<|mM R<|sQ R (GV R iL iL)<|sQ R (D3 R underlying5 underlying21 iL)<|sQ R (KI R iL iL)<|mA R<|AG R<|Zj<|EI (P:=prog) (λ(r:Int × Int)=>.r<|.int .i32 r.1) (λ(r:Int × Int)=>rI r.2) m iL (.t<|.d R)<|.t<|.d R
 refine Zc<|aa _<|AK R<|AE m λaj B ac=>sQ R (Ce R underlying9 iL iL λ_=>B)<|AG R<|aT λad=>AK R<|xS R<|mM R<|vM R<|vQ R (B6 R iL<|iR R)<|xO R<|aZ<|cI R ac (λq=>?_) λq=>?_
 .refine aT λae=>aF [] ?_
  exact aR<|mA R<|AG R<|ae _<|Zj<|EI (P:=prog) (λ(r:Int × Int)=>.r<|.int .i32 r.1) (λ(r:Int × Int)=>rI r.2) q iL (.t<|.d R)<|.t<|.d R
 refine Zc<|ad _<|aT λaf=>aF [5,10,11,12] ?_
 exact Ah R<|sQ R (GV R iL iL)<|sQ R (D3 R underlying5 underlying21 iL)<|sQ R (KM (b:=18) R iL iL)<|mM R<|sQ R (GV R iL iL)<|sQ R (D3 R underlying5 underlying21 iL)<|sQ R (KM (b:=12) R iL iL)<|sQ R (KI R iL iL)<|mM R<|sQ R (GV R iL iL)<|sQ R (D3 R underlying5 underlying21 iL)<|sQ R (KM (b:=6) R iL iL)<|sQ R (KI R iL iL)<|mM R<|sQ R (GV R iL iL)<|sQ R (D3 R underlying5 underlying21 iL)<|sQ R (KI R iL iL)<|mA R<|AG R<|af _<|Zj<|EI (P:=prog) (λ(r:Int × Int)=>.r<|.int .i32 r.1) (λ(r:Int × Int)=>rI r.2) q iL (.t<|.d R)<|.t<|.d R
theorem ls{w r}(h:Px w=some r):AY prog 118 [rS w] (.tup [.r<|.int .i32 r.1,rI r.2]):=by
 unfold Px at h
 refine mF func118 ntmps118 R λM=>aU<|mA R<|AG R<|aT λA=>AK R<|sQ R (D7 R iL iL)<|mM R<|vM R<|AE h λB j C=>vQ R (Ce R underlying9 (iR R) iL<|Af j)<|vQ R (B6 R (iR R) iL)<|xN R<|aZ<|cI R C (λm=>?_) λm=>?_
 .refine aT λE=>aF [0] ?_
  exact Ah R<|AE m λF l I=>sQ R (Ce R underlying9 iL iL λ_=>l)<|sQ R (D3 R underlying5 underlying21 iL)<|mA R<|AG R<|E _<|Zj<|EI (P:=prog) (λ(r:Int × Int)=>.r<|.int .i32 r.1) (λ(r:Int × Int)=>rI r.2) I iL (.t<|.d R)<|.t<|.d R
 refine aF [0] ?_
 exact Ah R<|FD m λO T q J=>cL (pG<|q) R<|mM R<|xX R<|xX R<|mA R<|AG R<|A _<|Zj<|EI (P:=prog) (λ(r:Int × Int)=>.r<|.int .i32 r.1) (λ(r:Int × Int)=>rI r.2) J iL (.t<|.d R)<|.t<|.d R
theorem o6{O r}(h:Oz O=some r):AY prog 187 [rS O] (rB r):=by
 unfold Oz at h
 refine mF func187 ntmps187 R λX=>aU<|AG R<|aS λZ c2 q=>Zg<|BU h λo1 j w A=>?_
 have J1:∀(T:Unit) (U:NN),o1=.nrm T->Z ⟨[],[],(U 0),31⟩:=by
  intro T U e
  have h1:=w _ e
  exact c2 _<|zB h1 R id
 refine Zv (λ(B:List UInt8) m=>⟨[(0,rS B)],[],(m 0),31⟩) (AI [X]) j wk ?_
 intro B m v1 C l
 have V:G5 B=some v1:=C;unfold G5 at V
 refine aT λc4=>AK R<|sQ R (D7 R iL iL)<|aZ<|cI R V (λE=>?_) λE=>?_
 .refine Zc<|c4 _<|Zg<|AK R<|FD E λr1 r2 F h4=>cL (ls<|F) R<|mM R<|xX R<|xX R<|mA R<|AG R<|aT λc7=>AK R<|xQ R<|mM R<|vM R<|vQ R (BB R (iR R) iL)<|xN R<|mM R<|vM R<|vQ R (BB R (iR R) iL)<|xO R<|mM R<|vM R<|vQ R (D3 R underlying21 underlying3<|iR R)<|AE h4 λr3 I h5=>vL (λhg=>Z1<|Af I hg) R<|vQ R (BC R<|iR R)<|xO R<|aZ<|cI R h5 (λJ=>?_) λJ=>?_
  .exact zB (A _<|xH l J) R id
  refine Zc<|c7 _<|aF [0,4] ?_
  refine Ah R<|mM R<|AE J λs5 M h7=>?_
  refine sQ R (fp R underlying9 iL (by exact⟨_,iL⟩) (by exact R) λ_=>M) ?_
  exact mA R<|Zh<|Zr h7 (AI [(m 0)]) wk
 exact Zm<|q _ _ wk<|J1 _ (AI [(m 0)])<|xH l E
theorem uU{j r}(h:Qq j=some r):AY prog 188 (gC j) (rB r):=by
 unfold Qq at h
 exact mF func188 ntmps188 R λl=>aU<|sS R (BD (cs:=(B2 j)) 1 R iL R R)<|AG R<|aU<|lF JO BO R R<|sQ R (EM R iL iL)<|mM R<|vF Ez AJ R R<|vQ R (BB R (iR R) iL)<|xN R<|mM R<|vF Hb Cq R R<|vQ R (DA R BK.slice<|iR R)<|vQ R (BB R (iR R) iL)<|xN R<|AG R<|Zj<|yB h R
theorem gG{j r}(h:Mc j=some r):AY prog 229 [rI j] (rB r):=by
 unfold Mc at h
 exact mF func229 ntmps229 R λl=>aU<|AG R<|AK R<|mM R<|xU R<|AG R<|Zj<|yB h R
theorem Ni{O T r}(h:GK O T=some r):AY prog 185 [rI O,rI T] (rI r):=by
 unfold GK at h
 refine mF func185 ntmps185 R λn0=>aU<|AG R<|AK R<|AE h λm j U=>cL (gG<|j) R<|AG R<|AK R<|AE U λq l V=>cL (gG<|l) R<|AG R<|aT λX=>AK R<|aZ<|cI R V (λw=>?_) λw=>?_
 .refine aT λZ=>aT λc7=>aF [6] ?_
  refine Ah R<|aZ<|c7 _<|cI R w (λA=>?_) λA=>?_
  .exact zI A R id
  exact Zc<|Z _<|zI A R id
 refine Zc<|X _<|aT λB=>AK R<|aZ<|cI R w (λC=>?_) λC=>?_
 .exact zI C R id
 refine Zc<|B _<|aT λE=>aT λF=>aF [0,1] ?_
 refine Ah R<|mM R<|xS R<|aZ<|F _<|cI R C (λI=>?_) λI=>?_
 .exact zI I R id
 refine Zc<|E _<|aT λJ=>AK R<|mM R<|sQ R (Bd R iL iL)<|aZ<|cI R I (λM=>?_) λM=>?_
 .exact zI M R id
 exact Zc<|J _<|zI M R id
theorem XK{v r}(h:IY v=some r):AY prog 183 [.r<|.sl<|v.map<|Ai .i64] (rI r):=by
 unfold IY at h
 refine mF func183 ntmps183 R λV=>aU<|AG R<|aU<|AG R<|aS λX Z q=>AK R<|xL Bo R<|mM R<|aZ<|Zg<|BU h λo1 j w A=>?_
 have J1:∀(O:Unit) (T:NN),o1=.nrm O->X ⟨[(3,rI 0)],[],(T 0),18⟩:=by
  intro O T e
  have h1:=w _ e
  exact Z _<|AK R<|AG R<|Zj<|yI h1 R
 refine Zv (λ(B:Int) m=>⟨[(3,rI 0),(6,.r<|.sl<|v.map<|Ai .i64),(7,rL v),(8,rI B)],[],(m 0),18⟩) (AI [V]) j wk ?_
 intro B m v1 C l
 have U:FF v B=some v1:=C;unfold FF at U
 refine aU<|xS R<|Ar λc7=>cI R U (λE=>?_) λE=>?_
 .refine Zc<|c7 _<|aT λc8=>Zg<|aU<|AE E λx4 F h4=>xI Bo R F<|xV (.int .i64 x4) AJ R<|AG R<|AK R<|mM R<|xU R<|aZ<|cI R h4 (λI=>?_) λI=>?_
  .refine aT λJ=>aF [5] ?_
   exact Ah R<|AG R<|J _<|Zj<|yI (A _<|xH l I) R
  exact Zc<|c8 _<|aR<|AE I λx5 M h6=>xA R M<|mM R<|Zh<|Zr h6 (AI [(m 0)]) wk
 exact Zm<|q _ _ wk<|J1 _ (AI [(m 0)])<|xH l E
theorem tH{l m r}(h:Mw l m=some r):AY prog 189 [.agg<|B2 l,.agg<|B2 m] (rI r):=by
 unfold Mw at h
 refine mF func189 ntmps189 R λj=>aU<|sS R (BD (cs:=(B2 l)) 2 R iL R R)<|sS R (BD (cs:=(B2 m)) 3 R iL R R)<|AG R<|aT λC=>AE h λq w E=>?_
 refine rP 9 [pO 5<|pT 2 j,pO 6<|rI l.Row,pO 7<|pT 3<|j+1,pO 8<|rI m.Row,pO 9<|rI q,pO 10<|.ptr 2 j 0 1,pO 11<|rI l.Col,pO 12<|.ptr 3 (j+1) 0 1,pO 13<|rI m.Col] BP R (by exact⟨oB [(2,pT 2 j)] (RM j l)<|fB R FU (.inl R) (λ_=>R) R,oB [(5,pT 2 j)] (RM j l)<|Ab (a:=rI l.Row) R AJ (.inl R) R R,oB [(3,pT 3<|j+1)] (Sq (j+1) m)<|fB R FU (.inl R) (λ_=>R) R,oB [(7,pT 3<|j+1)] (Sq (j+1) m)<|Ab (a:=rI m.Row) R AJ (.inl R) R R,oD (λ_=>[(6,rI l.Row),(8,rI m.Row)]) (λ_=>[]) λF e O n=>Db (r:=rI q) (caps:=[]) (bs:=[rI l.Row,rI m.Row]) R (.inl R) R ⟨⟨_,(.inl R),.d R⟩,⟨_,(.inl R),.d R⟩,Za⟩ (λ_=>Ni<|w) R,oB [(2,pT 2 j)] (RM j l)<|fB R Ft (.inl R) (λ_=>R) R,oB [(10,.ptr 2 j 0 1)] (RM j l)<|Ab (a:=rI l.Col) R AJ (.inl R) R R,oB [(3,pT 3<|j+1)] (Sq (j+1) m)<|fB R Ft (.inl R) (λ_=>R) R,oB [(12,.ptr 3 (j+1) 0 1)] (Sq (j+1) m)<|Ab (a:=rI m.Col) R AJ (.inl R) R R,Za⟩) λF T=>?_
 refine Bi [0,1,2,3,4,5,6,7,8,9,10,11,12,13] [2,3] ?_
 exact AE E λI A J=>cL (Ni<|A) R<|sS R (CA 15 R Bo (f:=(Ai .i64)) (l:=([q,I]:List Int)) ⟨R,⟨_,iL,R⟩,R,⟨_,iL,R⟩,Za⟩ R (λ_=>R) R)<|AE J λU B M=>cL (XK<|B) R<|AG R<|C _<|Zj<|yI M R
theorem nK{C a c n r}(h:Oq C a c n=some r):AY prog 140 [qc C,rI a,rI c,rB n] (rI r):=by
 unfold Oq at h
 refine mF func140 ntmps140 R λn0=>aU<|AG R<|aS λK2 c2 I=>AK R<|xL CD R<|mM R<|aZ<|Zg<|BU h λo1 E J l=>?_
 have J1:∀(u2:Unit) (i5:NN),o1=.nrm u2->K2 ⟨[],[],(i5 0),79⟩:=by
  intro u2 i5 e
  have h1:=J _ e
  exact c2 _<|zI h1 R id
 refine Zv (λ(M:Int) F=>⟨[(0,qc C),(1,rI a),(2,rI c),(3,rB n),(12,qc C),(13,rL C),(14,rI M)],[],(F 0),79⟩) (AI [n0]) E wk ?_
 intro M F v1 O j
 have h2:Od C a c n M=some v1:=O;unfold Od at h2
 refine aU<|xS R<|Ar λc6=>cI R h2 (λT=>?_) λT=>?_
 .refine Zc<|c6 _<|aT λc7=>Zg<|AK R<|AE T λm U h4=>xI CD R U<|xB ((B2 m)) FR R<|sS R (BT (cs:=Iz) 10 R IP R R)<|mA R<|Zk R R (BF (ds:=(B2 m)) R Ih iL R iL R R R R)<|Ar λc9=>Zg<|aU<|lF FU AJ R R<|xS R<|mM R<|vF FU AJ R R<|vM R<|vQ R (DE R (iR R)<|iR R)<|xO R<|mM R<|vF Ft AJ R R<|vQ R (B6 R (iR R) iL)<|xO R<|mM R<|vF Ft AJ R R<|vM R<|vQ R (DE R (iR R)<|iR R)<|xO R<|AG R<|cI R h4 (λV=>?_) λV=>?_
  .exact zI (l _<|xH j V) R id
  refine aT λX=>aG [0,1,2,3,9,10,12,13,14] [10] ?_
  refine aR<|lF Ez AJ R R<|xS R<|mM R<|vF Ez AJ R R<|vQ R (Bd R (iR R) iL)<|xO R<|AG R<|X _<|cI R V (λZ=>?_) λZ=>?_
  .exact zI (l _<|xH j Z) R id
  refine aU<|lF JO BO R R<|AE Z λr1 a0 h7=>cL (o6<|a0) R<|sQ R (BC R iL)<|AG R<|cI R h7 (λh8=>?_) λh8=>?_
  .exact zI (l _<|xH j h8) R id
  refine Zc<|c9 _<|aT λa1=>aT λa2=>aG [0,1,2,3,9,10,12,13,14] [10] ?_
  refine aR<|lF Hb Cq R R<|AE h8 λe1 a6 h9=>cL (Wp<|a6) R<|AG R<|a2 _<|AK R<|xU R<|aZ<|cI R h9 (λq=>?_) λq=>?_
  .refine aT λa7=>aF [11] ?_
   exact Ah R<|AG R<|a7 _<|Zj<|yI (l _<|xH j q) R
  refine Zc<|a1 _<|aT λa8=>aU<|xC FR R<|AE q λr2 aa ab=>cL (uU<|aa) R<|mM R<|vM R<|vQ R (BC R<|iR R)<|xN R<|aZ<|cI R ab (λw=>?_) λw=>?_
  .exact zI (l _<|xH j w) R id
  refine Zc<|a8 _<|aT λac=>aG [0,1,2,3,9,10,12,13,14] [10] ?_
  refine Zz BP (by kernel_rfl) ?_
  refine qP R (AM R iL)<|qP R (Bd R iL iL)<|qP R (AM R iL)<|qO R (AM R iL)<|qO R (AM R iL)<|AE w λx5 ad ae=>qO R (CJ R (iR R) iL<|Af ad)<|AE ae λA af ag=>qO R (BN R CD.slice (iR R) (iR R) (λ_=>R)<|Af af)<|qO R (EB (cs:=(B2 A)) R FR (iR R) R R)<|qO R (EW R FR iL R R)<|AE ag λr3 ah ai=>KR (.one R R R) R R (r:=rI r3) (caps:=[]) (bs:=[.agg<|B2 A,.agg<|B2 m]) R iL R ⟨⟨_,(iR R),.g (cs:=[.int .i64 A.Row,.int .i64 A.Col,.str A.Text,.int .i64 A.Ref,.sl<|A.Attrs.map AH.row]) R R⟩,⟨_,(iR R),.g (cs:=[.int .i64 m.Row,.int .i64 m.Col,.str m.Text,.int .i64 m.Ref,.sl<|m.Attrs.map AH.row]) R R⟩,Za⟩ (λhg=>tH<|Af ah hg) R<|qO R (DE R (iR R) iL)<|qP R (BZ R iL<|iR R)<|AQ.nil<|ac _<|cI R ai (λB=>?_) λB=>?_
  .exact zI (l _<|xH j B) R id
  exact Zc<|c7 _<|aR<|AE B λx7 aj ak=>xA R aj<|mM R<|Zh<|Zr ak (AI [((F 0)+1)]) wk
 exact Zm<|I _ _ wk<|J1 _ (AI [(F 0)])<|xH j T
theorem tL{j a c r}(h:Ol j a c=some r):AY prog 141 [.agg<|BY j,rI a,rI c] (rB r):=by
 unfold Ol at h
 refine mF func141 ntmps141 R λA=>aU<|sS R (BD (cs:=(BY j)) 3 R iL R R)<|AG R<|aU<|lF Cz AJ R R<|sQ R (DE R iL iL)<|mM R<|vF DV AJ R R<|vQ R (DE R (iR R) iL)<|xN R<|mM R<|vF Gz AJ R R<|vQ R (DE R (iR R) iL)<|xN R<|mM R<|vF Ge AJ R R<|vQ R (DE R (iR R) iL)<|xN R<|mM R<|vF Cz AJ R R<|vM R<|vQ R (B6 R (iR R)<|iR R)<|xN R<|mM R<|vF DV AJ R R<|vM R<|vQ R (B6 R (iR R)<|iR R)<|xN R<|mM R<|vF Gz AJ R R<|vM R<|vF Cz AJ R R<|AE h λB l q=>vQ R (CJ R (iR R) (iR R)<|Af l)<|vQ R (FA R (iR R)<|iR R)<|xN R<|mM R<|vF Ge AJ R R<|vM R<|vF DV AJ R R<|AE q λC m w=>vQ R (CJ R (iR R) (iR R)<|Af m)<|vQ R (FA R (iR R)<|iR R)<|xN R<|AG R ?_
 exact Zj<|yB w R
theorem oy{j l r}(h:Pb j l=some r):AY prog 142 [.agg<|BY j,.agg<|BY l] (rB r):=by
 unfold Pb at h
 exact mF func142 ntmps142 R λm=>aU<|sS R (BD (cs:=(BY j)) 2 R iL R R)<|sS R (BD (cs:=(BY l)) 3 R iL R R)<|AG R<|aU<|lF Cz AJ R R<|lF Cz AJ R R<|xS R<|mM R<|vF Cz AJ R R<|vF Cz AJ R R<|vQ R (BB R (iR R)<|iR R)<|vQ R (AM R<|iR R)<|wQ R (fB R DV iL fR R)<|wQ R (Ab (a:=rI j.Col) R AJ (iR R) R R)<|wQ R (fB R DV iL fR R)<|wQ R (Ab (a:=rI l.Col) R AJ (iR R) R R)<|wQ R (B6 R (iR R)<|iR R)<|vQ R (BZ R (iR R)<|iR R)<|xO R<|AG R<|Zj<|yB h R
theorem nP{j l r}(h:Ox j l=some r):AY prog 145 [.agg<|BY j,.agg<|BY l] (rB r):=by
 unfold Ox at h
 exact mF func145 ntmps145 R λI=>aU<|sS R (BD (cs:=(BY j)) 2 R iL R R)<|sS R (BD (cs:=(BY l)) 3 R iL R R)<|AG R<|aU<|lF Cz AJ R R<|lF Cz AJ R R<|lF Gz AJ R R<|AE h λJ m B=>xA R m<|xS R<|mM R<|vF Cz AJ R R<|vF Cz AJ R R<|vF Gz AJ R R<|AE B λM q C=>vQ R (Jn R (iR R) (iR R)<|Af q)<|vQ R (B6 R (iR R)<|iR R)<|xN R<|mM R<|vF DV AJ R R<|vF DV AJ R R<|vF Ge AJ R R<|AE C λO w E=>vQ R (Jn R (iR R) (iR R)<|Af w)<|vQ R (B6 R (iR R)<|iR R)<|xN R<|mM R<|vF DV AJ R R<|vF DV AJ R R<|vF Ge AJ R R<|AE E λT A F=>vQ R (Jn R (iR R) (iR R)<|Af A)<|vQ R (B6 R (iR R)<|iR R)<|xN R<|AG R<|Zj<|yB F R
theorem rR{l:At}{m:At}{r:Bool}{j:Nat}(h:Th l m=some r):BI prog 144 1 [.agg<|BY m,pT 1000 j] (DS j l) (λrr h'=>∃(i:Nat->Nat),rr=rB r/\h'=(DS j l)):=by
 unfold Th at h
 refine E0 func144 R R ntmps144 (Zw R) λA=>aU<|sS R (BD (cs:=(BY m)) 2 R iL R R)<|AG R<|aU<|xC Dh R<|xC Dh R<|AE h λw q B=>cL (nP<|q) R<|AG R ?_
 exact Zj<|CB.mk (s':=⟨[(3,rB w)],(DS j l),(A+1),7⟩) wk<|Cc (λ(r:Bool) rr h'=>∃(i:Nat->Nat),rr=rB r/\h'=(DS j l)) B<|by exact⟨rB w,(DS j l),R,⟨.inr R,Za⟩,R,R,AI [],R,R⟩
theorem vt{l:At}{m:List At}{r:Int}{j:Nat}(h:SP l m=some r):BI prog 190 1 [qd m,.fn 144 [pT 1000 j]] (DS j l) (λrr h'=>∃(i:Nat->Nat),rr=rI r/\h'=(DS j l)):=by
 unfold SP at h
 refine E0 func190 R R ntmps190 (Zw R) λn0=>aU<|AG R<|aS λK2 c2 B=>AK R<|xL DW R<|mM R<|aZ<|Zg<|BU h λo1 q C E=>?_
 have J1:∀(Z:Unit) (F:NN),o1=.nrm Z->K2 ⟨[],(DS j l),(F 0),19⟩:=by
  intro Z F e
  have h1:=C _ e
  refine c2 _<|aU<|AG R ?_
  exact Zj<|CB.mk (s':=⟨[(4,rI<|(-1))],(DS j l),(F 0),19⟩) wk<|Cc (λ(r:Int) rr h'=>∃(i:Nat->Nat),rr=rI r/\h'=(DS j l)) h1<|by exact⟨rI<|(-1),(DS j l),R,⟨.inr R,Za⟩,R,R,AI [],R,R⟩
 refine Zv (λ(w:Int) I=>⟨[(0,qd m),(1,.fn 144 [pT 1000 j]),(7,rL m),(8,rI w)],(DS j l),(I 0),19⟩) (AI [n0]) q wk ?_
 intro w I v1 J A
 have h2:P1 l m w=some v1:=J;unfold P1 at h2
 refine aU<|xS R<|Ar λc6=>cI R h2 (λM=>?_) λM=>?_
 .refine Zc<|c6 _<|aT λc7=>Zg<|AK R<|AG R<|aT λc9=>Ah R<|mM R<|mM R<|AE M λx4 O h4=>xI DW R O<|xB ((BY x4)) Dh R<|AE h4 λr1 T h5=>?_
  refine ZB [1000] (hc:=(DS j l)) (bs:=[.agg<|BY x4]) (caps:=[pT 1000 j]) R R R R iL R ⟨.inl ⟨iL,R⟩,Za⟩ ⟨R,R,R,Za⟩ (by decide) (rR T) ?_
  intro i6 n1
  refine Bi [0,1,5,7,8,9,10,11,12,13,14,15,16] [1000] ?_
  refine aZ<|c9 _<|cI R h5 (λU=>?_) λU=>?_
  .refine aT λV=>aG [5] [1000] ?_
   refine Ah R<|mA R<|oZ V ?_
   exact Zj<|CB.mk (s':=⟨[(4,rI w)],(DS j l),n1,19⟩) wk<|Cc (λ(r:Int) rr h'=>∃(i:Nat->Nat),rr=rI r/\h'=(DS j l)) (E _<|xH A U)<|by exact⟨rI w,(DS j l),R,⟨.inr R,Za⟩,R,R,AI [],R,R⟩
  refine Zc<|c7 _<|aG [0,1,7,8] [1000] ?_
  exact aR<|AE U λx5 X h7=>xA R X<|mM R<|Zh<|Zr h7 (AI [n1]) wk
 exact Zm<|B _ _ wk<|J1 _ (AI [(I 0)])<|xH A M
theorem uO{l:At}{m:List At}{r:Bool}{j:Nat}(h:My l m=some r):BI prog 143 1 [qd m,.fn 144 [pT 1000 j]] (DS j l) (λrr h'=>∃(i:Nat->Nat),rr=rB r/\h'=(DS j l)):=by
 unfold My at h
 refine E0 func143 R R ntmps143 (Zw R) λE=>aU<|AG R<|aT λA=>Ah R<|mM R<|AE h λw q B=>?_
 refine ZB [1000] (hc:=(DS j l)) (bs:=[qd m,.fn 144 [pT 1000 j]]) (caps:=[]) R R R R iL R ⟨.inl ⟨iL,R⟩,.inl ⟨iL,R⟩,Za⟩ ⟨R,R,R,Za⟩ (by decide) (vt q) ?_
 intro F C
 refine Bi [0,1,4,5,6,7] [1000] ?_
 refine sQ R (DE R iL iL)<|mA R<|oZ A ?_
 exact Zj<|CB.mk (s':=⟨[(4,rB<|(decide<|0<=w))],(DS j l),C,9⟩) wk<|Cc (λ(r:Bool) rr h'=>∃(i:Nat->Nat),rr=rB r/\h'=(DS j l)) B<|by exact⟨rB<|(decide<|0<=w),(DS j l),R,⟨.inr R,Za⟩,R,R,AI [],R,R⟩
theorem vV{m r}(h:O2 m=some r):AY prog 96 (Vu m) (rI r):=by
 unfold O2 at h
 refine mF func96 ntmps96 R λI=>aU<|sS R (BD (cs:=(CY m)) 1 R iL R R)<|AG R<|aT λc2=>aU<|lF HZ AJ R R<|xS R<|mM R<|vF HZ AJ R R<|vQ R (Bd R (iR R) iL)<|xO R<|mM R<|vF Hg AJ R R<|vQ R (B6 R (iR R) iL)<|xO R<|mM R<|vF Hg AJ R R<|vQ R (Bd R (iR R) iL)<|xO R<|aZ<|cI R h (λJ=>?_) λJ=>?_
 .exact zI J R id
 refine Zc<|c2 _<|aT λc5=>aT λc6=>aG [1] [1] ?_
 refine aR<|lF EU Ek R R<|lF HZ AJ R R<|lF Hg AJ R R<|AE J λe1 M h2=>cL (nK<|M) R<|AG R<|c6 _<|AK R<|xU R<|aZ<|cI R h2 (λO=>?_) λO=>?_
 .refine aT λc8=>aF [3] ?_
  exact Ah R<|AG R<|c8 _<|Zj<|yI O R
 refine Zc<|c5 _<|aS λK9 c9 T=>aT λU=>aG [1] [1] ?_
 refine aR<|lF Eg E6 R R<|xL DW R<|mM R<|aZ<|U _<|Zg<|BU O λo1 F V l=>?_
 have J1:∀(u2:Unit) (i5:NN),o1=.nrm u2->K9 ⟨[],[],(i5 0),81⟩:=by
  intro u2 i5 e
  have h4:=V _ e
  exact c9 _<|zI h4 R id
 refine Zv (λ(X:Int) C=>⟨[(1,pT 1 I),(35,qd m.Merges),(36,rL m.Merges),(37,rI X)],[bX 1 I 41<|CY m],(C 0),81⟩) (AI [(I+1)]) F wk ?_
 intro X C v1 Z j
 have h5:Oe m X=some v1:=Z;unfold Oe at h5
 refine aU<|xS R<|Ar λa0=>cI R h5 (λh6=>?_) λh6=>?_
 .refine Zc<|a0 _<|aT λa1=>Zg<|AK R<|AE h6 λq a2 h7=>xI DW R a2<|xB ((BY q)) Dh R<|sS R (BT (cs:=F6) 5 R IW R R)<|mA R<|Zk R R (BF (ds:=(BY q)) R Gu iL R iL R R R R)<|aZ<|Zg<|aU<|xC Dh R<|lF HZ AJ R R<|lF Hg AJ R R<|AE h7 λr1 a6 h8=>cL (tL<|a6) R<|sQ R (BC R iL)<|AG R<|cI R h8 (λh9=>?_) λh9=>?_
  .exact zI (l _<|xH j h9) R id
  refine aT λa7=>aG [1,4,5,35,36,37] [1,5] ?_
  refine aR<|lF Gz AJ R R<|xQ R<|mM R<|vF Ge AJ R R<|vQ R (BB R (iR R) iL)<|xN R<|AG R<|a7 _<|cI R h9 (λw=>?_) λw=>?_
  .exact zI (l _<|xH j w) R id
  refine aT λa8=>?_
  refine Zz BP (by kernel_rfl) ?_
  refine qP R (AM R iL)<|qP R (Bd R iL iL)<|qP R (AM R iL)<|qO R (fB R Eg iL fR R)<|qO R (Ab (a:=qd m.Merges) R E6 (iR R) R R)<|qO R (AM R iL)<|AE w λx5 aa ab=>qO R (CJ R (iR R) iL<|Af aa)<|AE ab λE ac ad=>qO R (BN R DW.slice (iR R) (iR R) (λ_=>R)<|Af ac)<|qO R (EB (cs:=(BY E)) R Dh (iR R) R R)<|qO R (EW R Dh iL R R)<|AE ad λr2 ae af=>KR (.one R R R) R R (r:=rB r2) (caps:=[]) (bs:=[.agg<|BY E,.agg<|BY q]) R iL R ⟨⟨_,(iR R),.g (cs:=[.int .i64 E.Row,.int .i64 E.Col,.int .i64 E.H,.int .i64 E.W]) R R⟩,⟨_,(iR R),.g (cs:=[.int .i64 q.Row,.int .i64 q.Col,.int .i64 q.H,.int .i64 q.W]) R R⟩,Za⟩ (λhg=>oy<|Af ae hg) R<|qO R (BC R<|iR R)<|qP R (BZ R iL<|iR R)<|qP R (EL R iL)<|AQ.nil<|a8 _<|cI R af (λA=>?_) λA=>?_
  .exact zI (l _<|xH j A) R id
  refine aT λag=>aG [1,4,5,35,36,37] [1,5] ?_
  refine aR<|lF Eg E6 R R<|mM R<|AE A λl1 ah ai=>?_
  refine sQ R (ZC R DW.slice iL (by exact R) (by exact⟨_,iL⟩) (λ_=>R) λ_=>ah) ?_
  refine sQ R (Kz (bs:=[pT 5<|C 0]) R<|by exact⟨iL,Za⟩) ?_
  refine AE ai λr3 aj ak=>?_
  refine ZB [5] (hc:=(DS (C 0) q)) (bs:=[qd l1,.fn 144 [pT 1000<|C 0]]) (caps:=[]) R R R R iL R ⟨.inl ⟨iL,R⟩,.inl ⟨iL,R⟩,Za⟩ ⟨R,R,R,Za⟩ (by decide) (uO aj) ?_
  intro i6 n1
  refine Bi [1,4,5,35,36,37,74,75,76,77,78,79] [1,5] ?_
  refine AG R<|ag _<|cI R ak (λB=>?_) λB=>?_
  .exact zI (l _<|xH j B) R id
  refine Zc<|a1 _<|aG [1,35,36,37] [1] ?_
  exact aR<|AE B λx7 al an=>xA R al<|mM R<|Zh<|Zr an (AI [n1]) wk
 exact Zm<|T _ _ wk<|J1 _ (AI [(C 0)])<|xH j h6
theorem vC{k j r}(h:Qc k j=some r):AY prog 97 [rI k,qc j] (rI r):=by
 unfold Qc at h
 refine mF func97 ntmps97 R λX=>aU<|AG R<|aS λZ c2 A=>AK R<|xL CD R<|mM R<|aZ<|Zg<|BU h λo1 l B C=>?_
 have J1:∀(T:Unit) (U:NN),o1=.nrm T->Z ⟨[],[],(U 0),36⟩:=by
  intro T U e
  have h1:=B _ e
  exact c2 _<|zI h1 R id
 refine Zv (λ(E:Int) q=>⟨[(0,rI k),(7,qc j),(8,rL j),(9,rI E)],[],(q 0),36⟩) (AI [X]) l wk ?_
 intro E q v1 F m
 have V:N3 k j E=some v1:=F;unfold N3 at V
 refine aU<|xS R<|Ar λc6=>cI R V (λI=>?_) λI=>?_
 .refine Zc<|c6 _<|aT λc7=>Zg<|aU<|AE I λw J h4=>xI CD R J<|xB ((B2 w)) FR R<|sS R (BT (cs:=Iz) 6 R IP R R)<|Zk R R (BF (ds:=(B2 w)) R Ih iL R iL R R R R)<|aZ<|AK R<|xQ R<|mM R<|vF JO BO R R<|vQ R (D7 R (iR R) iL)<|vQ R (AM R<|iR R)<|wQ R (fB R Hb iL fR R)<|wQ R (Ab (a:=qa w.Attrs) R Cq (iR R) R R)<|wQ R (DA R BK.slice<|iR R)<|wQ R (Bd R (iR R) iL)<|vQ R (CS R (iR R)<|iR R)<|xN R<|mM R<|vM R<|vQ R (BB R (iR R) iL)<|vQ R (AM R<|iR R)<|wQ R (fB R Ez iL fR R)<|wQ R (Ab (a:=rI w.Ref) R AJ (iR R) R R)<|wQ R (Cm R (iR R) iL)<|vQ R (BZ R (iR R)<|iR R)<|xO R<|aZ<|cI R h4 (λM=>?_) λM=>?_
  .exact zI (C _<|xH m M) R id
  refine Zc<|c7 _<|aF [0,7,8,9] ?_
  exact aR<|AE M λx5 O h6=>xA R O<|mM R<|Zh<|Zr h6 (AI [((q 0)+1)]) wk
 exact Zm<|A _ _ wk<|J1 _ (AI [(q 0)])<|xH m I
theorem sG{l r}(h:Kg l=some r):AY prog 191 [rS l] (rB r):=by
 unfold Kg at h
 refine mF func191 ntmps191 R λn0=>aU<|AG R<|aT λc2=>AK R<|sQ R (EM R iL iL)<|mM R<|vM R<|vQ R (Df R underlying9<|iR R)<|vQ R (Bd R (iR R) iL)<|xO R<|mM R<|vM R<|vM R<|vQ R (Df R underlying9<|iR R)<|AE h λx1 B h1=>vQ R (CJ R (iR R) iL<|Af B)<|AE h1 λa0 m h2=>vQ R (Ce R underlying9 (iR R) (iR R)<|Af m)<|vQ R (BB R (iR R) iL)<|xO R<|aZ<|cI R h2 (λC=>?_) λC=>?_
 .exact zB C R id
 refine Zc<|c2 _<|aS λK5 c5 E=>aT λc6=>aF [0] ?_
 refine Ah R<|sQ R (Df R underlying9 iL)<|mM R<|aZ<|c6 _<|Zg<|BU C λo1 q F I=>?_
 have J1:∀(X:Unit) (Z:NN),o1=.nrm X->K5 ⟨[],[],(Z 0),35⟩:=by
  intro X Z e
  have h4:=F _ e
  exact c5 _<|zB h4 R id
 refine Zv (λ(J:Int) A=>⟨[(0,rS l),(20,rL l),(21,rI J)],[],(A 0),35⟩) (AI [n0]) q wk ?_
 intro J A v1 M w
 have h5:LD l J=some v1:=M;unfold LD at h5
 refine aU<|xS R<|Ar λc9=>cI R h5 (λO=>?_) λO=>?_
 .refine Zc<|c9 _<|aT λT=>Zg<|AK R<|AG R<|AK R<|mM R<|AE O λa1 j h7=>sQ R (Ce R underlying9 iL iL λ_=>j)<|xS R<|mM R<|vM R<|vM R<|vQ R (Ce R underlying9 (iR R) (iR R) λ_=>j)<|vQ R (Bd R (iR R) iL)<|xO R<|aZ<|cI R h7 (λU=>?_) λU=>?_
  .exact zB (I _<|xH w U) R id
  refine Zc<|T _<|aF [0,20,21] ?_
  exact aR<|AE U λx5 V h9=>xA R V<|mM R<|Zh<|Zr h9 (AI [(A 0)]) wk
 exact Zm<|E _ _ wk<|J1 _ (AI [(A 0)])<|xH w O
theorem qm{j r}(h:LE j=some r):AY prog 146 (ka j) (rI r):=by
 unfold LE at h
 refine mF func146 ntmps146 R λC=>aU<|sS R (BD (cs:=(CV j)) 1 R iL R R)<|AG R<|aT λc2=>Zg<|aU<|lF F2 AJ R R<|xU R<|mM R<|vF F2 AJ R R<|vQ R (Cm R (iR R) iL)<|xN R<|AG R<|cI R h (λM=>?_) λM=>?_
 .exact zI M R id
 refine aT λc5=>aG [1] [1] ?_
 refine aR<|lF Iw AJ R R<|xS R<|mM R<|vF Iw AJ R R<|vQ R (Bd R (iR R) iL)<|xO R<|mM R<|vF KV AJ R R<|vQ R (B6 R (iR R) iL)<|xO R<|mM R<|vF KV AJ R R<|vQ R (Bd R (iR R) iL)<|xO R<|mM R<|vF Fb AJ R R<|vQ R (B6 R (iR R) iL)<|xO R<|mM R<|vF Fb AJ R R<|vQ R (Bd R (iR R) iL)<|xO R<|AG R<|c5 _<|cI R M (λO=>?_) λO=>?_
 .exact zI O R id
 refine aS λK7 c7 E=>aT λc8=>aG [1] [1] ?_
 refine aR<|lF F2 AJ R R<|xQ R<|mM R<|vF Mt BO R R<|vQ R (D7 R (iR R) iL)<|vQ R (AM R<|iR R)<|wQ R (fB R JE iL fR R)<|wQ R (Ab (a:=rS j.Value) R BO (iR R) R R)<|wQ R (D7 R (iR R) iL)<|vQ R (CS R (iR R)<|iR R)<|xN R<|AG R<|c8 _<|Bb O λp1 F T=>?_
 have J1:∀(U:Bool) (J:NN),p1=U->K7 ⟨[(1,pT 1 C),(41,rB U)],[bX 1 C 175<|CV j],(J 0),116⟩:=by
  intro U J e
  have h3:=T _ e
  refine c7 _<|cI R h3 (λV=>?_) λV=>?_
  .exact zI V R id
  refine aU<|lF F2 AJ R R<|xQ R<|mM R<|vF Gx AJ R R<|vQ R (B6 R (iR R) iL)<|vQ R (AM R<|iR R)<|wQ R (fB R Gx iL fR R)<|wQ R (Ab (a:=rI j.Parent) R AJ (iR R) R R)<|wQ R (Bd R (iR R) iL)<|vQ R (CS R (iR R)<|iR R)<|xN R<|AG R<|cI R V (λX=>?_) λX=>?_
  .exact zI X R id
  refine aS λZ a0 l=>aT λa1=>aG [1] [1] ?_
  refine aR<|lF F2 AJ R R<|xQ R<|mM R<|vF Nn BO R R<|AE X λr1 a2 h6=>vL (λhg=>sG<|Af a2 hg) R<|vQ R (BC R<|iR R)<|xN R<|AG R<|a1 _<|Bb h6 λp2 I a6=>?_
  have J2:∀(x2:Bool) (i2:NN),p2=x2->Z ⟨[(1,pT 1 C),(82,rB x2)],[bX 1 C 175<|CV j],(i2 0),116⟩:=by
   intro x2 i2 e
   have h7:=a6 _ e
   refine a0 _<|cI R h7 (λh8=>?_) λh8=>?_
   .exact zI h8 R id
   refine aU<|lF F2 AJ R R<|xQ R<|mM R<|vF JE BO R R<|vQ R (D7 R (iR R) iL)<|xN R<|mM R<|vF JE BO R R<|AE h8 λr2 a7 h9=>vL (λhg=>Zl<|Af a7 hg) R<|vQ R (BC R<|iR R)<|xN R<|AG R<|cI R h9 (λm=>?_) λm=>?_
   .exact zI m R id
   exact Zc<|c2 _<|zI m R id
  refine aC R (λq=>?_) λq=>?_
  .have w:=D2 q I
   exact Zc<|l _ _ wk<|J2 _ (AI [(J 0)]) (Zf w).symm
  .have w:=Dw q I
   refine aG [1] [1] ?_
   exact aR<|lF F2 AJ R R<|xQ R<|mM R<|vF Mt BO R R<|AE w λr3 a8 aa=>vL (λhg=>Xz<|Af a8 hg) R<|vQ R (BC R<|iR R)<|xN R<|mA R<|Zh<|l _ _ wk<|J2 _ (AI [(J 0)]) (Zf aa).symm
 refine aC R (λA=>?_) λA=>?_
 .have B:=D2 A F
  exact Zc<|E _ _ wk<|J1 _ (AI [(C+1)]) (Zf B).symm
 .have B:=Dw A F
  refine aG [1] [1] ?_
  exact aR<|lF F2 AJ R R<|xQ R<|mM R<|vF Gx AJ R R<|vQ R (Cm R (iR R) iL)<|vQ R (AM R<|iR R)<|wQ R (fB R Nn iL fR R)<|wQ R (Ab (a:=rS j.Place) R BO (iR R) R R)<|wQ R (D7 R (iR R) iL)<|vQ R (CS R (iR R)<|iR R)<|xN R<|mA R<|Zh<|E _ _ wk<|J1 _ (AI [(C+1)]) (Zf B).symm
theorem oa{l m r}(h:Lh l m=some r):AY prog 147 [.agg<|CV l,.agg<|CV m] (rI r):=by
 unfold Lh at h
 refine mF func147 ntmps147 R λj=>aU<|sS R (BD (cs:=(CV l)) 2 R iL R R)<|sS R (BD (cs:=(CV m)) 3 R iL R R)<|AG R<|aT λC=>AE h λq w E=>?_
 refine rP 9 [pO 5<|pT 2 j,pO 6<|rI l.Clock,pO 7<|pT 3<|j+1,pO 8<|rI m.Clock,pO 9<|rI q,pO 10<|.ptr 2 j 0 1,pO 11<|rI l.Site,pO 12<|.ptr 3 (j+1) 0 1,pO 13<|rI m.Site] BP R (by exact⟨oB [(2,pT 2 j)] (Rm j l)<|fB R Iw (.inl R) (λ_=>R) R,oB [(5,pT 2 j)] (Rm j l)<|Ab (a:=rI l.Clock) R AJ (.inl R) R R,oB [(3,pT 3<|j+1)] (TR (j+1) m)<|fB R Iw (.inl R) (λ_=>R) R,oB [(7,pT 3<|j+1)] (TR (j+1) m)<|Ab (a:=rI m.Clock) R AJ (.inl R) R R,oD (λ_=>[(6,rI l.Clock),(8,rI m.Clock)]) (λ_=>[]) λF e O n=>Db (r:=rI q) (caps:=[]) (bs:=[rI l.Clock,rI m.Clock]) R (.inl R) R ⟨⟨_,(.inl R),.d R⟩,⟨_,(.inl R),.d R⟩,Za⟩ (λ_=>Ni<|w) R,oB [(2,pT 2 j)] (Rm j l)<|fB R KV (.inl R) (λ_=>R) R,oB [(10,.ptr 2 j 0 1)] (Rm j l)<|Ab (a:=rI l.Site) R AJ (.inl R) R R,oB [(3,pT 3<|j+1)] (TR (j+1) m)<|fB R KV (.inl R) (λ_=>R) R,oB [(12,.ptr 3 (j+1) 0 1)] (TR (j+1) m)<|Ab (a:=rI m.Site) R AJ (.inl R) R R,Za⟩) λF T=>?_
 refine Bi [0,1,2,3,4,5,6,7,8,9,10,11,12,13] [2,3] ?_
 exact AE E λI A J=>cL (Ni<|A) R<|sS R (CA 15 R Bo (f:=(Ai .i64)) (l:=([q,I]:List Int)) ⟨R,⟨_,iL,R⟩,R,⟨_,iL,R⟩,Za⟩ R (λ_=>R) R)<|AE J λU B M=>cL (XK<|B) R<|AG R<|C _<|Zj<|yI M R
theorem rJ{w r}(h:Ld w=some r):AY prog 98 [qf w] (rI r):=by
 unfold Ld at h
 refine mF func98 ntmps98 R λn0=>aU<|AG R<|aS λK2 c2 E=>AK R<|xL FQ R<|mM R<|aZ<|Zg<|BU h λo1 A F B=>?_
 have J1:∀(u2:Unit) (i5:NN),o1=.nrm u2->K2 ⟨[],[],(i5 0),31⟩:=by
  intro u2 i5 e
  have h1:=F _ e
  exact c2 _<|zI h1 R id
 refine Zv (λ(I:Int) C=>⟨[(0,qf w),(6,qf w),(7,rL w),(8,rI I)],[],(C 0),31⟩) (AI [n0]) A wk ?_
 intro I C v1 J m
 have h2:Kv w I=some v1:=J;unfold Kv at h2
 refine aU<|xS R<|Ar λc6=>cI R h2 (λM=>?_) λM=>?_
 .refine Zc<|c6 _<|aT λc7=>Zg<|AK R<|AE M λj O h4=>xI FQ R O<|xB ((CV j)) IK R<|sS R (BT (cs:=TE) 4 R Te R R)<|mA R<|Zk R R (BF (ds:=(CV j)) R RI iL R iL R R R R)<|Ar λc9=>aU<|xC IK R<|AE h4 λe1 T h5=>cL (qm<|T) R<|AG R<|AK R<|xU R<|aZ<|cI R h5 (λU=>?_) λU=>?_
  .refine aT λV=>aF [5] ?_
   exact Ah R<|AG R<|V _<|Zj<|yI (B _<|xH m U) R
  refine Zc<|c9 _<|aT λX=>aG [0,3,4,6,7,8] [4] ?_
  refine Zz BP (by kernel_rfl) ?_
  refine qP R (AM R iL)<|qP R (Bd R iL iL)<|qP R (AM R iL)<|qO R (AM R iL)<|qO R (AM R iL)<|AE U λx5 Z h7=>qO R (CJ R (iR R) iL<|Af Z)<|AE h7 λl a0 h8=>qO R (BN R FQ.slice (iR R) (iR R) (λ_=>R)<|Af a0)<|qO R (EB (cs:=(CV l)) R IK (iR R) R R)<|qO R (EW R IK iL R R)<|AE h8 λr1 a1 h9=>KR (.one R R R) R R (r:=rI r1) (caps:=[]) (bs:=[.agg<|CV l,.agg<|CV j]) R iL R ⟨⟨_,(iR R),.g (cs:=[.int .i64 l.Clock,.int .i64 l.Site,.int .i64 l.Kind,.int .i64 l.Item,.int .i64 l.Parent,.str l.Place,.str l.Name,.str l.Value]) R R⟩,⟨_,(iR R),.g (cs:=[.int .i64 j.Clock,.int .i64 j.Site,.int .i64 j.Kind,.int .i64 j.Item,.int .i64 j.Parent,.str j.Place,.str j.Name,.str j.Value]) R R⟩,Za⟩ (λhg=>oa<|Af a1 hg) R<|qO R (DE R (iR R) iL)<|qP R (BZ R iL<|iR R)<|AQ.nil<|X _<|cI R h9 (λq=>?_) λq=>?_
  .exact zI (B _<|xH m q) R id
  exact Zc<|c7 _<|aR<|AE q λx7 a2 a6=>xA R a2<|mM R<|Zh<|Zr a6 (AI [((C 0)+1)]) wk
 exact Zm<|E _ _ wk<|J1 _ (AI [(C 0)])<|xH m M
theorem mh{n1 r}(h:DM n1=some r):AY prog 49 (JG n1) (rI r):=by
 unfold DM at h
 refine mF func49 ntmps49 R λA=>aU<|sS R (BD (cs:=(A8 n1)) 1 R iL R R)<|AG R<|aT λc2=>Zg<|aU<|lF Ea AJ R R<|xS R<|mM R<|vF Ea AJ R R<|vQ R (Bd R (iR R) iL)<|xO R<|AG R<|cI R h (λV=>?_) λV=>?_
 .exact zI V R id
 refine aT λc5=>aG [1] [1] ?_
 refine aR<|lF CH AJ R R<|xS R<|mM R<|vF CH AJ R R<|vQ R (DE R (iR R) iL)<|xO R<|mM R<|vF Ea AJ R R<|vQ R (BB R (iR R) iL)<|vF CH AJ R R<|vQ R (BB R (iR R) iL)<|vQ R (W2 R underlying4 (iR R)<|iR R)<|xO R<|AG R<|c5 _<|cI R V (λX=>?_) λX=>?_
 .exact zI X R id
 refine Zc<|c2 _<|aT λc7=>aT λc8=>aG [1] [1] ?_
 refine aR<|lF KE Cq R R<|AE X λe1 Z h3=>cL (Wp<|Z) R<|AG R<|c8 _<|AK R<|xU R<|aZ<|cI R h3 (λh4=>?_) λh4=>?_
 .exact AK R<|AG R<|Zj<|yI h4 R
 refine Zc<|c7 _<|aT λa0=>?_
 refine Zz BP (by kernel_rfl) ?_
 refine qP R (fB R CH iL fR R)<|qP R (Ab (a:=rI n1.Kind) R AJ iL R R)<|AE h4 λl O h5=>AQ.stepC R R R (r:=rB l) (caps:=[]) (bs:=[rI n1.Kind]) R iL R ⟨⟨_,iL,.d R⟩,Za⟩ (λ_=>VN<|O) R<|qP R (AM R iL)<|qO R (fB R CH iL fR R)<|qO R (Ab (a:=rI n1.Kind) R AJ (iR R) R R)<|AE h5 λm a1 h6=>KR (.one R R R) R R (r:=rB m) (caps:=[]) (bs:=[rI n1.Kind]) R iL R ⟨⟨_,(iR R),.d R⟩,Za⟩ (λhg=>mw<|Af a1 hg) R<|qP R (CS R iL<|iR R)<|qP R (fB R CH iL fR R)<|qP R (Ab (a:=rI n1.Kind) R AJ iL R R)<|AE h6 λj B h7=>AQ.stepC R R R (r:=rB j) (caps:=[]) (bs:=[rI n1.Kind]) R iL R ⟨⟨_,iL,.d R⟩,Za⟩ (λ_=>sh<|B) R<|qP R (EL R iL)<|qP R (EL R iL)<|AQ.nil<|a0 _<|aT λa2=>aS λa6 a7 C=>aG [1,4,5] [1] ?_
 refine Ah R<|sQ R (BC R iL)<|mM R<|vF Ew E5 R R<|vQ R (DA R CN.slice<|iR R)<|vQ R (Bd R (iR R) iL)<|xN R<|mM R<|vM R<|vQ R (BC R<|iR R)<|vQ R (AM R<|iR R)<|wQ R (fB R Ej iL fR R)<|wQ R (LN (ds:=(CY n1.Grid)) R Jj (iR R) R R R) ?_
 refine wQ R (Ch R l8 (q:=[]) (by exact Za) (cs:=SZ)<|by rfl) ?_
 refine Bb h7 λp1 T a8=>?_
 have J1:∀(x1:Bool) (i1:NN),p1=x1->a6 ⟨[(1,pT 1 A),(4,rB<|(l||m)),(5,rB j),(81,rB x1)],[bX 1 A 44<|A8 n1],(i1 0),107⟩:=by
  intro x1 i1 e
  have h8:=a8 _ e
  refine a7 _<|cI R h8 (λh9=>?_) λh9=>?_
  .exact zI h9 R id
  refine Zc<|a2 _<|aT λaa=>Zg<|AK R<|AG R<|cI R h9 (λF=>?_) λF=>?_
  .refine aT λab=>?_
   refine Zz BP (by kernel_rfl) ?_
   exact qP R (fB R Ew iL fR R)<|qP R (Ab (a:=qe n1.Flow) R E5 iL R R)<|qP R (fB R CH iL fR R)<|qP R (Ab (a:=rI n1.Kind) R AJ iL R R)<|AQ.stepC R R R (r:=rB l) (caps:=[]) (bs:=[rI n1.Kind]) R iL R ⟨⟨_,iL,.d R⟩,Za⟩ (λ_=>VN<|O) R<|AE F λr4 ac ad=>AQ.stepC R R R (r:=rI r4) (caps:=[]) (bs:=[qe n1.Flow,rB l]) R iL R ⟨⟨_,iL,.d R⟩,⟨_,iL,.d R⟩,Za⟩ (λ_=>qK<|ac) R<|qP R (EL R iL)<|AQ.nil<|ab _<|Zj<|yI ad R
  refine AK R<|AG R<|cI R F (λI=>?_) λI=>?_
  .refine aT λae=>aU<|sQ R (fB R Ej iL fR R)<|sQ R (LN (ds:=(CY n1.Grid)) R Jj iL R R R)<|AE I λe2 af ag=>cL (vV<|af) R<|AG R<|aT λah=>aG [1,6] [1] ?_
   refine Ah R<|xU R<|aZ<|ah _<|cI R ag (λJ=>?_) λJ=>?_
   .exact AK R<|AG R<|Zj<|yI J R
   exact Zc<|ae _<|aU<|lF CH AJ R R<|sQ R (fB R Ej iL fR R)<|lF EU Ek R R<|AE J λr5 ai aj=>cL (vC<|ai) R<|AG R<|Zj<|yI aj R
  exact Zc<|aa _<|aU<|lF HF Ic R R<|AE I λr6 ak al=>cL (rJ<|ak) R<|AG R<|Zj<|yI al R
 refine AN.split (((!(l||m))&&(0<(n1.Flow.length:Int)))==false) (λq=>?_) λq=>?_
 .have E:=D2 q T
  refine AN.weak (by exact Xf (e':=[(1,pT 1 A),(4,rB<|(l||m)),(5,rB j),(51,rB<|(l||m)),(52,rB<|(!(l||m))),(53,rB<|(!(l||m))),(58,rB<|((!(l||m))&&(0<(n1.Flow.length:Int)))),(59,rB<|((!(l||m))&&(0<(n1.Flow.length:Int)))),(60,rB j),(61,rB<|(!j)),(62,rB<|(!j)),(63,.whn ((!j)==true)<|.ptr 1 A 0 4),(64,.whn ((!j)==true)<|.agg<|CY n1.Grid),(65,.whn ((!j)==true)<|.agg SZ)]) q ⟨.inl R,.inl R,.inl R,.inl R,.inl R,.inl R,.inl R,.inl R,.inr iL,.inr iL,.inr iL,.inr<|.inr<|.inl ⟨_,_,R,R⟩,.inr<|.inr<|.inl ⟨_,_,R,R⟩,.inr<|.inr<|.inl ⟨_,_,R,R⟩,Za⟩) ?_
  refine AN.split ((!j)==true) (λw=>?_) λw=>?_
  .have M:=D2 w E
   refine AN.weak (by exact Xf (e':=[(1,pT 1 A),(4,rB<|(l||m)),(5,rB j),(51,rB<|(l||m)),(52,rB<|(!(l||m))),(53,rB<|(!(l||m))),(58,rB<|((!(l||m))&&(0<(n1.Flow.length:Int)))),(59,rB<|((!(l||m))&&(0<(n1.Flow.length:Int)))),(60,rB j),(61,rB<|(!j)),(62,rB<|(!j)),(63,.ptr 1 A 0 4),(64,.agg<|CY n1.Grid),(65,.agg SZ)]) w ⟨.inl R,.inl R,.inl R,.inl R,.inl R,.inl R,.inl R,.inl R,.inl R,.inl R,.inl R,.inr iL,.inr iL,.inr iL,Za⟩) ?_
   refine AN.weak (by exact AZ.cv (e':=[(1,pT 1 A),(4,rB<|(l||m)),(5,rB j),(51,rB<|(l||m)),(52,rB<|(!(l||m))),(53,rB<|(!(l||m))),(58,rB<|((!(l||m))&&(0<(n1.Flow.length:Int)))),(59,rB<|((!(l||m))&&(0<(n1.Flow.length:Int)))),(60,rB j),(61,rB<|(!j)),(62,rB<|(!j)),(63,.ptr 1 A 0 4),(64,.agg<|CY n1.Grid),(65,.agg [rI 0,rI 0,.r<|.sl [],.r<|.sl []])]) (h':=[bX 1 A 44<|A8 n1]) ⟨jL,jL,jL,jL,jL,jL,jL,jL,jL,jL,jL,jL,jL,.inr ⟨_,_,R,R,⟨.inl R,.inl R,.inr<|.inr ⟨R,R⟩,.inr<|.inr ⟨R,R⟩,Za⟩⟩,Za⟩ ⟨.inl R,Za⟩ nL) ?_
   exact AE M λr7 an ao=>Ns (.one R R R) w R R (Db (r:=rB r7) (caps:=[]) (bs:=[.agg<|CY n1.Grid,.agg [rI 0,rI 0,.r<|.sl [],.r<|.sl []]]) R (.inl R) R ⟨⟨_,(.inl R),.g (cs:=[.int .i64 n1.Grid.Rows,.int .i64 n1.Grid.Cols,.sl<|n1.Grid.Cells.map Aw.row,.sl<|n1.Grid.Merges.map At.row]) R R⟩,⟨_,(.inl R),.g (cs:=[.int .i64 0,.int .i64 0,.sl<|[].map Aw.row,.sl<|[].map At.row]) R R⟩,Za⟩ (λ_=>vA<|an) R)<|Ns (.one R R R) w R R (AS.spec (BC R<|.inl R) _)<|Ns (.one R R R) q R R (AS.spec (BZ R (.inl R)<|.inl R) _)<|sQ R (CS R iL iL)<|mM R<|vF CH AJ R R<|AE ao λr8 aq ar=>vL (λhg=>VI<|Af aq hg) R<|vQ R (BC R<|iR R)<|vQ R (AM R<|iR R)<|wQ R (fB R HF iL fR R)<|wQ R (Ab (a:=qf n1.Draw) R Ic (iR R) R R)<|wQ R (DA R FQ.slice<|iR R)<|wQ R (Bd R (iR R) iL)<|vQ R (BZ R (iR R)<|iR R)<|xO R<|Zh<|C _ _ wk<|J1 _ (AI [(A+1)]) (Zf ar).symm
  .have M:=Dw w E
   exact KS (.one R R R) w R R<|KS (.one R R R) w R R<|Ns (.one R R R) q R R (AS.spec (BZ R (.inl R)<|iR R) _)<|sQ R (CS R iL iL)<|mM R<|vF CH AJ R R<|AE M λr9 au av=>vL (λhg=>VI<|Af au hg) R<|vQ R (BC R<|iR R)<|vQ R (AM R<|iR R)<|wQ R (fB R HF iL fR R)<|wQ R (Ab (a:=qf n1.Draw) R Ic (iR R) R R)<|wQ R (DA R FQ.slice<|iR R)<|wQ R (Bd R (iR R) iL)<|vQ R (BZ R (iR R)<|iR R)<|xO R<|Zh<|C _ _ wk<|J1 _ (AI [(A+1)]) (Zf av).symm
 .have E:=Dw q T
  exact KS (.two R R R) (YH q) R R<|KS (.two R R R) (YH q) R R<|KS (.one R R R) q R R<|xO R<|mM R<|vF CH AJ R R<|AE E λax U aw=>vL (λhg=>VI<|Af U hg) R<|vQ R (BC R<|iR R)<|vQ R (AM R<|iR R)<|wQ R (fB R HF iL fR R)<|wQ R (Ab (a:=qf n1.Draw) R Ic (iR R) R R)<|wQ R (DA R FQ.slice<|iR R)<|wQ R (Bd R (iR R) iL)<|vQ R (BZ R (iR R)<|iR R)<|xO R<|Zh<|C _ _ wk<|J1 _ (AI [(A+1)]) (Zf aw).symm
theorem vP{q r}(h:Lj q=some r):AY prog 85 [qe q] (.r<|.sl<|r.map<|Ai .i64):=by
 unfold Lj at h
 refine mF func85 ntmps85 R λF=>aU<|AG R<|aU<|AG R<|aS λK3 c3 M=>AK R<|xL CN R<|mM R<|aZ<|Zg<|Bb h λo1 C O=>?_
 have J1:∀(j:List Int) (I:NN),o1=j->K3 ⟨[(3,.own 5003<|I 0)],(If (I 0)<|j.map<|Ai .i64),(I 1),22⟩:=by
  intro j I e
  have h1:=O _ e
  exact c3 _<|AK R<|AG R<|Zj<|C3 (P:=prog) (λ(r:(List Int))=>.r<|.sl<|r.map<|Ai .i64) h1 iL<|.t<|.one<|.own R
 refine C0 (λ(J:Int) (l:List Int) w=>⟨(R2 (w 0) (qe q) (rL q) J),(If (w 0)<|l.map<|Ai .i64),(w 1),22⟩) (AI [F,(F+1)]) C (Zn (Zn (HC 3 5003 3 1 (by decide) R)<|by exact AZ.cv (e':=[(0,qe q),(2,cZ),(3,.own 5003 F),(6,qe q),(7,rL q),(8,rI 0)]) (h':=(If F<|([]:List Int).map<|Ai .i64)) ⟨jL,jL,jL,jL,jL,jL,Za⟩ ⟨.inl R,Za⟩ nL) wk) ?_
 intro J l w v1 T U
 have h2:FY q J l=some v1:=T;unfold FY at h2
 refine aU<|xS R<|Ar λc7=>cI R h2 (λV=>?_) λV=>?_
 .refine Zc<|c7 _<|aS λK8 c8 E=>Zg<|Bb V λp1 X Z=>?_
  have J2:∀(m:List Int) (B:NN),p1=m->K8 ⟨(R2 (B 0) (qe q) (rL q) J),(If (B 0)<|m.map<|Ai .i64),(B 1),22⟩:=by
   intro m B e
   have h4:=Z _ e
   exact c8 _<|aR<|AE h4 λx4 a0 h5=>xA R a0<|mM R<|Zh<|ZE h5 (AI [(B 0),(B 1)]) wk
  refine aU<|AE X λx5 a1 h6=>xI CN R a1<|xB ((Eh x5)) Kb R<|sS R (BT (cs:=QY) 5 R On R R)<|Zk R R (BF (ds:=(Eh x5)) R NR iL R iL R R R R)<|FS<|lF EP AJ R R<|xU R<|aZ<|cI R h6 (λh7=>?_) λh7=>?_
  .exact Ah R<|lF EP AJ R R<|sS R (CA 18 R Bo (f:=(Ai .i64)) (l:=([x5.Ref]:List Int)) ⟨R,⟨_,iL,R⟩,Za⟩ R (λ_=>R) R)<|AE h7 λa2 A h8=>sS R (DN R Bo iL R (.inr<|.inl ⟨_,_,iL,R⟩) A)<|mA R<|Zh<|E _ _ wk<|J2 _ (AI [((w 1)+2),((w 1)+3)]) (Zf h8).symm
  exact Zc<|E _ _ wk<|J2 _ (AI [(w 0),((w 1)+1)]) (Zf h7).symm
 exact Zm<|M _ _ wk<|J1 _ (AI [(w 0),(w 1)])<|xH U V
theorem lh{w r}(h:MW w=some r):BI prog 85 1 [qe w] [] (λrr h'=>∃(i:Nat->Nat),rr=.own 1000 (i 0)/\h'=(PN (i 0)<|r.map<|Ai .i64)):=by
 unfold MW at h
 refine E0 func85 R R ntmps85 (Zw R) λI=>aU<|AG R<|aU<|AG R<|aS λK3 c3 M=>AK R<|xL CN R<|mM R<|aZ<|Zg<|Bb h λo1 E O=>?_
 have J1:∀(j:List Int) (l:NN),o1=j->K3 ⟨[(3,.own 5003<|l 0)],(If (l 0)<|j.map<|Ai .i64),(l 1),22⟩:=by
  intro j l e
  have h1:=O _ e
  refine c3 _<|AK R<|AG R ?_
  exact Zj<|CB.mk (s':=⟨[(2,.own 1000<|l 1)],(PN (l 1)<|j.map<|Ai .i64),((l 1)+1),22⟩) (Zn (Zn (AZ.ren 2 5003 1000 R R R)<|by exact AZ.cv (e':=[(2,.own 1000<|l 1)]) (h':=(PN (l 1)<|j.map<|Ai .i64)) ⟨jL,Za⟩ ⟨.inl R,Za⟩ nL) wk)<|Cc (λ(r:(List Int)) rr h'=>∃(i:Nat->Nat),rr=.own 1000 (i 0)/\h'=(PN (i 0)<|r.map<|Ai .i64)) h1<|by exact⟨.own 1000<|l 1,(PN (l 1)<|j.map<|Ai .i64),R,⟨.inr R,Za⟩,R,R,AI [(l 1)],R,R⟩
 refine C0 (λ(J:Int) (m:List Int) A=>⟨(R2 (A 0) (qe w) (rL w) J),(If (A 0)<|m.map<|Ai .i64),(A 1),22⟩) (AI [I,(I+1)]) E (Zn (Zn (HC 3 5003 3 1 (by decide) R)<|by exact AZ.cv (e':=[(0,qe w),(2,cZ),(3,.own 5003 I),(6,qe w),(7,rL w),(8,rI 0)]) (h':=(If I<|([]:List Int).map<|Ai .i64)) ⟨jL,jL,jL,jL,jL,jL,Za⟩ ⟨.inl R,Za⟩ nL) wk) ?_
 intro J m A v1 T U
 have h2:Hw w J m=some v1:=T;unfold Hw at h2
 refine aU<|xS R<|Ar λc7=>cI R h2 (λV=>?_) λV=>?_
 .refine Zc<|c7 _<|aS λK8 c8 F=>Zg<|Bb V λp1 X Z=>?_
  have J2:∀(q:List Int) (C:NN),p1=q->K8 ⟨(R2 (C 0) (qe w) (rL w) J),(If (C 0)<|q.map<|Ai .i64),(C 1),22⟩:=by
   intro q C e
   have h4:=Z _ e
   exact c8 _<|aR<|AE h4 λx4 a0 h5=>xA R a0<|mM R<|Zh<|ZE h5 (AI [(C 0),(C 1)]) wk
  refine aU<|AE X λx5 a1 h6=>xI CN R a1<|xB ((Eh x5)) Kb R<|sS R (BT (cs:=QY) 5 R On R R)<|Zk R R (BF (ds:=(Eh x5)) R NR iL R iL R R R R)<|FS<|lF EP AJ R R<|xU R<|aZ<|cI R h6 (λh7=>?_) λh7=>?_
  .exact Ah R<|lF EP AJ R R<|sS R (CA 18 R Bo (f:=(Ai .i64)) (l:=([x5.Ref]:List Int)) ⟨R,⟨_,iL,R⟩,Za⟩ R (λ_=>R) R)<|AE h7 λa2 B h8=>sS R (DN R Bo iL R (.inr<|.inl ⟨_,_,iL,R⟩) B)<|mA R<|Zh<|F _ _ wk<|J2 _ (AI [((A 1)+2),((A 1)+3)]) (Zf h8).symm
  exact Zc<|F _ _ wk<|J2 _ (AI [(A 0),((A 1)+1)]) (Zf h7).symm
 exact Zm<|M _ _ wk<|J1 _ (AI [(A 0),(A 1)])<|xH U V
theorem iN{n1 r}(h:It n1=some r):AY prog 51 (JG n1) (.r<|.sl<|r.map<|Ai .i64):=by
 unfold It at h
 refine mF func51 ntmps51 R λn0=>aU<|sS R (BD (cs:=(A8 n1)) 1 R iL R R)<|AG R<|aT λc2=>aR<|lF Ew E5 R R<|AE h λw1 I h1=>?_
 refine ZB [8] (hc:=[]) (bs:=[qe n1.Flow]) (caps:=[]) R R R R iL R ⟨.inl ⟨iL,R⟩,Za⟩ Za (by decide) (lh I) ?_
 intro i1 n2
 refine Bi [0,1,2,6,7,8] [1,8] ?_
 refine AG R<|c2 _<|aS λK3 c3 J=>aU<|sQ R (fB R Ej iL fR R)<|lF EU Ek R R<|xL CD R<|mM R<|aZ<|Zg<|Bb h1 λo1 B M=>?_
 have J1:∀(j:List Int) (E:NN),o1=j->K3 ⟨[(3,.own 8<|E 0)],[aX 8 (E 0) 3 1<|j.map<|Ai .i64],(E 1),27⟩:=by
  intro j E e
  have h2:=M _ e
  exact c3 _<|AK R<|AG R<|Zj<|C3 (P:=prog) (λ(r:(List Int))=>.r<|.sl<|r.map<|Ai .i64) h2 iL<|.t<|.one<|.own R
 refine C0 (λ(F:Int) (l:List Int) q=>⟨[(3,.own 8<|q 0),(11,qc n1.Grid.Cells),(12,rL n1.Grid.Cells),(13,rI F)],[aX 8 (q 0) 3 1<|l.map<|Ai .i64],(q 1),27⟩) (AI [(i1 0),n2]) B wk ?_
 intro F l q v1 O T
 have h3:E8 n1 F l=some v1:=O;unfold E8 at h3
 refine aU<|xS R<|Ar λc7=>cI R h3 (λU=>?_) λU=>?_
 .refine Zc<|c7 _<|aS λK8 c8 C=>Zg<|Bb U λp1 V X=>?_
  have J2:∀(m:List Int) (A:NN),p1=m->K8 ⟨[(3,.own 8<|A 0),(11,qc n1.Grid.Cells),(12,rL n1.Grid.Cells),(13,rI F)],[aX 8 (A 0) 3 1<|m.map<|Ai .i64],(A 1),27⟩:=by
   intro m A e
   have h5:=X _ e
   exact c8 _<|aR<|AE h5 λx4 Z h6=>xA R Z<|mM R<|Zh<|ZE h6 (AI [(A 0),(A 1)]) wk
  refine aU<|AE V λx5 a0 h7=>xI CD R a0<|xB ((B2 x5)) FR R<|sS R (BT (cs:=Iz) 5 R IP R R)<|Zk R R (BF (ds:=(B2 x5)) R Ih iL R iL R R R R)<|FS<|lF Ez AJ R R<|xU R<|aZ<|cI R h7 (λh8=>?_) λh8=>?_
  .exact Ah R<|lF Ez AJ R R<|sS R (CA 23 R Bo (f:=(Ai .i64)) (l:=([x5.Ref]:List Int)) ⟨R,⟨_,iL,R⟩,Za⟩ R (λ_=>R) R)<|AE h8 λa1 w h9=>sS R (DN R Bo iL R (.inr<|.inl ⟨_,_,iL,R⟩) w)<|mA R<|Zh<|C _ _ wk<|J2 _ (AI [((q 1)+2),((q 1)+3)]) (Zf h9).symm
  exact Zc<|C _ _ wk<|J2 _ (AI [(q 0),((q 1)+1)]) (Zf h8).symm
 exact Zm<|J _ _ wk<|J1 _ (AI [(q 0),(q 1)])<|xH T U
theorem cM{n1 i r}(h:NG n1 i=some r):AY prog 89 [.agg<|A8 n1,rI i] (rI r):=by
 unfold NG at h
 refine mF func89 ntmps89 R λq=>aU<|sS R (BD (cs:=(A8 n1)) 2 R iL R R)<|AG R<|aT λm=>Zg<|aU<|lF Ea AJ R R<|mM R<|xS R<|AG R<|cI R h (λj=>?_) λj=>?_
 .exact zI j R id
 refine aU<|lF Ea AJ R R<|mM R<|sQ R (Bd R iL iL)<|AG R<|cI R j (λl=>?_) λl=>?_
 .exact zI l R id
 exact Zc<|m _<|zI l R id
theorem nH{l a r}(h:S4 l a=some r):AY prog 88 [qb l,rI a,.fn 89 []] (.tup [rI r.1,rB r.2]):=by
 unfold S4 at h
 refine mF func88 ntmps88 R λn0=>aU<|mA R<|AG R<|AK R<|xL B7 R<|AG R<|AK R<|mA R<|AG R<|aS λK4 c4 A=>Zg<|Bb h λo1 m B=>?_
 have J1:∀(i8:Int) (i9:NN),o1=i8->K4 ⟨[(0,qb l),(1,rI a),(2,.fn 89 []),(8,rL l),(9,rI i8)],[],(i9 0),49⟩:=by
  intro i8 i9 e
  have h1:=B _ e
  exact c4 _<|AK R<|mM R<|mM R<|xS R<|mM R<|vM R<|vM R<|vM R<|AE h1 λj C h2=>vQ R (BN R B7.slice (iR R) (iR R) (λ_=>R)<|Af C)<|vQ R (EB (cs:=(A8 j)) R D8 (iR R) R R)<|vM R<|AE h2 λr1 E h3=>AN.stepW (.one R R R) R R (Db (r:=rI r1) (caps:=[]) (bs:=[.agg<|A8 j,rI a]) R (iR R) R ⟨⟨_,(iR R),.g (cs:=[.int .i64 j.ID,.int .i64 j.Kind,.sl<|j.Attrs.map AH.row,.sl<|j.Flow.map Aq.row,.int .i64 j.Grid.Rows,.int .i64 j.Grid.Cols,.sl<|j.Grid.Cells.map Aw.row,.sl<|j.Grid.Merges.map At.row,.sl<|j.Draw.map BA.row]) R R⟩,⟨_,(iR R),.d R⟩,Za⟩ (λhg=>cM<|Af E hg) R)<|vQ R (BB R (iR R) iL)<|xN R<|mA R<|AG R<|Zj<|EI (P:=prog) (λ(r:Int × Bool)=>rI r.1) (λ(r:Int × Bool)=>rB r.2) h3 iL (.t<|.d R)<|.t<|.d R
 refine C0 (λ(F:Int) (I:Int) q=>⟨[(0,qb l),(1,rI a),(2,.fn 89 []),(8,rL l),(9,rI F),(10,rI I)],[],(q 0),49⟩) (AI [n0]) m wk ?_
 intro F I q v1 J M
 have h4:MC l a F I=some v1:=J;unfold MC at h4
 refine aT λc6=>AK R<|mM R<|xS R<|aZ<|cI R h4 (λO=>?_) λO=>?_
 .refine Zc<|c6 _<|Zg<|AK R<|mM R<|AE O λx3 T h6=>xA R T<|sQ R (D3 R underlying3 underlying181 iL)<|sQ R (SQ (b:=1) R iL iL)<|sQ R (D3 R underlying181 underlying3 iL)<|AG R<|aT λc9=>aF [0,1,2,8,9,10,11] ?_
  refine Ah R<|mM R<|mM R<|AE h6 λx4 U h7=>xI B7 R U<|xB ((A8 x4)) D8 R<|mM R<|AE h7 λr2 V h8=>cL (cM<|V) R<|xS R<|aZ<|c9 _<|cI R h8 (λX=>?_) λX=>?_
  .refine aF [0,1,2,8,10,11] ?_
   exact Ah R<|AE X λa0 w Z=>xA R w<|mA R<|Zh<|ZE Z (AI [(q 0)]) wk
  refine aF [0,1,2,8,9,11] ?_
  exact Ah R<|mA R<|Zh<|ZE X (AI [(q 0)]) wk
 exact Zm<|A _ _ wk<|J1 _ (AI [(q 0)])<|xH M O
theorem Q5{d1 i r}(h:Gb d1 i=some r):AY prog 48 [.agg [qb d1.Nodes],rI i] (.tup [rI r.1,rB r.2]):=by
 unfold Gb at h
 exact mF func48 ntmps48 R λw=>aU<|sS R (BD (cs:=[qb d1.Nodes]) 2 R iL R R)<|mA R<|AG R<|aU<|lF CZ Cf R R<|mM R<|FD h λl m j q=>sS R (Db (r:=.tup [rI l,rB m]) (caps:=[]) (bs:=[qb d1.Nodes,rI i,.fn 89 []]) R iL R ⟨⟨_,iL,.d R⟩,⟨_,iL,.d R⟩,⟨_,iL,.one<|.closed (.fn 89 []) R⟩,Za⟩ (λ_=>nH<|j) R)<|xX R<|xX R<|mA R<|AG R<|Zj<|EI (P:=prog) (λ(r:Int × Bool)=>rI r.1) (λ(r:Int × Bool)=>rB r.2) q iL (.t<|.d R)<|.t<|.d R
theorem ig{j v1 r}(h:Rh j v1=some r):AY prog 74 [.r<|.sl<|j.map<|Ai .i64,rI v1] (rI r):=by
 unfold Rh at h
 refine mF func74 ntmps74 R λX=>aU<|AG R<|aS λZ c2 w=>AK R<|xL Bo R<|mM R<|aZ<|Zg<|BU h λo1 l A B=>?_
 have J1:∀(T:Unit) (U:NN),o1=.nrm T->Z ⟨[],[],(U 0),19⟩:=by
  intro T U e
  have h1:=A _ e
  exact c2 _<|zI h1 R id
 refine Zv (λ(C:Int) q=>⟨[(0,.r<|.sl<|j.map<|Ai .i64),(1,rI v1),(7,rL j),(8,rI C)],[],(q 0),19⟩) (AI [X]) l wk ?_
 intro C q v2 E m
 have V:P6 j v1 C=some v2:=E;unfold P6 at V
 refine aU<|xS R<|Ar λc6=>cI R V (λF=>?_) λF=>?_
 .refine Zc<|c6 _<|aT λc7=>Zg<|AK R<|AG R<|AK R<|mM R<|mM R<|AE F λx4 I h4=>xI Bo R I<|xV (.int .i64 x4) AJ R<|xQ R<|aZ<|cI R h4 (λJ=>?_) λJ=>?_
  .refine aT λM=>aF [5] ?_
   exact Ah R<|AG R<|M _<|Zj<|yI (B _<|xH m J) R
  refine Zc<|c7 _<|aF [0,1,7,8] ?_
  exact aR<|AE J λx5 O h6=>xA R O<|mM R<|Zh<|Zr h6 (AI [(q 0)]) wk
 exact Zm<|w _ _ wk<|J1 _ (AI [(q 0)])<|xH m F
theorem pR{l v1 r}(h:NP l v1=some r):AY prog 37 [.r<|.sl<|l.map<|Ai .i64,rI v1] (rB r):=by
 unfold NP at h
 exact mF func37 ntmps37 R λq=>aU<|AG R<|AK R<|mM R<|AE h λw j m=>cL (ig<|j) R<|sQ R (DE R iL iL)<|AG R<|Zj<|yB m R
theorem io{p k r}(h:QE p k=some r):AY prog 99 [rI p,rI k] (rB r):=by
 unfold QE at h
 refine mF func99 ntmps99 R λC=>aU<|AG R<|aU<|AG R<|aS λK3 c3 j=>AK R<|aZ<|Zg<|Bb h λp1 E J=>?_
 have l:∀(M:List Int) (i1:NN),p1=M->K3 ⟨[(1,rI k),(5,.r<|.sl<|M.map<|Ai .i64)],[],(i1 0),29⟩:=by
  intro M i1 e
  have h1:=J _ e
  exact c3 _<|AK R<|mM R<|AE h1 λr1 O h2=>cL (pR<|O) R<|AG R<|Zj<|yB h2 R
 refine aU<|xQ R<|AG R<|aC R (λm=>?_) λm=>?_
 .have T:=D2 m E
  refine aR<|sS R (CA 9 R Bo (f:=(Ai .i64)) (l:=([1,6,7,10,11,12]:List Int)) ⟨R,⟨_,iL,R⟩,R,⟨_,iL,R⟩,R,⟨_,iL,R⟩,R,⟨_,iL,R⟩,R,⟨_,iL,R⟩,R,⟨_,iL,R⟩,Za⟩ R (λ_=>R) R)<|mA R<|Zh ?_
  exact j _ _ (Zn (by exact AZ.frz (e':=[(0,rI p),(1,rI k),(4,rB false),(5,.r<|.sl<|[1,6,7,10,11,12].map<|Ai .i64),(6,rI p),(7,rB<|(decide<|p=0)),(8,rB<|(decide<|p=0)),(9,.r<|.sl<|[1,6,7,10,11,12].map<|Ai .i64)]) (h':=[]) 9 R ⟨jL,jL,jL,.inl<|.inr<|.inr ⟨R,R⟩,jL,jL,jL,.inl<|.inr<|.inr ⟨R,R⟩,Za⟩ Za) wk)<|l _ (AI [(C+1)]) (Zf T).symm
 .have T:=Dw m E
  refine aU<|xQ R<|AG R<|cI R T (λU=>?_) λU=>?_
  .refine aR<|sS R (CA 12 R Bo (f:=(Ai .i64)) (l:=([2,4,5,10]:List Int)) ⟨R,⟨_,iL,R⟩,R,⟨_,iL,R⟩,R,⟨_,iL,R⟩,R,⟨_,iL,R⟩,Za⟩ R (λ_=>R) R)<|mA R<|Zh ?_
   exact j _ _ (Zn (by exact AZ.frz (e':=[(0,rI p),(1,rI k),(4,rB false),(5,.r<|.sl<|[2,4,5,10].map<|Ai .i64),(6,rI p),(7,rB<|(decide<|p=0)),(8,rB<|(decide<|p=0)),(10,rB<|(decide<|p=1)),(11,rB<|(decide<|p=1)),(12,.r<|.sl<|[2,4,5,10].map<|Ai .i64)]) (h':=[]) 12 R ⟨jL,jL,jL,.inl<|.inr<|.inr ⟨R,R⟩,jL,jL,jL,jL,jL,.inl<|.inr<|.inr ⟨R,R⟩,Za⟩ Za) wk)<|l _ (AI [(C+1)]) (Zf U).symm
  refine aU<|xQ R<|AG R<|cI R U (λV=>?_) λV=>?_
  .refine aF [1] ?_
   refine aR<|sS R (CA 15 R Bo (f:=(Ai .i64)) (l:=([4,5,10]:List Int)) ⟨R,⟨_,iL,R⟩,R,⟨_,iL,R⟩,R,⟨_,iL,R⟩,Za⟩ R (λ_=>R) R)<|mA R<|Zh ?_
   exact j _ _ (Zn (by exact AZ.frz (e':=[(1,rI k),(5,.r<|.sl<|[4,5,10].map<|Ai .i64),(15,.r<|.sl<|[4,5,10].map<|Ai .i64)]) (h':=[]) 15 R ⟨jL,.inl<|.inr<|.inr ⟨R,R⟩,.inl<|.inr<|.inr ⟨R,R⟩,Za⟩ Za) wk)<|l _ (AI [(C+1)]) (Zf V).symm
  refine aS λK9 c9 F=>aU<|xQ R<|AG R<|Bb V λp2 I X=>?_
  have J2:∀(A:Bool) (B:NN),p2=A->K9 ⟨[(1,rI k),(5,cZ),(6,rI p),(16,rB A)],[],(B 0),29⟩:=by
   intro A B e
   have h6:=X _ e
   refine c9 _<|cI R h6 (λZ=>?_) λZ=>?_
   .refine aR<|sS R (CA 19 R Bo (f:=(Ai .i64)) (l:=([5]:List Int)) ⟨R,⟨_,iL,R⟩,Za⟩ R (λ_=>R) R)<|mA R<|Zh ?_
    exact j _ _ (Zn (by exact AZ.frz (e':=[(1,rI k),(5,.r<|.sl<|[5].map<|Ai .i64),(6,rI p),(16,rB A),(19,.r<|.sl<|[5].map<|Ai .i64)]) (h':=[]) 19 R ⟨jL,.inl<|.inr<|.inr ⟨R,R⟩,jL,jL,.inl<|.inr<|.inr ⟨R,R⟩,Za⟩ Za) wk)<|l _ (AI [((B 0)+1)]) (Zf Z).symm
   refine aU<|xQ R<|AG R<|cI R Z (λh8=>?_) λh8=>?_
   .refine aR<|sS R (CA 22 R Bo (f:=(Ai .i64)) (l:=([3]:List Int)) ⟨R,⟨_,iL,R⟩,Za⟩ R (λ_=>R) R)<|mA R<|Zh ?_
    exact j _ _ (Zn (by exact AZ.frz (e':=[(1,rI k),(5,.r<|.sl<|[3].map<|Ai .i64),(6,rI p),(16,rB A),(20,rB<|(decide<|p=2)),(21,rB<|(decide<|p=2)),(22,.r<|.sl<|[3].map<|Ai .i64)]) (h':=[]) 22 R ⟨jL,.inl<|.inr<|.inr ⟨R,R⟩,jL,jL,jL,jL,.inl<|.inr<|.inr ⟨R,R⟩,Za⟩ Za) wk)<|l _ (AI [((B 0)+1)]) (Zf h8).symm
   refine aU<|xQ R<|AG R<|cI R h8 (λh9=>?_) λh9=>?_
   .refine aR<|sS R (CA 25 R Bo (f:=(Ai .i64)) (l:=([8,9]:List Int)) ⟨R,⟨_,iL,R⟩,R,⟨_,iL,R⟩,Za⟩ R (λ_=>R) R)<|mA R<|Zh ?_
    exact j _ _ (Zn (by exact AZ.frz (e':=[(1,rI k),(5,.r<|.sl<|[8,9].map<|Ai .i64),(6,rI p),(16,rB A),(20,rB<|(decide<|p=2)),(21,rB<|(decide<|p=2)),(23,rB<|(decide<|p=7)),(24,rB<|(decide<|p=7)),(25,.r<|.sl<|[8,9].map<|Ai .i64)]) (h':=[]) 25 R ⟨jL,.inl<|.inr<|.inr ⟨R,R⟩,jL,jL,jL,jL,jL,jL,.inl<|.inr<|.inr ⟨R,R⟩,Za⟩ Za) wk)<|l _ (AI [((B 0)+1)]) (Zf h9).symm
   refine Zc ?_
   exact j _ _ ((by exact AZ.cv ⟨jL,.inl<|.inr<|.inr ⟨R,R⟩,Za⟩ Za nL))<|l _ (AI [(B 0)]) (Zf h9).symm
  refine aC R (λq=>?_) λq=>?_
  .have w:=D2 q I
   exact Zc<|F _ _ wk<|J2 _ (AI [C]) (Zf w).symm
  .have w:=Dw q I
   refine aF [1,5,6] ?_
   exact aR<|xQ R<|mA R<|Zh<|F _ _ wk<|J2 _ (AI [C]) (Zf w).symm
theorem lO{d1 k a r}(h:Iv d1 k a=some r):AY prog 50 [.agg [qb d1.Nodes],rI k,.r<|.sl<|a.map<|Ai .i64] (rI r):=by
 unfold Iv at h
 refine mF func50 ntmps50 R λw=>aU<|sS R (BD (cs:=[qb d1.Nodes]) 3 R iL R R)<|AG R<|aS λK2 c2 A=>AK R<|xL Bo R<|mM R<|aZ<|Zg<|BU h λo1 l B m=>?_
 have J1:∀(u2:Unit) (i5:NN),o1=.nrm u2->K2 ⟨[],[],(i5 0),35⟩:=by
  intro u2 i5 e
  have h1:=B _ e
  exact c2 _<|zI h1 R id
 refine Zv (λ(C:Int) q=>⟨[(1,rI k),(3,pT 3 w),(11,.r<|.sl<|a.map<|Ai .i64),(12,rL a),(13,rI C)],(O6 w<|qb d1.Nodes),(q 0),35⟩) (AI [(w+1)]) l wk ?_
 intro C q v1 E j
 have h2:Ib d1 k a C=some v1:=E;unfold Ib at h2
 refine aU<|xS R<|Ar λc6=>cI R h2 (λF=>?_) λF=>?_
 .refine Zc<|c6 _<|aT λc7=>Zg<|aU<|AE F λx4 I h4=>xI Bo R I<|xV (.int .i64 x4) AJ R<|AG R<|aU<|xC CG R<|mM R<|FD h4 λr1 r2 J h5=>cL (Q5<|J) R<|mM R<|xX R<|xX R<|mA R<|AG R<|aT λM=>aT λO=>aG [1,3,9,10,11,12,13] [3] ?_
  refine Ah R<|sQ R (BC R iL)<|aZ<|O _<|cI R h5 (λT=>?_) λT=>?_
  .exact zI (m _<|xH j T) R id
  refine Zc<|M _<|AK R<|lF CZ Cf R R<|mM R<|AE T λx5 U h7=>xI B7 R U<|sQ R (BL R CH iL)<|xV (.int .i64 x5.Kind) AJ R<|AE h7 λr3 V h8=>cL (io<|V) R<|sQ R (BC R iL)<|aZ<|cI R h8 (λX=>?_) λX=>?_
  .exact zI (m _<|xH j X) R id
  refine Zc<|c7 _<|aG [1,3,11,12,13] [3] ?_
  exact aR<|AE X λx6 Z a0=>xA R Z<|mM R<|Zh<|Zr a0 (AI [(q 0)]) wk
 exact Zm<|A _ _ wk<|J1 _ (AI [(q 0)])<|xH j F
theorem Wx{d1 r}(h:Fa d1=some r):AY prog 25 [.agg [qb d1.Nodes]] (rI r):=by
 unfold Fa at h
 refine mF func25 ntmps25 R λl=>aU<|sS R (BD (cs:=[qb d1.Nodes]) 1 R iL R R)<|AG R<|aT λc2=>aU<|lF CZ Cf R R<|xL B7 R<|xQ R<|aZ<|cI R h (λX=>?_) λX=>?_
 .exact zI X R id
 refine Zc<|c2 _<|aS λK5 c5 Z=>aU<|lF CZ Cf R R<|xL B7 R<|mM R<|aZ<|Zg<|BU X λo1 B a0 C=>?_
 have J1:∀(u2:Unit) (i5:NN),o1=.nrm u2->K5 ⟨[(1,pT 1 l)],(FN l<|qb d1.Nodes),(i5 0),67⟩:=by
  intro u2 i5 e
  have h2:=a0 _ e
  refine c5 _<|aS λK7 c7 a1=>aU<|lF CZ Cf R R<|xL B7 R<|mM R<|aZ<|Zg<|BU h2 λo2 E a2 a6=>?_
  have J2:∀(u4:Unit) (F:NN),o2=.nrm u4->K7 ⟨[],[],(F 0),67⟩:=by
   intro u4 F e
   have h3:=a2 _ e
   exact c7 _<|zI h3 R id
  refine Zv (λ(x5:Int) i8=>⟨[(1,pT 1 l),(51,qb d1.Nodes),(52,rL d1.Nodes),(53,rI x5)],(FN l<|qb d1.Nodes),(i8 0),67⟩) (AI [(i5 0)]) E wk ?_
  intro x5 i8 v1 a7 I
  have h4:Ho d1 x5=some v1:=a7;unfold Ho at h4
  refine aU<|xS R<|Ar λa8=>cI R h4 (λh5=>?_) λh5=>?_
  .refine Zc<|a8 _<|aT λaa=>Zg<|aU<|AE h5 λj ab h6=>xI B7 R ab<|xB ((A8 j)) D8 R<|sS R (BT (cs:=E7) 7 R Ia R R)<|Zk R R (BF (ds:=(A8 j)) R HV iL R iL R R R R)<|Ar λac=>AE h6 λr1 ad h7=>?_
   refine rP 5 [pO 57<|.agg [qb d1.Nodes],pO 58<|.ptr 7 (i8 0) 0 1,pO 59<|rI j.Kind,pO 60<|.agg<|A8 j,pO 61<|.r<|.sl<|r1.map<|Ai .i64] BP R (by exact⟨oB [(1,pT 1 l)] (FN l<|qb d1.Nodes)<|EW R CG (.inl R) R R,oB [(7,pT 7<|i8 0)] [bX 7 (i8 0) 44<|A8 j]<|fB R CH (.inl R) (λ_=>R) R,oB [(58,.ptr 7 (i8 0) 0 1)] [bX 7 (i8 0) 44<|A8 j]<|Ab (a:=rI j.Kind) R AJ (.inl R) R R,oB [(7,pT 7<|i8 0)] [bX 7 (i8 0) 44<|A8 j]<|EW R D8 (.inl R) R R,oD (λ_=>[(60,.agg<|A8 j)]) (λ_=>[]) λG1 e h' n=>Dz (r:=.r<|.sl<|r1.map<|Ai .i64) (caps:=[]) (bs:=(JG j)) R (.inl R) R ⟨.inl ⟨(.inl R),R⟩,Za⟩ λ_=>iN<|ad,Za⟩) λG1 n1=>?_
   refine Bi [1,7,51,52,53,54,55,56,57,58,59,60,61] [1,7] ?_
   refine AE h7 λe1 ae h8=>cL (lO<|ae) R<|AG R<|ac _<|aT λaf=>aG [1,8,51,52,53] [1] ?_
   refine Ah R<|xU R<|aZ<|af _<|cI R h8 (λh9=>?_) λh9=>?_
   .exact AK R<|AG R<|Zj<|yI (a6 _<|xH I h9) R
   exact Zc<|aa _<|aR<|AE h9 λx8 ag ah=>xA R ag<|mM R<|Zh<|Zr ah (AI [n1]) wk
  exact Zm<|a1 _ _ wk<|J2 _ (AI [(i8 0)])<|xH I h5
 refine Zv (λ(x2:Int) U=>⟨[(1,pT 1 l),(14,qb d1.Nodes),(15,rL d1.Nodes),(16,rI x2)],(FN l<|qb d1.Nodes),(U 0),67⟩) (AI [(l+1)]) B wk ?_
 intro x2 U v2 ai m
 have J:FK d1 x2=some v2:=ai;unfold FK at J
 refine aU<|xS R<|Ar λaj=>cI R J (λq=>?_) λq=>?_
 .refine Zc<|aj _<|aT λak=>Zg<|AK R<|AE q λV al an=>xI B7 R al<|xB ((A8 V)) D8 R<|sS R (BT (cs:=E7) 4 R Ia R R)<|mA R<|Zk R R (BF (ds:=(A8 V)) R HV iL R iL R R R R)<|Ar λao=>aU<|xC D8 R<|AE an λe2 aq ar=>cL (mh<|aq) R<|AG R<|AK R<|xU R<|aZ<|cI R ar (λw=>?_) λw=>?_
  .refine aT λau=>aF [5] ?_
   exact Ah R<|AG R<|au _<|Zj<|yI (C _<|xH m w) R
  refine Zc<|ao _<|aT λav=>aG [1,3,4,14,15,16] [1,4] ?_
  refine Zz BP (by kernel_rfl) ?_
  refine qP R (AM R iL)<|qP R (BB R iL iL)<|qP R (AM R iL)<|qO R (fB R Ea iL fR R)<|qO R (Ab (a:=rI V.ID) R AJ (iR R) R R)<|qO R (Cm R (iR R) iL)<|qP R (BZ R iL<|iR R)<|qP R (AM R iL)<|qO R (AM R iL)<|qO R (Bd R (iR R) iL)<|qO R (AM R<|iR R)<|qT R (fB R Ea iL fR R)<|qT R (Ab (a:=rI V.ID) R AJ (iR R) R R)<|qT R (fB R CZ iL fR R)<|qT R (Ab (a:=qb d1.Nodes) R Cf (iR R) R R)<|qT R (AM R iL)<|AE w λb0 M aw=>qT R (CJ R (iR R) iL<|Af M)<|AE aw λax O ay=>qT R (BN R B7.slice (iR R) (iR R) (λ_=>R)<|Af O)<|qT R (BL R Ea<|iR R)<|qT R (Bm (d:=.int .i64 ax.ID) R AJ (iR R) R)<|qT R (FA R (iR R)<|iR R)<|qO R (BZ R (iR R)<|iR R)<|qP R (CS R iL<|iR R)<|AQ.nil<|av _<|cI R ay (λA=>?_) λA=>?_
  .exact zI (C _<|xH m A) R id
  exact Zc<|ak _<|aR<|AE A λb1 T az=>xA R T<|mM R<|Zh<|Zr az (AI [((U 0)+1)]) wk
 exact Zm<|Z _ _ wk<|J1 _ (AI [(U 0)])<|xH m q
theorem VB{d1 i r}(h:L0 d1 i=some r):AY prog 21 [.agg [qb d1.Nodes],rI i] (rI r):=by
 unfold L0 at h
 refine mF func21 ntmps21 R λA=>aU<|sS R (BD (cs:=[qb d1.Nodes]) 2 R iL R R)<|AG R<|aT λm=>aU<|xC CG R<|mM R<|FD h λB C j q=>cL (Q5<|j) R<|mM R<|xX R<|xX R<|mA R<|AG R<|aT λw=>aF [5,6] ?_
 refine Ah R<|aZ<|w _<|cI R q (λl=>?_) λl=>?_
 .exact AK R<|AG R<|Zj<|yI l R
 exact Zc<|m _<|zI l R id
theorem kE{d1 i r}(h:N5 d1 i=some r):AY prog 19 [.agg [qb d1.Nodes],rI i] (rI r):=by
 unfold N5 at h
 refine mF func19 ntmps19 R λT=>aU<|sS R (BD (cs:=[qb d1.Nodes]) 2 R iL R R)<|AG R<|aT λC=>aU<|xC CG R<|AE h λU j E=>cL (Wx<|j) R<|AG R<|AK R<|xU R<|aZ<|cI R E (λl=>?_) λl=>?_
 .exact AK R<|AG R<|Zj<|yI l R
 refine Zc<|C _<|aU<|xC CG R<|mM R<|AE l λV m F=>cL (VB<|m) R<|AG R<|aT λI=>aT λJ=>aG [2,6] [2] ?_
 refine Ah R<|xS R<|aZ<|J _<|cI R F (λq=>?_) λq=>?_
 .exact zI q R id
 refine Zc<|I _<|aT λw=>aU<|lF CZ Cf R R<|mM R<|AE q λM A O=>xI B7 R A<|sQ R (BL R CH iL)<|xV (.int .i64 M.Kind) AJ R<|xU R<|aZ<|cI R O (λB=>?_) λB=>?_
 .exact zI B R id
 exact Zc<|w _<|zI B R id
theorem om{B r}(h:P5 B=some r):AY prog 125 [qe B] (qe r):=by
 unfold P5 at h
 refine mF func125 ntmps125 R λn0=>aU<|AG R<|AK R<|xL CN R<|AE h λa1 C h1=>sS R (bK 8 R CN (f:=Aq.row) (z0:=(Aq.mk 0 0 [])) vD iL iL C)<|AG R<|aS λK3 c3 M=>AK R<|xL CN R<|mM R<|aZ<|Zg<|Bb h1 λo1 E O=>?_
 have J1:∀(w:List Aq) (J:NN),o1=w->K3 ⟨[(3,.own 8<|J 0)],[aX 8 (J 0) 51 3<|w.map Aq.row],(J 1),29⟩:=by
  intro w J e
  have h2:=O _ e
  exact c3 _<|AK R<|AG R<|Zj<|C3 (P:=prog) (λ(r:(List Aq))=>qe r) h2 iL<|.t<|.one<|.own R
 refine C0 (λ(A:Int) (m:List Aq) j=>⟨[(3,.own 8<|j 0),(9,qe B),(10,rL B),(11,rI A)],[aX 8 (j 0) 51 3<|m.map Aq.row],(j 1),29⟩) (AI [n0,(n0+1)]) E wk ?_
 intro A m j v1 T U
 have h3:JL B A m=some v1:=T;unfold JL at h3
 refine aU<|xS R<|Ar λc7=>cI R h3 (λV=>?_) λV=>?_
 .refine Zc<|c7 _<|aT λc8=>Zg<|AK R<|AE V λl X h5=>xI CN R X<|xB ((Eh l)) Kb R<|sS R (BT (cs:=QY) 5 R On R R)<|mA R<|Zk R R (BF (ds:=(Eh l)) R NR iL R iL R R R R)<|aZ<|AE h5 λF Z h6=>?_
  refine GZ 10 [pO 16<|.own 8<|j 0,pO 17<|rI A,pO 18<|pT 5<|j 1,pO 19<|rI l.Char,pO 20<|.ptr 5 (j 1) 0 1,pO 21<|rI l.Ref,pO 22<|.ptr 5 (j 1) 0 2,pO 23<|qa l.Attrs,⟨some 24,(λq=>.own 24<|q 8),some (24,(λq=>some<|.arr (q 8) 91 2<|F.map AH.row)),[8]⟩,⟨some 25,(λq=>.agg [rI l.Char,rI l.Ref,.own 24<|q 8]),none,[8]⟩] BP (by kernel_rfl) (by exact⟨zN,zN,zN,zN,zN,zN,zN,zN,zS 8,zS 8,Za⟩) R (by exact⟨oB [(3,.own 8<|j 0)] [aX 8 (j 0) 51 3<|m.map Aq.row]<|AM R<|.inl R,oB [(4,rI A)] []<|AM R<|.inl R,oB [(5,pT 5<|j 1)] (MB (j 1) l)<|fB R Hu (.inl R) (λ_=>R) R,oB [(18,pT 5<|j 1)] (MB (j 1) l)<|Ab (a:=rI l.Char) R AJ (.inl R) R R,oB [(5,pT 5<|j 1)] (MB (j 1) l)<|fB R EP (.inl R) (λ_=>R) R,oB [(20,.ptr 5 (j 1) 0 1)] (MB (j 1) l)<|Ab (a:=rI l.Ref) R AJ (.inl R) R R,oB [(5,pT 5<|j 1)] (MB (j 1) l)<|fB R QS (.inl R) (λ_=>R) R,oB [(22,.ptr 5 (j 1) 0 2)] (MB (j 1) l)<|Ab (a:=qa l.Attrs) R Cq (.inl R) R R,oM (λ_=>[(23,qa l.Attrs)]) (λ_=>[]) R λq e h' n=>MD 24 (f:=AH.row) R BK (.inl R) (.inl ⟨(.inl R),λ_=>R⟩) Z,oC (λq=>[(19,rI l.Char),(21,rI l.Ref),(24,.own 24<|q 8)]) (λq=>[aX 24 (q 8) 91 2<|F.map AH.row]) λq e h'=>Ch R uD (q:=[(0,_),(1,_),(2,_)]) (by exact⟨R,R,R,(.inl R),R,R,R,(.inl R),R,R,R,(.inl R),Za⟩) (cs:=[rI l.Char,rI l.Ref,.own 24<|q 8])<|by rfl,Za⟩) λq n1=>?_
  refine Bi [3,4,5,9,10,11,12,13,14,15,16,17,18,19,20,21,22,23,24,25] [5,8,24] ?_
  refine AE h6 λx5 I h7=>sQ R (EE R CN.slice iL R iL λ_=>I) ?_
  refine AN.weak (by exact AZ.frz (e':=[(3,.own 8<|j 0),(4,rI A),(5,pT 5<|j 1),(9,qe B),(10,rL B),(11,rI A),(12,rB<|(decide<|A<(B.length:Int))),(13,rI A),(14,.rop (Aq.row l) 0),(15,.agg<|Eh l),(16,.own 8<|j 0),(17,rI A),(18,pT 5<|j 1),(19,rI l.Char),(20,.ptr 5 (j 1) 0 1),(21,rI l.Ref),(22,.ptr 5 (j 1) 0 2),(23,qa l.Attrs),(24,qa F),(25,.agg [rI l.Char,rI l.Ref,qa F]),(26,.ptr 8 (j 0) A.toNat 0)]) (h':=[bX 5 (j 1) 51<|Eh l,aX 8 (j 0) 51 3<|m.map Aq.row]) 24 R ⟨jL,jL,jL,jL,jL,jL,jL,jL,jL,jL,jL,jL,jL,jL,jL,jL,jL,jL,.inl<|.inr<|.inr ⟨R,R⟩,.inr ⟨_,_,R,R,⟨.inl R,.inl R,.inr<|.inr ⟨R,R⟩,Za⟩⟩,jL,Za⟩ ⟨R,.inl R,R,.inl R,Za⟩) ?_
  refine Zk R R (Ud (v:=(Aq.mk l.Char l.Ref F)) R NR iL R I iL R R R R)<|aZ<|c8 _<|aG [3,9,10,11] [8] ?_
  exact aR<|AE h7 λx6 a0 h8=>xA R a0<|mM R<|Zh<|ZE h8 (AI [(j 0),n1]) wk
 exact Zm<|M _ _ wk<|J1 _ (AI [(j 0),(j 1)])<|xH U V
theorem oz{n1 r}(h:Qn n1=some r):AY prog 83 (JG n1) (.agg<|A8 r):=by
 unfold Qn at h
 refine mF func83 ntmps83 R λj=>aU<|sS R (BD (cs:=(A8 n1)) 1 R iL R R)<|sS R (BT (cs:=E7) 2 R Ia R R)<|FS<|lF KE Cq R R<|AE h λI J h1=>sS R (MD 8 (f:=AH.row) R BK iL (.inl ⟨iL,λ_=>R⟩) J)<|sQ R (fB R KE iL fR R)<|Zk R R (BF (ds:=[rI n1.ID,rI n1.Kind,.own 8<|j+2,qe n1.Flow,rI n1.Grid.Rows,rI n1.Grid.Cols,qc n1.Grid.Cells,qd n1.Grid.Merges,qf n1.Draw]) R Ls iL R iL R R R R)<|FS<|lF Ew E5 R R<|AE h1 λA M h2=>sS R (Dz (r:=qe A) (caps:=[]) (bs:=[qe n1.Flow]) R iL R ⟨.inl ⟨iL,R⟩,Za⟩ λ_=>om<|M)<|sQ R (fB R Ew iL fR R)<|Zk R R (BF (ds:=[rI n1.ID,rI n1.Kind,.own 8<|j+2,qe A,rI n1.Grid.Rows,rI n1.Grid.Cols,qc n1.Grid.Cells,qd n1.Grid.Merges,qf n1.Draw]) R th iL R iL R R R R)<|Ar λc4=>aG [1,2] [1,2,8] ?_
 refine aR<|lF HF Ic R R<|AE h2 λO T h3=>sS R (MD 16 (f:=BA.row) R FQ iL (.inl ⟨iL,λ_=>R⟩) T)<|sQ R (fB R HF iL fR R)<|Zk R R (BF (ds:=[rI n1.ID,rI n1.Kind,.own 8<|j+2,qe A,rI n1.Grid.Rows,rI n1.Grid.Cols,qc n1.Grid.Cells,qd n1.Grid.Merges,.own 16<|j+3]) R ik iL R iL R R R R)<|aZ<|c4 _<|aU<|sQ R (fB R Ej iL fR R)<|sQ R (LN (ds:=(CY n1.Grid)) R Jj iL R R R)<|sS R (BT (cs:=SZ) 3 R mX R R)<|Zk R R (BF (ds:=(CY n1.Grid)) R Zd iL R iL R R R R)<|FS<|lF Eg E6 R R<|AE h3 λl3 U h4=>sS R (MD 22 (f:=At.row) R DW iL (.inl ⟨iL,λ_=>R⟩) U)<|sQ R (fB R Eg iL fR R)<|Zk R R (BF (ds:=[rI n1.Grid.Rows,rI n1.Grid.Cols,qc n1.Grid.Cells,.own 22<|j+5]) R pI iL R iL R R R R)<|Ar λc7=>aG [1,2,3] [1,2,3,8,16,22] ?_
 refine aR<|lF EU Ek R R<|AE h4 λF V h5=>sS R (MD 26 (f:=Aw.row) R CD iL (.inl ⟨iL,λ_=>R⟩) V)<|sQ R (fB R EU iL fR R)<|Zk R R (BF (ds:=[rI n1.Grid.Rows,rI n1.Grid.Cols,.own 26<|j+6,.own 22<|j+5]) R ma iL R iL R R R R)<|aZ<|c7 _<|aS λK8 c8 X=>aU<|lF EU Ek R R<|sQ R (H1 R CD.slice iL R)<|mM R<|aZ<|Zg<|Bb h5 λo1 C Z=>?_
 have J1:∀(g4:BJ) (B:NN),o1=g4->K8 ⟨[(1,pT 1 j),(2,pT 2<|j+1),(3,pT 3<|j+4)],(ZZ j n1.ID n1.Kind (j+2) (qe A) n1.Grid.Rows n1.Grid.Cols (qc n1.Grid.Cells) (qd n1.Grid.Merges) (j+3) (j+1) E7 (j+4) g4.Rows g4.Cols (B 0) (B 1) I O g4.Merges g4.Cells),(B 2),48⟩:=by
  intro g4 B e
  have h6:=Z _ e
  refine c8 _<|aU<|xC Jj R<|sQ R (fB R Ej iL fR R)<|Zk R R (BF (ds:=[rI n1.ID,rI n1.Kind,.own 8<|j+2,qe A,rI g4.Rows,rI g4.Cols,.own 26<|B 0,.own 22<|B 1,.own 16<|j+3]) R Zd iL R iL R R R R)<|FS<|xC D8 R<|Zk R R (BF (ds:=[rI n1.ID,rI n1.Kind,.own 8<|j+2,qe A,rI g4.Rows,rI g4.Cols,.own 26<|B 0,.own 22<|B 1,.own 16<|j+3]) R HV iL R iL R R R R)<|aZ ?_
  exact Zj<|C3 (P:=prog) (λ(r:Ad)=>.agg<|A8 r) h6 iL<|.a D8 R R R<|.agg<|by exact⟨.closed _ R,.closed _ R,.own R,.closed _ R,.closed _ R,.closed _ R,.own R,.own R,.own R,Za⟩
 refine C0 (λ(q:Int) (g2:BJ) l=>⟨[(1,pT 1 j),(2,pT 2<|j+1),(3,pT 3<|j+4),(29,.own 26<|l 0),(30,rL F),(31,rI q)],(ZZ j n1.ID n1.Kind (j+2) (qe A) n1.Grid.Rows n1.Grid.Cols (qc n1.Grid.Cells) (qd n1.Grid.Merges) (j+3) (j+1) E7 (j+4) g2.Rows g2.Cols (l 0) (l 1) I O g2.Merges g2.Cells),(l 2),48⟩) (AI [(j+6),(j+5),(j+7)]) C wk ?_
 intro q g2 l v1 a0 a1
 have h7:Kh F q g2=some v1:=a0;unfold Kh at h7
 refine aU<|xS R<|Ar λa2=>cI R h7 (λh8=>?_) λh8=>?_
 .refine Zc<|a2 _<|aT λa6=>Zg<|AK R<|AE h8 λm w h9=>sQ R (EE R CD.slice iL R iL λ_=>w)<|sQ R (VP (cs:=(B2 m)) R FR iL fR (λ_=>w) R)<|sS R (BT (cs:=Iz) 5 R IP R R)<|mA R<|Zk R R (BF (ds:=(B2 m)) R Ih iL R iL R R R R)<|aZ<|AE h9 λl5 a7 a8=>?_
  refine GZ 6 [pO 36<|.ptr 3 (j+4) 0 2,pO 37<|.own 26<|l 0,pO 38<|rI q,pO 39<|.ptr 5 (l 2) 0 4,pO 40<|qa m.Attrs,⟨some 41,(λE=>.own 41<|E 5),some (41,(λE=>some<|.arr (E 5) 91 2<|l5.map AH.row)),[5]⟩] BP (by kernel_rfl) (by exact⟨zN,zN,zN,zN,zN,zS 5,Za⟩) R (by exact⟨oB [(3,pT 3<|j+4)] [bX 3 (j+4) 41 [rI g2.Rows,rI g2.Cols,.own 26<|l 0,.own 22<|l 1]]<|fB R EU (.inl R) (λ_=>R) R,oB [(36,.ptr 3 (j+4) 0 2)] [bX 3 (j+4) 41 [rI g2.Rows,rI g2.Cols,.own 26<|l 0,.own 22<|l 1]]<|Ab (a:=.own 26<|l 0) R Ek (.inl R) R R,oB [(4,rI q)] []<|AM R<|.inl R,oB [(5,pT 5<|l 2)] [bX 5 (l 2) 124<|B2 m]<|fB R Hb (.inl R) (λ_=>R) R,oB [(39,.ptr 5 (l 2) 0 4)] [bX 5 (l 2) 124<|B2 m]<|Ab (a:=qa m.Attrs) R Cq (.inl R) R R,oM (λ_=>[(40,qa m.Attrs)]) (λ_=>[]) R λE e h' n=>MD 41 (f:=AH.row) R BK (.inl R) (.inl ⟨(.inl R),λ_=>R⟩) a7,Za⟩) λE n2=>?_
  refine Bi [1,2,3,4,5,29,30,31,32,33,34,35,36,37,38,39,40,41] [1,2,3,5,8,16,22,26,41] ?_
  refine sQ R (EE R CD.slice iL R iL λ_=>w)<|sQ R (CO (ob:=.arr _ _ _ _) R Hb iL fR R) ?_
  refine AN.weak (by exact AZ.frz (e':=[(1,pT 1 j),(2,pT 2<|j+1),(3,pT 3<|j+4),(4,rI q),(5,pT 5<|l 2),(29,.own 26<|l 0),(30,rL F),(31,rI q),(32,rB<|(decide<|q<(F.length:Int))),(33,rI q),(34,.ptr 26 (l 0) q.toNat 0),(35,.agg<|B2 m),(36,.ptr 3 (j+4) 0 2),(37,.own 26<|l 0),(38,rI q),(39,.ptr 5 (l 2) 0 4),(40,qa m.Attrs),(41,qa l5),(42,.ptr 26 (l 0) q.toNat 0),(43,.ptr 26 (l 0) q.toNat 4)]) (h':=[bX 1 j 44 [rI n1.ID,rI n1.Kind,.own 8<|j+2,qe A,rI n1.Grid.Rows,rI n1.Grid.Cols,qc n1.Grid.Cells,qd n1.Grid.Merges,.own 16<|j+3],bX 2 (j+1) 44 E7,bX 3 (j+4) 41 [rI g2.Rows,rI g2.Cols,.own 26<|l 0,.own 22<|l 1],bX 5 (l 2) 124<|B2 m,aX 8 (j+2) 91 2<|I.map AH.row,aX 16 (j+3) 175 8<|O.map BA.row,aX 22 (l 1) 127 4<|g2.Merges.map At.row,aX 26 (l 0) 124 5<|g2.Cells.map Aw.row]) 41 R ⟨jL,jL,jL,jL,jL,jL,jL,jL,jL,jL,jL,jL,jL,jL,jL,jL,jL,.inl<|.inr<|.inr ⟨R,R⟩,jL,jL,Za⟩ ⟨R,.inl R,R,.inl R,R,.inl R,R,.inl R,R,.inl R,R,.inl R,R,.inl R,R,.inl R,Za⟩) ?_
  refine Zk R R (Ow (v:=(Aw.mk m.Row m.Col m.Text m.Ref l5)) R Ls iL R w iL R R R R)<|aZ<|a6 _<|aG [1,2,3,29,30,31] [1,2,3,8,16,22,26] ?_
  exact aR<|AE a8 λx5 aa ab=>xA R aa<|mM R<|Zh<|ZE ab (AI [(l 0),(l 1),n2]) wk
 exact Zm<|X _ _ wk<|J1 _ (AI [(l 0),(l 1),(l 2)])<|xH a1 h8
theorem qr{d1 r}(h:QK d1=some r):AY prog 44 [.agg [qb d1.Nodes]] (.agg [qb r.Nodes]):=by
 unfold QK at h
 refine mF func44 ntmps44 R λj=>aU<|sS R (BD (cs:=[qb d1.Nodes]) 1 R iL R R)<|sS R (BT (cs:=[cZ]) 2 R eM R R)<|Ar λc2=>aR<|lF CZ Cf R R<|xL B7 R<|AE h λl1 F h1=>sS R (bK 9 R B7 (f:=Ad.row) (z0:=(Ad.mk 0 0 [] [] (BJ.mk 0 0 [] []) [])) qQ iL iL F) ?_
 refine sQ R (Ch R mK (q:=[(0,_)]) (by exact⟨R,R,R,iL,Za⟩) (cs:=[.own 9<|j+2])<|by rfl) ?_
 refine sS R (BT (cs:=[cZ]) 3 R eM R R)<|Zk R R (BF (ds:=[.own 9<|j+2]) R XL iL R iL R R R R)<|aZ<|c2 _<|aS λK3 c3 I=>aU<|lF CZ Cf R R<|xL B7 R<|mM R<|aZ<|Zg<|Bb h1 λo1 A J=>?_
 have J1:∀(m:Ac) (E:NN),o1=m->K3 ⟨[(2,pT 2<|j+1),(3,pT 3<|j+3)],(aH (j+1) cZ (j+3) (E 0) m.Nodes),(E 1),27⟩:=by
  intro m E e
  have h2:=J _ e
  refine c3 _<|aU<|xC CG R<|Zk R R (BF (ds:=[.own 9<|E 0]) R XL iL R iL R R R R)<|aZ ?_
  exact Zj<|C3 (P:=prog) (λ(r:Ac)=>.agg [qb r.Nodes]) h2 iL<|.a CG R R R<|.agg<|by exact⟨.own R,Za⟩
 refine C0 (λ(B:Int) (q:Ac) l=>⟨[(2,pT 2<|j+1),(3,pT 3<|j+3),(12,qb d1.Nodes),(13,rL d1.Nodes),(14,rI B)],(aH (j+1) cZ (j+3) (l 0) q.Nodes),(l 1),27⟩) (AI [(j+2),(j+4)]) A wk ?_
 intro B q l v1 M O
 have h3:Ix d1 B q=some v1:=M;unfold Ix at h3
 refine aU<|xS R<|Ar λc7=>cI R h3 (λT=>?_) λT=>?_
 .refine Zc<|c7 _<|aT λc8=>Zg<|AK R<|AE T λw U h5=>xI B7 R U<|xB ((A8 w)) D8 R<|sS R (BT (cs:=E7) 5 R Ia R R)<|mA R<|Zk R R (BF (ds:=(A8 w)) R HV iL R iL R R R R)<|aZ<|AE h5 λV X h6=>?_
  refine rP 5 [pO 19<|pT 3<|j+3,pO 20<|.own 9<|l 0,pO 21<|rI B,pO 22<|.agg<|A8 w,pO 23<|.agg<|A8 V] BP R (by exact⟨oB [(3,pT 3<|j+3)] [bX 3 (j+3) 24 [.own 9<|l 0]]<|fB R CZ (.inl R) (λ_=>R) R,oB [(19,pT 3<|j+3)] [bX 3 (j+3) 24 [.own 9<|l 0]]<|Ab (a:=.own 9<|l 0) R Cf (.inl R) R R,oB [(4,rI B)] []<|AM R<|.inl R,oB [(5,pT 5<|l 1)] [bX 5 (l 1) 44<|A8 w]<|EW R D8 (.inl R) R R,oD (λ_=>[(22,.agg<|A8 w)]) (λ_=>[]) λG1 e h' n=>Dz (r:=.agg<|A8 V) (caps:=[]) (bs:=(JG w)) R (.inl R) R ⟨.inl ⟨(.inl R),R⟩,Za⟩ λ_=>oz<|X,Za⟩) λG1 n1=>?_
  refine Bi [2,3,4,5,12,13,14,15,16,17,18,19,20,21,22,23] [2,3,5,9] ?_
  refine AE h6 λx5 C h7=>sQ R (EE R B7.slice iL R iL λ_=>C)<|Zk R R (Ud (v:=V) R HV iL R C iL R R R R)<|aZ<|c8 _<|aG [2,3,12,13,14] [2,3,9] ?_
  exact aR<|AE h7 λx6 Z h8=>xA R Z<|mM R<|Zh<|ZE h8 (AI [(l 0),n1]) wk
 exact Zm<|I _ _ wk<|J1 _ (AI [(l 0),(l 1)])<|xH O T
theorem cG{d1 r}(h:M9 d1=some r):BI prog 20 1 [.agg [qb d1.Nodes]] [] (λrr h'=>∃(i:Nat->Nat),rr=.fn 45 [pT 1000<|i 0]/\h'=(R1 (i 0)<|qb r.Nodes)):=by
 unfold M9 at h
 refine E0 func20 R R ntmps20 (Zw R) λj=>aU<|sS R (BD (cs:=[qb d1.Nodes]) 1000 R iL R R)<|AG R<|aU<|xC CG R<|AE h λl m q=>sS R (Dz (r:=.agg [qb l.Nodes]) (caps:=[]) (bs:=[.agg [qb d1.Nodes]]) R iL R ⟨.inl ⟨iL,R⟩,Za⟩ λ_=>qr<|m)<|Zk R R (BF (ds:=[qb l.Nodes]) R XL iL R iL R R R R)<|Ar λw=>aR ?_
 refine sQ R (Kz (bs:=[pT 1000 j]) R<|by exact⟨iL,Za⟩) ?_
 refine mA R<|oZ w ?_
 exact Zj<|CB.mk (s':=⟨[(2,.fn 45 [pT 1000 j])],(R1 j<|qb l.Nodes),(j+1),6⟩) wk<|Cc (λ(r:Ac) rr h'=>∃(i:Nat->Nat),rr=.fn 45 [pT 1000<|i 0]/\h'=(R1 (i 0)<|qb r.Nodes)) q<|by exact⟨.fn 45 [pT 1000 j],(R1 j<|qb l.Nodes),R,⟨.inr R,Za⟩,R,R,AI [j],R,R⟩
theorem vm{A:List (List RV)->Option Bool}{m:List (List RV)}{v1:As}{r:Bool × (List<|List RV)}{l:Nat}{j:Nat}{q:FE}(h:HL A m v1=some r)(B:q.P=prog/\q.A=A):BI prog 47 2 [.agg<|HN v1,pT 1000 l] (GL l (.yld 1001 j)<|.cal j q m) (λrr h'=>∃(i:Nat->Nat),rr=rB r.1/\h'=(GL l (.yld 1001 j)<|.cal j q r.2)):=by
 unfold HL at h
 refine E0 func47 R R ntmps47 (Zw R) λE=>aU<|sS R (BD (cs:=(HN v1)) 2 R iL R R)<|AG R<|aT λF=>g9<|Bn.step R R R (AS.spec (Ab (a:=.yld 1001 j) R pF (.inl R) R R) _)<|Bn.step R R R (AS.spec (fB R Ki (.inl R) fR R) _)<|Bn.step R R R (AS.spec (Ab (a:=rI v1.id) R AJ (.inl R) R R) _)<|Bn.step R R R (AS.spec (fB R qz (.inl R) fR R) _)<|Bn.step R R R (AS.spec (Ab (a:=rI v1.parent) R AJ (.inl R) R R) _)<|AE h λC w I=>?_
 refine Bn.stepC (W:=q) (y:=[.int .i64 v1.id,.int .i64 v1.parent]) B.1 R R R R (.inl R) ⟨(.inl R),(.inl R),Za⟩ R R (by rw[B.2];exact w) ?_
 refine Bn.step R R R (AS.spec (EL R<|.inl R) _)<|Bn.nil<|F _ ?_
 exact Zj<|CB.mk (s':=⟨[(3,rB C)],(GL l (.yld 1001 j)<|.cal j q<|m++[[.int .i64 v1.id,.int .i64 v1.parent]]),(E+1),10⟩) wk<|Cc (λ(r:Bool × (List<|List RV)) rr h'=>∃(i:Nat->Nat),rr=rB r.1/\h'=(GL l (.yld 1001 j)<|.cal j q r.2)) I<|by exact⟨rB C,(GL l (.yld 1001 j)<|.cal j q<|m++[[.int .i64 v1.id,.int .i64 v1.parent]]),R,⟨.inr R,.inr R,Za⟩,R,R,AI [],R,R⟩
theorem tR{m b c r}(h:Hm m b c=some r):AY prog 86 [.agg<|CY m,rI b,rI c] (.agg<|BY r):=by
 unfold Hm at h
 refine mF func86 ntmps86 R λj=>aU<|sS R (BD (cs:=(CY m)) 3 R iL R R)<|sS R (BT (cs:=F6) 6 R IW R R)<|Ar λc2=>Ah R<|mM R ?_
 refine sQ R (Ch R gl (q:=[(0,_),(1,_),(2,_),(3,_)]) (by exact⟨R,R,R,iL,R,R,R,iL,R,R,R,iL,R,R,R,iL,Za⟩) (cs:=[rI b,rI c,rI 1,rI 1])<|by rfl) ?_
 refine sS R (BT (cs:=F6) 7 R IW R R)<|Zk R R (BF (ds:=[rI b,rI c,rI 1,rI 1]) R Gu iL R iL R R R R)<|aZ<|c2 _<|aS λK3 c3 B=>aU<|lF Eg E6 R R<|xL DW R<|mM R<|aZ<|Zg<|BU h λo1 q C E=>?_
 have J1:∀(u2:Unit) (i5:NN),o1=.nrm u2->K3 ⟨[(6,pT 6<|j+1),(7,pT 7<|j+2)],[bX 6 (j+1) 127 F6,bX 7 (j+2) 127 [rI b,rI c,rI 1,rI 1]],(i5 0),51⟩:=by
  intro u2 i5 e
  have h1:=C _ e
  exact c3 _<|aU<|xC Dh R<|Zk R R (BF (ds:=[rI b,rI c,rI 1,rI 1]) R Gu iL R iL R R R R)<|aZ<|Zj<|C3 (P:=prog) (λ(r:At)=>.agg<|BY r) h1 iL<|.a Dh R R R<|.g (cs:=[.int .i64 b,.int .i64 c,.int .i64 1,.int .i64 1]) R R
 refine Zv (λ(F:Int) A=>⟨[(1,rI b),(2,rI c),(6,pT 6<|j+1),(7,pT 7<|j+2),(14,qd m.Merges),(15,rL m.Merges),(16,rI F)],[bX 6 (j+1) 127 F6,bX 7 (j+2) 127 [rI b,rI c,rI 1,rI 1]],(A 0),51⟩) (AI [(j+3)]) q wk ?_
 intro F A v1 I w
 have h2:LM m b c F=some v1:=I;unfold LM at h2
 refine aU<|xS R<|Ar λc7=>cI R h2 (λJ=>?_) λJ=>?_
 .refine Zc<|c7 _<|aT λc8=>Zg<|aU<|AE J λl M h4=>xI DW R M<|xB ((BY l)) Dh R<|sS R (BT (cs:=F6) 9 R IW R R)<|Zk R R (BF (ds:=(BY l)) R Gu iL R iL R R R R)<|Ar λO=>Ah R<|lF Cz AJ R R<|sQ R (DE R iL iL)<|mM R<|vM R<|vF Cz AJ R R<|AE h4 λx5 T h5=>vQ R (CJ R (iR R) (iR R)<|Af T)<|vF Gz AJ R R<|vQ R (B6 R (iR R)<|iR R)<|xN R<|mM R<|vM R<|vF DV AJ R R<|vQ R (DE R (iR R)<|iR R)<|xN R<|mM R<|vM R<|vF DV AJ R R<|AE h5 λx6 U h6=>vQ R (CJ R (iR R) (iR R)<|Af U)<|vF Ge AJ R R<|vQ R (B6 R (iR R)<|iR R)<|xN R<|aZ<|O _<|cI R h6 (λV=>?_) λV=>?_
  .refine aT λX=>aG [6,9] [6,9] ?_
   exact aR<|xC Dh R<|Zk R R (BF (ds:=(BY l)) R Gu iL R iL R R R R)<|aZ<|X _<|Zj<|C3 (P:=prog) (λ(r:At)=>.agg<|BY r) (E _<|xH w V) iL<|.a Dh R R R<|.g (cs:=[.int .i64 l.Row,.int .i64 l.Col,.int .i64 l.H,.int .i64 l.W]) R R
  refine Zc<|c8 _<|aG [1,2,6,7,14,15,16] [6,7] ?_
  exact aR<|AE V λx7 Z h8=>xA R Z<|mM R<|Zh<|Zr h8 (AI [((A 0)+1)]) wk
 exact Zm<|B _ _ wk<|J1 _ (AI [(A 0)])<|xH w J
theorem XS{q:List AH}{w:AH}{A:AH}{r:(List AH)}{j:Nat}{l:Nat}(h:Le q w A=some r):BI prog 167 2 [.agg<|Cp w,.agg<|Cp A,pT 1000 j] (Dr j l q) (λrr h'=>∃(i:Nat->Nat),rr=.tup []/\h'=(Dr j (i 0) r)):=by
 unfold Le at h
 refine E0 func167 R R ntmps167 (Zw R) λm=>aU<|sS R (BD (cs:=(Cp w)) 3 R iL R R)<|sS R (BD (cs:=(Cp A)) 4 R iL R R)<|aZ<|Zg<|aU<|lF Ep BO R R<|sQ R (EM R iL iL)<|AG R<|cI R h (λB=>?_) λB=>?_
 .refine aR<|sQ R (Ab (a:=.own 1001 l) R Cq iL R R)<|xC E3 R<|sS R (CA 11 R BK (f:=AH.row) (l:=([w]:List AH)) ⟨R,⟨_,iL,R⟩,Za⟩ R (λ_=>R) R)<|AE B λI C M=>sS R (DN R BK iL R (.inr<|.inl ⟨_,_,iL,R⟩) C)<|Zk R R (BF (ds:=[.own 1001<|m+3]) R Ls iL R iL R R R R)<|Zh ?_
  exact CB.mk (s':=⟨[],(Dr j (m+3) I),(m+4),21⟩) wk<|Cc (λ(r:(List AH)) rr h'=>∃(i:Nat->Nat),rr=.tup []/\h'=(Dr j (i 0) r)) M<|by exact⟨.tup [],(Dr j (m+3) I),⟨_,R,Za⟩,⟨.inr R,.inr R,Za⟩,R,R,AI [(m+3)],R,R⟩
 refine aU<|lF Jd BO R R<|sQ R (D7 R iL iL)<|AG R<|cI R B (λE=>?_) λE=>?_
 .refine aG [2,4] [4,1000,1001] ?_
  refine aR<|sQ R (Ab (a:=.own 1001 l) R Cq iL R R)<|xC E3 R<|sS R (CA 19 R BK (f:=AH.row) (l:=([A]:List AH)) ⟨R,⟨_,iL,R⟩,Za⟩ R (λ_=>R) R)<|AE E λJ F O=>sS R (DN R BK iL R (.inr<|.inl ⟨_,_,iL,R⟩) F)<|Zk R R (BF (ds:=[.own 1001<|m+3]) R Ls iL R iL R R R R)<|Zh ?_
  exact CB.mk (s':=⟨[],(Dr j (m+3) J),(m+4),21⟩) wk<|Cc (λ(r:(List AH)) rr h'=>∃(i:Nat->Nat),rr=.tup []/\h'=(Dr j (i 0) r)) O<|by exact⟨.tup [],(Dr j (m+3) J),⟨_,R,Za⟩,⟨.inr R,.inr R,Za⟩,R,R,AI [(m+3)],R,R⟩
 refine Zc ?_
 exact CB.mk (s':=⟨[],(Dr j l q),(m+2),21⟩) wk<|Cc (λ(r:(List AH)) rr h'=>∃(i:Nat->Nat),rr=.tup []/\h'=(Dr j (i 0) r)) E<|by exact⟨.tup [],(Dr j l q),⟨_,R,Za⟩,⟨.inr R,.inr R,Za⟩,R,R,AI [l],R,R⟩
theorem vX{c1:List AH}{B:List AH}{C:List AH}{r:(List AH)}{j:Nat}{l:Nat}(h:N8 c1 B C=some r):BI prog 166 2 [qa B,qa C,.fn 167 [pT 1000 j]] (Dr j l c1) (λrr h'=>∃(i:Nat->Nat),rr=.tup []/\h'=(Dr j (i 0) r)):=by
 unfold N8 at h
 refine E0 func166 R R ntmps166 (Zw R) λn0=>aU<|mA R<|AG R<|Zg<|BU h λo4 w au E=>IE (λ(F:Int) (I:Int) (o2:List AH) m=>⟨[(0,qa B),(1,qa C),(2,.fn 167 [pT 1000 j]),(6,rI F),(7,rI I)],(Dr j (m 0) o2),(m 1),92⟩) (AI [l,n0]) w wk ?_
 intro F I o2 m v1 J M
 have h1:Oi B C F I o2=some v1:=J;unfold Oi at h1
 refine aT λC2=>AK R<|mM R<|xL BK R<|xS R<|mM R<|vM R<|vM R<|vQ R (DA R BK.slice<|iR R)<|vQ R (B6 R (iR R)<|iR R)<|xO R<|aZ<|cI R h1 (λO=>?_) λO=>?_
 .refine Zc<|C2 _<|Zg<|Zg<|aT λC4=>?_
  refine Zz BP (by kernel_rfl) ?_
  refine qP R (AM R iL)<|qP R (AM R iL)<|qP R (DA R BK.slice iL)<|qP R (BB R iL iL)<|qP R (AM R iL)<|qO R (AM R iL)<|qO R (AM R iL)<|qO R (DA R BK.slice<|iR R)<|qO R (B6 R (iR R)<|iR R)<|qO R (AM R<|iR R)<|qT R (AM R iL)<|qT R (AM R iL)<|AE O λx1 T h3=>qT R (BN R BK.slice (iR R) (iR R) (λ_=>R)<|Af T)<|qT R (BL R Ep<|iR R)<|qT R (Bm (d:=.str x1.Name) R BO (iR R) R)<|qT R (AM R iL)<|qT R (AM R iL)<|AE h3 λx2 U h4=>qT R (BN R BK.slice (iR R) (iR R) (λ_=>R)<|Af U)<|qT R (BL R Ep<|iR R)<|qT R (Bm (d:=.str x2.Name) R BO (iR R) R)<|qT R (Nr R (iR R)<|iR R)<|qO R (BZ R (iR R)<|iR R)<|qP R (CS R iL<|iR R)<|qP R (EL R iL)<|AQ.nil<|C4 _<|cI R h4 (λV=>?_) λV=>?_
  .refine aT λC5=>aG [0,1,2,6,7] [1000,1001] ?_
   refine Ah R<|mM R<|mM R<|AE V λx3 X h6=>xI BK R X<|xB ((Cp x3)) E3 R ?_
   refine sQ R (Ch R TA (q:=[]) (by exact Za) (cs:=[.r<|.str [],.r<|.str []])<|by rfl) ?_
   refine AE h6 λw1 Z h7=>?_
   refine ZB [1000,1001] (hc:=(Dr j (m 0) o2)) (bs:=[.agg<|Cp x3,.agg [.r<|.str [],.r<|.str []]]) (caps:=[pT 1000 j]) R R R R iL R ⟨.inl ⟨iL,R⟩,.inl ⟨iL,R⟩,Za⟩ ⟨R,R,R,R,R,R,Za⟩ (by decide) (XS Z) ?_
   intro i8 n1
   refine Bi [0,1,2,6,7,56,57,58,59,60,61,62] [1000,1001] ?_
   exact aZ<|C5 _<|Ah R<|AE h7 λi9 a0 h8=>xA R a0<|mA R<|Zh<|FL.mk h8 (AI [(i8 0),n1]) wk
  refine aT λC6=>aG [0,1,2,6,7] [1000,1001] ?_
  refine Zz BP (by kernel_rfl) ?_
  refine qP R (AM R iL)<|qP R (AM R iL)<|qP R (DA R BK.slice iL)<|qP R (BB R iL iL)<|qP R (AM R iL)<|qO R (AM R iL)<|qO R (AM R iL)<|AE V λx4 a2 h9=>qO R (BN R BK.slice (iR R) (iR R) (λ_=>R)<|Af a2)<|qO R (BL R Ep<|iR R)<|qO R (Bm (d:=.str x4.Name) R BO (iR R) R)<|qO R (AM R iL)<|qO R (AM R iL)<|AE h9 λx5 a6 a7=>qO R (BN R BK.slice (iR R) (iR R) (λ_=>R)<|Af a6)<|qO R (BL R Ep<|iR R)<|qO R (Bm (d:=.str x5.Name) R BO (iR R) R)<|qO R (Nr R (iR R)<|iR R)<|qP R (CS R iL<|iR R)<|qP R (EL R iL)<|AQ.nil<|C6 _<|cI R a7 (λq=>?_) λq=>?_
  .refine aT λC7=>Ah R ?_
   refine sQ R (Ch R TA (q:=[]) (by exact Za) (cs:=[.r<|.str [],.r<|.str []])<|by rfl) ?_
   refine mM R<|mM R<|AE q λx6 a8 aa=>xI BK R a8<|xB ((Cp x6)) E3 R<|AE aa λw2 ab ac=>?_
   refine ZB [1000,1001] (hc:=(Dr j (m 0) o2)) (bs:=[.agg [.r<|.str [],.r<|.str []],.agg<|Cp x6]) (caps:=[pT 1000 j]) R R R R iL R ⟨.inl ⟨iL,R⟩,.inl ⟨iL,R⟩,Za⟩ ⟨R,R,R,R,R,R,Za⟩ (by decide) (XS ab) ?_
   intro ad n2
   refine Bi [0,1,2,6,7,65,66,67,68,69,70,82,83,84,85,86,87,88,89] [1000,1001] ?_
   refine aZ<|C7 _<|aG [0,1,2,6,7] [1000,1001] ?_
   exact Ah R<|AE ac λj4 ae af=>xA R ae<|mA R<|Zh<|FL.mk af (AI [(ad 0),n2]) wk
  refine aT λC8=>?_
  refine iB 9 BP (by kernel_rfl) R R ?_
  refine AT.step R R R (AM R iL)<|AT.step R R R (AM R iL)<|AT.step R R R (AM R iL)<|AE q λx7 ag ah=>AT.step R R R (BN R BK.slice iL iL (λ_=>R) λ_=>ag)<|AT.step R R R (EB (cs:=(Cp x7)) R E3 iL R R)<|AT.step R R R (AM R iL)<|AT.step R R R (AM R iL)<|AE ah λx8 ai aj=>AT.step R R R (BN R BK.slice iL iL (λ_=>R) λ_=>ai)<|AT.step R R R (EB (cs:=(Cp x8)) R E3 iL R R)<|AT.nil<|AE aj λw3 ak al=>?_
  refine ZB [1000,1001] (hc:=(Dr j (m 0) o2)) (bs:=[.agg<|Cp x7,.agg<|Cp x8]) (caps:=[pT 1000 j]) R R R R iL R ⟨.inl ⟨iL,R⟩,.inl ⟨iL,R⟩,Za⟩ ⟨R,R,R,R,R,R,Za⟩ (by decide) (XS ak) ?_
  intro an n3
  refine Bi [0,1,2,6,7,18,19,20,21,22,23,24,25,26,27,65,66,67,68,69,70,82] [1000,1001] ?_
  refine aZ<|C8 _<|aG [0,1,2,6,7] [1000,1001] ?_
  exact Ah R<|AE al λav A ao=>xA R A<|mM R<|AE ao λj5 aq ar=>xA R aq<|mA R<|mA R<|Zh<|FL.mk ar (AI [(an 0),n3]) wk
 refine Zm ?_
 exact CB.mk (s':=⟨[],(Dr j (m 0) o2),(m 1),92⟩) wk<|Cc (λ(r:(List AH)) rr h'=>∃(i:Nat->Nat),rr=.tup []/\h'=(Dr j (i 0) r)) (E _<|xH M O)<|by exact⟨.tup [],(Dr j (m 0) o2),⟨_,R,Za⟩,⟨.inr R,.inr R,Za⟩,R,R,AI [(m 0)],R,R⟩
theorem o5{l c r}(h:Mo l c=some r):AY prog 129 [qa l,qa c] (qa r):=by
 unfold Mo at h
 refine mF func129 ntmps129 R λj=>aU<|AG R<|aU<|sS R (BT (cs:=[cZ]) 5 R Uy R R)<|Ar λq=>Ah R<|mM R ?_
 refine sQ R (Kz (bs:=[pT 5 j]) R<|by exact⟨iL,Za⟩) ?_
 refine AN.weak (Zn (T3 5 0 3050 91 2 (by decide) R R<|by decide)<|by exact AZ.cv (e':=[(0,qa l),(1,qa c),(4,cZ),(5,pT 5 j),(6,qa l),(7,qa c),(8,.fn 167 [pT 5 j])]) (h':=[bX 5 j 36 [.own 3050<|j+1],aX 3050 (j+1) 91 2<|([]:List AH).map AH.row]) ⟨jL,jL,jL,jL,jL,jL,jL,Za⟩ ⟨.inl R,.inl R,Za⟩ nL) ?_
 refine AE h λB m w=>?_
 refine ZB [5,3050] (hc:=(Dr j (j+1) ([]:List AH))) (bs:=[qa l,qa c,.fn 167 [pT 1000 j]]) (caps:=[]) R R R R iL R ⟨.inl ⟨iL,R⟩,.inl ⟨iL,R⟩,.inl ⟨iL,R⟩,Za⟩ ⟨R,R,R,R,R,R,Za⟩ (by decide) (vX m) ?_
 intro A C
 refine Bi [0,1,4,5,6,7,8,9] [5,3050] ?_
 exact aZ<|q _<|aU<|sQ R (Ab (a:=.own 3050<|A 0) R Cq iL R R)<|AG R<|Zj<|C3 (P:=prog) (λ(r:(List AH))=>qa r) w iL<|.t<|.one<|.own R
theorem lV{w:List (Int × AC)}{m2:List (Int × (List AH))}{C:Int}{B:Int}{r:Bool}{j:Nat}{l:Nat}{m:Nat}{q:Nat}(h:OX w m2 C B=some r):BI prog 225 3 [pT 1000 j,rI C,rI B] (Dn j l q m w m2) (λrr h'=>∃(i:Nat->Nat),rr=rB r/\h'=(Dn j l q m w m2)):=by
 unfold OX at h
 refine E0 func225 R R ntmps225 (Zw R) λn0=>aU<|AG R<|aS λK2 c2 O=>Zg<|BU h λo1 J T M=>?_
 have J1:∀(u2:Unit) (U:NN),o1=.nrm u2->K2 ⟨[],(Dn j l q m w m2),(U 0),29⟩:=by
  intro u2 U e
  have h1:=T _ e
  refine c2 _<|aU<|AG R ?_
  exact Zj<|CB.mk (s':=⟨[(6,rB false)],(Dn j l q m w m2),(U 0),29⟩) wk<|Cc (λ(r:Bool) rr h'=>∃(i:Nat->Nat),rr=rB r/\h'=(Dn j l q m w m2)) h1<|by exact⟨rB false,(Dn j l q m w m2),R,⟨.inr R,.inr R,.inr R,Za⟩,R,R,AI [],R,R⟩
 refine Zv (λ(A:Int) I=>⟨[(0,pT 1000 j),(1,rI A),(2,rI B)],(Dn j l q m w m2),(I 0),29⟩) (AI [n0]) J wk ?_
 intro A I v1 V E
 have h2:Gq w B A=some v1:=V;unfold Gq at h2
 refine aT λc4=>AK R<|sQ R (Bd R iL iL)<|aZ<|cI R h2 (λX=>?_) λX=>?_
 .refine Zc<|c4 _<|Zg<|aT λc6=>AK R<|mM R<|xQ R<|aZ<|cI R X (λZ=>?_) λZ=>?_
  .refine aU<|AG R ?_
   exact Zj<|CB.mk (s':=⟨[(6,rB true)],(Dn j l q m w m2),(I 0),29⟩) wk<|Cc (λ(r:Bool) rr h'=>∃(i:Nat->Nat),rr=rB r/\h'=(Dn j l q m w m2)) (M _<|xH E Z)<|by exact⟨rB true,(Dn j l q m w m2),R,⟨.inr R,.inr R,.inr R,Za⟩,R,R,AI [],R,R⟩
  refine Zc<|c6 _<|AK R<|sQ R (Ku (ob:=.box _ _ _) R iL fR R)<|lF Wa Wv R R<|mM R<|sQ R (rF true R underlying243 underlying3 (H2 ic) (.inl R) (.inl R) R)<|mM R<|xX R<|xX R<|mA R<|AG R<|aT λa0=>aT λa1=>aG [0,2,7,8] [1000,1001,1002] ?_
  refine Ah R<|sQ R (BC R iL)<|aZ<|a1 _<|cI R Z (λh5=>?_) λh5=>?_
  .refine aU<|AG R ?_
   exact Zj<|CB.mk (s':=⟨[(6,rB false)],(Dn j l q m w m2),(I 0),29⟩) wk<|Cc (λ(r:Bool) rr h'=>∃(i:Nat->Nat),rr=rB r/\h'=(Dn j l q m w m2)) (M _<|xH E h5)<|by exact⟨rB false,(Dn j l q m w m2),R,⟨.inr R,.inr R,.inr R,Za⟩,R,R,AI [],R,R⟩
  exact Zc<|a0 _<|Ah R<|AE h5 λx1 F h6=>sQ R (Nj R (.inl rfl) R R λ_=>F)<|sQ R (S7 R MU (.inl rfl) R R λ_=>F)<|sQ R (VV (a:=x1) (d:=.int .i64 x1.Parent) R AJ (.inl rfl) R R (λ_=>F) R)<|mA R<|Zh<|Zr h6 (AI [(I 0)]) wk
 exact Zm<|O _ _ wk<|J1 _ (AI [(I 0)])<|xH E X
theorem oc{w r}(h:NZ w=some r):BI prog 179 3 [qf w] [] (λrr h'=>∃(i:Nat->Nat),rr=pT 1000 (i 0)/\h'=(Dn (i 0) (i 1) (i 3) (i 2) r.1 r.2)):=by
 unfold NZ at h
 refine E0 func179 R R ntmps179 (Zw R) λj=>aU<|AG R<|aT λc2=>aR<|sS R (pN AC.row 1001 133 R)<|sS R (QA (λ(l:List AH)=>RV.sl<|l.map AH.row) 1002 R) ?_
 refine sQ R (Ch R nU (q:=[(0,_),(1,_)]) (by exact⟨R,R,R,iL,R,R,R,iL,Za⟩) (cs:=[.mref 1001 j,.mref 1002<|j+1])<|by rfl) ?_
 refine sS R (BD (cs:=[.mref 1001 j,.mref 1002<|j+1]) 1000 R iL R R)<|AG R<|c2 _<|aS λK3 c3 Z=>AK R<|xL FQ R<|mM R<|aZ<|Zg<|Gj h λo1 I a0=>?_
 have J1:∀(J:List (Int × AC)) (M:List (Int × (List AH))) (B:NN),o1=(J,M)->K3 ⟨[(3,pT 1000<|j+2)],(Dn (j+2) j (j+1) (B 0) J M),(B 1),64⟩:=by
  intro J M B e
  have h1:=a0 _ _ e
  refine c3 _<|AK R<|AG R ?_
  exact Zj<|CB.mk (s':=⟨[(2,pT 1000<|j+2)],(Dn (j+2) j (j+1) (B 0) J M),(B 1),64⟩) wk<|Cc (λ(r:(List<|Int × AC) × (List<|Int × (List AH))) rr h'=>∃(i:Nat->Nat),rr=pT 1000 (i 0)/\h'=(Dn (i 0) (i 1) (i 3) (i 2) r.1 r.2)) h1<|by exact⟨pT 1000<|j+2,(Dn (j+2) j (j+1) (B 0) J M),R,⟨.inr R,.inr R,.inr R,Za⟩,R,R,AI [(j+2),j,(B 0),(j+1)],R,R⟩
 refine IE (λ(O:Int) (T:List (Int × AC)) (A:List (Int × (List AH))) q=>⟨[(3,pT 1000<|j+2),(10,qf w),(11,rL w),(12,rI O)],(Dn (j+2) j (j+1) (q 0) T A),(q 1),64⟩) (AI [j,(j+3)]) I wk ?_
 intro O T A q v1 a1 a2
 have h2:Jr w O T A=some v1:=a1;unfold Jr at h2
 refine aU<|xS R<|Ar λc7=>cI R h2 (λh3=>?_) λh3=>?_
 .refine Zc<|c7 _<|aS λK8 c8 C=>Zg<|Gj h3 λp1 a6 a7=>?_
  have J2:∀(m9:List (Int × AC)) (E:List (Int × (List AH))) (U:NN),p1=(m9,E)->K8 ⟨[(3,pT 1000<|j+2),(10,qf w),(11,rL w),(12,rI O)],(Dn (j+2) j (j+1) (U 0) m9 E),(U 1),64⟩:=by
   intro m9 E U e
   have h4:=a7 _ _ e
   exact c8 _<|aR<|AE h4 λx4 a8 h5=>xA R a8<|mM R<|Zh<|FL.mk h5 (AI [(U 0),(U 1)]) wk
  refine aU<|AE a6 λm aa h6=>xI FQ R aa<|xB ((CV m)) IK R<|sS R (BT (cs:=TE) 5 R Te R R)<|Zk R R (BF (ds:=(CV m)) R RI iL R iL R R R R)<|aZ<|Zg<|aU<|lF F2 AJ R R<|xQ R<|AG R<|cI R h6 (λh7=>?_) λh7=>?_
  .refine AE h7 λr1 ab h8=>?_
   refine rP 20 [pO 20<|pT 1000<|j+2,pO 21<|pT 1000<|j+2,pO 22<|.ptr 1000 (j+2) 0 1,pO 23<|.mref 1002<|j+1,pO 24<|.ptr 5 (q 1) 0 3,pO 25<|rI m.Item,pO 26<|pT 1000<|j+2,pO 27<|pT 1000<|j+2,pO 28<|.ptr 1000 (j+2) 0 1,pO 29<|.mref 1002<|j+1,pO 30<|.ptr 5 (q 1) 0 3,pO 31<|rI m.Item,pO 32<|.r<|.sl<|((AR A m.Item).getD []).map AH.row,pO 33<|.ptr 5 (q 1) 0 6,pO 34<|rS m.Name,pO 35<|.ptr 5 (q 1) 0 7,pO 36<|rS m.Value,pO 37<|.agg [rS m.Name,rS m.Value],⟨some 38,(λ_=>.r<|.sl<|[(AH.mk m.Name m.Value)].map AH.row),some (38,(λ_=>none)),[]⟩,pO 39<|qa r1] BP R (by exact⟨oB [(3,pT 1000<|j+2)] (KD (j+2) j<|j+1)<|AM R<|.inl R,oB [(20,pT 1000<|j+2)] (KD (j+2) j<|j+1)<|Ku (ob:=.box _ _ _) R (.inl R) (λ_=>R) R,oB [(21,pT 1000<|j+2)] (KD (j+2) j<|j+1)<|fB R VS (.inl R) (λ_=>R) R,oB [(22,.ptr 1000 (j+2) 0 1)] (KD (j+2) j<|j+1)<|Ab (a:=.mref 1002<|j+1) R VJ (.inl R) R R,oB [(5,pT 5<|q 1)] (JV (q 1) m)<|fB R Fb (.inl R) (λ_=>R) R,oB [(24,.ptr 5 (q 1) 0 3)] (JV (q 1) m)<|Ab (a:=rI m.Item) R AJ (.inl R) R R,oB [(3,pT 1000<|j+2)] (KD (j+2) j<|j+1)<|AM R<|.inl R,oB [(26,pT 1000<|j+2)] (KD (j+2) j<|j+1)<|Ku (ob:=.box _ _ _) R (.inl R) (λ_=>R) R,oB [(27,pT 1000<|j+2)] (KD (j+2) j<|j+1)<|fB R VS (.inl R) (λ_=>R) R,oB [(28,.ptr 1000 (j+2) 0 1)] (KD (j+2) j<|j+1)<|Ab (a:=.mref 1002<|j+1) R VJ (.inl R) R R,oB [(5,pT 5<|q 1)] (JV (q 1) m)<|fB R Fb (.inl R) (λ_=>R) R,oB [(30,.ptr 5 (q 1) 0 3)] (JV (q 1) m)<|Ab (a:=rI m.Item) R AJ (.inl R) R R,oB [(29,.mref 1002<|j+1),(31,rI m.Item)] [(1002,some<|.md (j+1)<|Ap (λ(l:List AH)=>RV.sl<|l.map AH.row) A)]<|MI (rd:=(λ(l:List AH)=>RV.sl<|l.map AH.row)) false (.slice none 0 0) [] R underlying244 underlying3 (H2 Uy) (λ_ _=>.snil) (.inl R) (.inl R) R,oB [(5,pT 5<|q 1)] (JV (q 1) m)<|fB R Mt (.inl R) (λ_=>R) R,oB [(33,.ptr 5 (q 1) 0 6)] (JV (q 1) m)<|Ab (a:=rS m.Name) R BO (.inl R) R R,oB [(5,pT 5<|q 1)] (JV (q 1) m)<|fB R JE (.inl R) (λ_=>R) R,oB [(35,.ptr 5 (q 1) 0 7)] (JV (q 1) m)<|Ab (a:=rS m.Value) R BO (.inl R) R R,oB [(34,rS m.Name),(36,rS m.Value)] []<|Ch R TA (q:=[(0,_),(1,_)]) (by exact⟨R,R,R,(.inl R),R,R,R,(.inl R),Za⟩) (cs:=[rS m.Name,rS m.Value])<|by rfl,hX R R (by intro d h;cases h;rfl) R (λ_=>[(37,.agg [rS m.Name,rS m.Value])]) (λ_=>[]) (λD X hr=>⟨Y6 hr 17 R R (by kernel_rfl) R R,Za⟩) (λD X hr=>Za) λX e h' n=>GG.frz<|Az.toN<|CA 38 R BK (f:=AH.row) (l:=([(AH.mk m.Name m.Value)]:List AH)) ⟨R,⟨_,(.inl R),R⟩,Za⟩ R (λ_=>R) R,oD (λ_=>[(32,.r<|.sl<|((AR A m.Item).getD []).map AH.row),(38,.r<|.sl<|[(AH.mk m.Name m.Value)].map AH.row)]) (λ_=>[]) λX e h' n=>Dz (r:=qa r1) (caps:=[]) (bs:=[.r<|.sl<|((AR A m.Item).getD []).map AH.row,.r<|.sl<|[(AH.mk m.Name m.Value)].map AH.row]) R (.inl R) R ⟨.inl ⟨(.inl R),R⟩,.inl ⟨(.inl R),R⟩,Za⟩ λ_=>o5<|ab,Za⟩) λX n1=>?_
   refine Bi [3,5,10,11,12,13,14,15,16,17,18,19,20,21,22,23,24,25,26,27,28,29,30,31,32,33,34,35,36,37,38,39] [5,1000,1001,1002] ?_
   exact Zk R R (Lc (rd:=(λ(l:List AH)=>RV.sl<|l.map AH.row)) (a:=r1) (.inl rfl) underlying244 underlying3 (.inl rfl) (.inl rfl) (.inl rfl) R)<|Zh<|C _ _ wk<|J2 _ _ (AI [(q 0),n1]) (Zf h8).symm
  refine aT λac=>Ah R<|lF Gx AJ R R<|lF Fb AJ R R<|AE h7 λr2 ad h9=>?_
  refine ZB [1000,1001,1002] (hc:=(Dn (j+2) j (j+1) (q 0) T A)) (bs:=[pT 1000<|j+2,rI m.Parent,rI m.Item]) (caps:=[]) R R R R iL R ⟨.inl ⟨iL,R⟩,.inl ⟨iL,R⟩,.inl ⟨iL,R⟩,Za⟩ ⟨R,R,R,R,R,R,R,R,R,Za⟩ (by decide) (lV ad) ?_
  intro i7 V
  refine Bi [3,5,10,11,12,13,14,15,16,17,18,19,41,42,43,44,45,46] [5,1000,1001,1002] ?_
  refine sQ R (BC R iL)<|AG R<|ac _<|cI R h9 (λF=>?_) λF=>?_
  .refine aG [3,5,10,11,12] [5,1000,1001,1002] ?_
   refine Xa [] [0,1,2,3,4,5,6,7,8,9,10,11,12] [13] 14 BP (by kernel_rfl) R R R R R ?_
   refine Fj.nil<|AF.step R R R (AM R iL)<|AF.step R R R (Ku (ob:=.box _ _ _) R iL fR R)<|AF.step R R R (fB R Wa iL fR R)<|AF.step R R R (Ab (a:=.mref 1001 j) R Wv iL R R)<|AF.step R R R (fB R Fb iL fR R)<|AF.step R R R (Ab (a:=rI m.Item) R AJ iL R R)<|AF.step R R R (fB R Fb iL fR R)<|AF.step R R R (Ab (a:=rI m.Item) R AJ iL R R)<|AF.step R R R (fB R Gx iL fR R)<|AF.step R R R (Ab (a:=rI m.Parent) R AJ iL R R)<|AF.step R R R (fB R Nn iL fR R)<|AF.step R R R (Ab (a:=rS m.Place) R BO iL R R) ?_
   refine AF.step R R R (Ch R RA (q:=[(0,_),(1,_),(2,_)]) (by exact⟨R,R,R,iL,R,R,R,iL,R,R,R,iL,Za⟩) (cs:=[rI m.Item,rI m.Parent,rS m.Place,cZ])<|by rfl) ?_
   refine AF.nil<|AA.step R R R (pW (cs:=[rI m.Item,rI m.Parent,rS m.Place,cZ]) 61 R iL R R)<|AA.nil ?_
   refine AN.weak (by exact AZ.cv (e':=[(3,pT 1000<|j+2),(5,pT 5<|q 1),(10,qf w),(11,rL w),(12,rI O),(48,pT 1000<|j+2),(49,pT 1000<|j+2),(50,pT 1000<|j+2),(51,.mref 1001 j),(52,.ptr 5 (q 1) 0 3),(53,rI m.Item),(54,.ptr 5 (q 1) 0 3),(55,rI m.Item),(56,.ptr 5 (q 1) 0 4),(57,rI m.Parent),(58,.ptr 5 (q 1) 0 5),(59,rS m.Place),(60,.agg [rI m.Item,rI m.Parent,rS m.Place,cZ]),(61,pT 61 V)]) (h':=[bX 5 (q 1) 175<|CV m,bX 61 V 133 [rI m.Item,rI m.Parent,rS m.Place,.r<|.sl []],bX 1000 (j+2) 246 [.mref 1001 j,.mref 1002<|j+1],(1001,some<|.mb j (q 0) 133<|Ap AC.row T),(1002,some<|.md (j+1)<|Ap (λ(l:List AH)=>RV.sl<|l.map AH.row) A)]) ⟨jL,jL,jL,jL,jL,jL,jL,jL,jL,jL,jL,jL,jL,jL,jL,jL,jL,jL,jL,Za⟩ ⟨.inl R,.inr<|.inr ⟨_,_,_,_,R,R,⟨.inl R,.inl R,.inl R,.inr<|.inr ⟨R,R⟩,Za⟩⟩,.inl R,.inl R,.inl R,Za⟩ nL) ?_
   exact Zk R R (jP (a:=(AC.mk m.Item m.Parent m.Place [])) (.inl rfl) underlying243 underlying3 (.inl rfl) (.inl rfl) (.inl rfl) R R)<|Zh<|C _ _ wk<|J2 _ _ (AI [(V+1),(V+2)]) (Zf F).symm
  exact Zc<|C _ _ wk<|J2 _ _ (AI [(q 0),V]) (Zf F).symm
 exact Zm<|Z _ _ wk<|J1 _ _ (AI [(q 0),(q 1)])<|xH a2 h3
theorem ZP{j r}(h:PM j=some r):AY prog 228 [rS j] (rB r):=by
 unfold PM at h
 exact mF func228 ntmps228 R λl=>aU<|AG R<|AK R<|mM R<|sQ R (D7 R iL iL)<|AG R<|Zj<|yB h R
theorem rh{O T r}(h:Qe O T=some r):AY prog 184 [rS O,rS T] (rI r):=by
 unfold Qe at h
 refine mF func184 ntmps184 R λn0=>aU<|AG R<|AK R<|AE h λm j U=>cL (ZP<|j) R<|AG R<|AK R<|AE U λq l V=>cL (ZP<|l) R<|AG R<|aT λX=>AK R<|aZ<|cI R V (λw=>?_) λw=>?_
 .refine aT λZ=>aT λc7=>aF [6] ?_
  refine Ah R<|aZ<|c7 _<|cI R w (λA=>?_) λA=>?_
  .exact zI A R id
  exact Zc<|Z _<|zI A R id
 refine Zc<|X _<|aT λB=>AK R<|aZ<|cI R w (λC=>?_) λC=>?_
 .exact zI C R id
 refine Zc<|B _<|aT λE=>aT λF=>aF [0,1] ?_
 refine Ah R<|mM R<|sQ R (Nr R iL iL)<|aZ<|F _<|cI R C (λI=>?_) λI=>?_
 .exact zI I R id
 refine Zc<|E _<|aT λJ=>AK R<|mM R<|sQ R (ZW R iL iL)<|aZ<|cI R I (λM=>?_) λM=>?_
 .exact zI M R id
 exact Zc<|J _<|zI M R id
theorem lD{l m r}(h:Li l m=some r):AY prog 182 [.agg<|Cw l,.agg<|Cw m] (rI r):=by
 unfold Li at h
 refine mF func182 ntmps182 R λj=>aU<|sS R (BD (cs:=(Cw l)) 2 R iL R R)<|sS R (BD (cs:=(Cw m)) 3 R iL R R)<|AG R<|aT λC=>AE h λq w E=>?_
 refine rP 9 [pO 5<|.ptr 2 j 0 2,pO 6<|rS l.Place,pO 7<|.ptr 3 (j+1) 0 2,pO 8<|rS m.Place,pO 9<|rI q,pO 10<|pT 2 j,pO 11<|rI l.Item,pO 12<|pT 3<|j+1,pO 13<|rI m.Item] BP R (by exact⟨oB [(2,pT 2 j)] (RP j l)<|fB R IL (.inl R) (λ_=>R) R,oB [(5,.ptr 2 j 0 2)] (RP j l)<|Ab (a:=rS l.Place) R BO (.inl R) R R,oB [(3,pT 3<|j+1)] (S3 (j+1) m)<|fB R IL (.inl R) (λ_=>R) R,oB [(7,.ptr 3 (j+1) 0 2)] (S3 (j+1) m)<|Ab (a:=rS m.Place) R BO (.inl R) R R,oD (λ_=>[(6,rS l.Place),(8,rS m.Place)]) (λ_=>[]) λF e O n=>Db (r:=rI q) (caps:=[]) (bs:=[rS l.Place,rS m.Place]) R (.inl R) R ⟨⟨_,(.inl R),.d R⟩,⟨_,(.inl R),.d R⟩,Za⟩ (λ_=>rh<|w) R,oB [(2,pT 2 j)] (RP j l)<|fB R Ef (.inl R) (λ_=>R) R,oB [(10,pT 2 j)] (RP j l)<|Ab (a:=rI l.Item) R AJ (.inl R) R R,oB [(3,pT 3<|j+1)] (S3 (j+1) m)<|fB R Ef (.inl R) (λ_=>R) R,oB [(12,pT 3<|j+1)] (S3 (j+1) m)<|Ab (a:=rI m.Item) R AJ (.inl R) R R,Za⟩) λF T=>?_
 refine Bi [0,1,2,3,4,5,6,7,8,9,10,11,12,13] [2,3] ?_
 exact AE E λI A J=>cL (Ni<|A) R<|sS R (CA 15 R Bo (f:=(Ai .i64)) (l:=([q,I]:List Int)) ⟨R,⟨_,iL,R⟩,R,⟨_,iL,R⟩,Za⟩ R (λ_=>R) R)<|AE J λU B M=>cL (XK<|B) R<|AG R<|C _<|Zj<|yI M R
theorem og{self:(List<|Int × (List AC))->(List AC)->(List<|Int × Bool)->Int->Option ((List<|Int × (List AC)) × (List AC) × (List<|Int × Bool))}(O:∀ {T:List (Int × (List AC))} {X:List AC} {m2:List (Int × Bool)} {E:Int} {r:(List<|Int × (List AC)) × (List AC) × (List<|Int × Bool)} {A:Nat} {q:Nat} {B:Nat} {j:Nat} {F:Nat} {m:Nat} {C:Nat} {w:Nat},self T X m2 E=some r->BI prog 180 7 [rI E,pT 1000 A,pT 1002 j,pT 1004 m,pT 1006 w] (Fp A q B T j F X m C m2 w) (λrr h'=>∃(i:Nat->Nat),rr=.tup []/\h'=(Fp A q B r.1 j (i 0) r.2.1 m C r.2.2 w))){T:List (Int × (List AC))}{X:List AC}{m2:List (Int × Bool)}{E:Int}{r:(List<|Int × (List AC)) × (List AC) × (List<|Int × Bool)}{A:Nat}{q:Nat}{B:Nat}{j:Nat}{F:Nat}{m:Nat}{C:Nat}{w:Nat}(h:KC self T X m2 E=some r):BI prog 180 7 [rI E,pT 1000 A,pT 1002 j,pT 1004 m,pT 1006 w] (Fp A q B T j F X m C m2 w) (λrr h'=>∃(i:Nat->Nat),rr=.tup []/\h'=(Fp A q B r.1 j (i 0) r.2.1 m C r.2.2 w)):=by
 unfold KC at h
 refine E0 func180 R R ntmps180 (Zw R) λn0=>aT λC1=>aR<|sQ R (Ab (a:=.mref 1001 q) R Sy iL R R)<|mM R<|sQ R (Vn R underlying242 underlying3 (H2 T1) (.inl R) (.inl R) R)<|AE h λw1 a1 h1=>?_
 refine ZB [1001] (hc:=[(1000,some<|.mr q B 133 4 none<|Ap (λ(l:List AC)=>l.map AC.row) T)]) (bs:=[.fo 1000 q B E,.fn 182 []]) (caps:=[]) R R R R iL R ⟨.inl ⟨iL,R⟩,.inl ⟨iL,R⟩,Za⟩ ⟨R,R,R,Za⟩ (by decide) ((wO (row:=AC.row) cK (by decide) (λ_=>R) ⟨_,func182,R,R⟩ λ_ _ _ h=>lD h) a1) ?_
 intro i1 n1
 refine Bi [0,1,2,3,4,8,9,10,11] [1000,1001,1002,1003,1004,1005,1006] ?_
 refine aZ<|C1 _<|aU<|sQ R (Ab (a:=.mref 1001 q) R Sy iL R R)<|mM R<|sQ R (Vn R underlying242 underlying3 (H2 T1) (.inl R) (.inl R) R)<|sQ R (nC R BV.slice (.inl rfl) R)<|mM R<|aZ<|Zg<|BU h1 λo4 Z ac a2=>wg (λ(x2:Int) (o2:List AC) (U:List (Int × (List AC))) (V:List (Int × Bool)) J=>⟨[(2,pT 1002 j),(3,pT 1004 m),(4,pT 1006 w),(14,.fo 1001 q B E),(15,rI<|(((AR w1 E).getD []).length:Int)),(16,rI x2)],(Fp A q B U j (J 0) o2 m C V w),(J 1),32⟩) (AI [F,n1]) Z wk ?_
 intro x2 o2 U V J v1 a6 a7
 have h2:GJ E self w1 x2 o2 U V=some v1:=a6;unfold GJ at h2
 refine aU<|xS R<|Ar λC4=>cI R h2 (λh3=>?_) λh3=>?_
 .refine Zc<|C4 _<|aT λC5=>Zg<|aU<|AE h3 λM a0 h4=>sQ R (oq (f:=AC.row) R BV.slice (.inl rfl) R (.inl rfl) λ_=>a0)<|sQ R (rA (f:=AC.row) (cs:=(Cw M)) R Gr (.inl rfl) R (λ_=>a0) R)<|sS R (BT (cs:=M8) 7 R PV R R)<|Zk R R (BF (ds:=(Cw M)) R MP iL R iL R R R R)<|Ar λC7=>AE h4 λl1 a8 h5=>?_
  refine GZ 8 [pO 20<|.mref 1005 C,pO 21<|pT 7<|J 1,pO 22<|rI M.Item,pO 23<|.own 1003<|J 0,pO 24<|.agg<|Cw M,⟨some 25,(λI=>.own 25<|I 5),some (25,(λI=>some<|.arr (I 5) 133 4<|[M].map AC.row)),[5]⟩,⟨some 26,(λI=>.own 1003<|I 6),some (1003,(λI=>some<|.arr (I 6) 133 4<|l1.map AC.row)),[6]⟩,⟨none,(λ_=>.any),some (1002,(λI=>some<|.box j 129 [.own 1003<|I 6])),[6]⟩] BP (by kernel_rfl) (by exact⟨zN,zN,zN,zN,zN,zS 5,zS 6,zS 6,Za⟩) R (by exact⟨oB [(3,pT 1004 m)] [bX 1004 m 157 [.mref 1005 C]]<|Ab (a:=.mref 1005 C) R Q4 (.inl R) R R,oB [(7,pT 7<|J 1)] [bX 7 (J 1) 133<|Cw M]<|fB R Ef (.inl R) (λ_=>R) R,oB [(21,pT 7<|J 1)] [bX 7 (J 1) 133<|Cw M]<|Ab (a:=rI M.Item) R AJ (.inl R) R R,oB [(2,pT 1002 j)] [bX 1002 j 129 [.own 1003<|J 0]]<|Ab (a:=.own 1003<|J 0) R XE (.inl R) R R,oB [(7,pT 7<|J 1)] [bX 7 (J 1) 133<|Cw M]<|EW R Gr (.inl R) R R,oM (λ_=>[(24,.agg<|Cw M)]) (λ_=>[]) R λI e h' n=>CA 25 R BV (f:=AC.row) (l:=([M]:List AC)) ⟨R,⟨_,(.inl R),R⟩,Za⟩ R (λ_=>R) R,oM (λI=>[(23,.own 1003<|J 0),(25,.own 25<|I 5)]) (λI=>[aX 25 (I 5) 133 4<|[M].map AC.row,aX 1003 (J 0) 133 4<|o2.map AC.row]) R λI e h' n=>DN R BV (.inl R) R (.inr<|.inl ⟨_,_,(.inl R),R⟩) a8,oM (λI=>[(2,pT 1002 j),(26,.own 1003<|I 6)]) (λI=>[bX 1002 j 129 [.own 1003<|J 0],aX 1003 (I 6) 133 4<|l1.map AC.row]) R λI e h' n=>BF (ds:=[.own 1003<|I 6]) R X0 (.inl R) R (.inl R) R R R R,Za⟩) λI n2=>?_
  refine Bi [2,3,4,7,14,15,16,17,18,19,20,21,22,24,25,26] [7,25,1000,1001,1002,1003,1004,1005,1006] ?_
  refine Zk R R (Lc (rd:=RV.bool) (a:=true) (.inl rfl) underlying157 underlying3 (.inl rfl) (.inl rfl) (.inl rfl) R)<|aZ<|C7 _<|aG [2,3,4,7,14,15,16] [7,1000,1001,1002,1003,1004,1005,1006] ?_
  refine aR<|sQ R (Ab (a:=.fn 180 [pT 1000 A,pT 1002 j,pT 1004 m,pT 1006 w]) R fK iL R R)<|lF Ef AJ R R<|Nq h5 λw2 w3 w4 aa h6=>?_
  refine ZB [1000,1001,1002,1003,1004,1005,1006] (hc:=(Fp A q B U j (I 6) l1 m C (Am V M.Item true) w)) (bs:=[rI M.Item]) (caps:=[pT 1000 A,pT 1002 j,pT 1004 m,pT 1006 w]) R R R R iL R ⟨.inl ⟨iL,R⟩,Za⟩ ⟨R,R,R,R,R,R,R,R,R,R,R,R,R,R,R,R,R,R,R,R,R,Za⟩ (by decide) (O aa) ?_
  intro i6 n3
  refine Bi [2,3,4,7,14,15,16,27,28,29,30] [7,1000,1001,1002,1003,1004,1005,1006] ?_
  exact aZ<|C5 _<|aR<|AE h6 λx5 ab h7=>xA R ab<|mM R<|Zh<|TL.mk h7 (AI [(i6 0),n3]) wk
 refine Zm ?_
 exact CB.mk (s':=⟨[],(Fp A q B U j (J 0) o2 m C V w),(J 1),32⟩) wk<|Cc (λ(r:(List<|Int × (List AC)) × (List AC) × (List<|Int × Bool)) rr h'=>∃(i:Nat->Nat),rr=.tup []/\h'=(Fp A q B r.1 j (i 0) r.2.1 m C r.2.2 w)) (a2 _<|xH a7 h3)<|by exact⟨.tup [],(Fp A q B U j (J 0) o2 m C V w),⟨_,R,Za⟩,⟨.inr R,.inr R,.inr R,.inr R,.inr R,.inr R,.inr R,Za⟩,R,R,AI [(J 0)],R,R⟩
theorem oA(n:Nat):∀ {F:List (Int × (List AC))} {I:List AC} {m2:List (Int × Bool)} {j:Int} {r:(List<|Int × (List AC)) × (List AC) × (List<|Int × Bool)} {l:Nat} {A:Nat} {B:Nat} {m:Nat} {E:Nat} {q:Nat} {C:Nat} {w:Nat},Dv n F I m2 j=some r->BI prog 180 7 [rI j,pT 1000 l,pT 1002 m,pT 1004 q,pT 1006 w] (Fp l A B F m E I q C m2 w) (λrr h'=>∃(i:Nat->Nat),rr=.tup []/\h'=(Fp l A B r.1 m (i 0) r.2.1 q C r.2.2 w)):=by
 induction n with
 | zero=>intro F I m2 j r l A B m E q C w h;exact absurd (show(none:Option ((List<|Int × (List AC)) × (List AC) × (List<|Int × Bool)))=some r from h)<|by simp
 | succ n J=>intro F I m2 j r l A B m E q C w h;exact og (self:=λF I m2 j=>Dv n F I m2 j) (λM=>J M) h
theorem uQ{F:List (Int × (List AC))}{I:List AC}{m2:List (Int × Bool)}{j:Int}{r:(List<|Int × (List AC)) × (List AC) × (List<|Int × Bool)}{l:Nat}{A:Nat}{B:Nat}{m:Nat}{E:Nat}{q:Nat}{C:Nat}{w:Nat}(h:QQ F I m2 j=some r):BI prog 180 7 [rI j,pT 1000 l,pT 1002 m,pT 1004 q,pT 1006 w] (Fp l A B F m E I q C m2 w) (λrr h'=>∃(i:Nat->Nat),rr=.tup []/\h'=(Fp l A B r.1 m (i 0) r.2.1 q C r.2.2 w)):=by
 unfold QQ at h
 by_cases J:∃n r,Dv n F I m2 j=some r
 .rw[zU J] at h;exact oA _ h
 .rw[WAM J] at h;cases h
theorem uw{j l r}(h:Oa j l=some r):AY prog 186 [.agg<|Cw j,.agg<|Cw l] (rI r):=by
 unfold Oa at h
 exact mF func186 ntmps186 R λw=>aU<|sS R (BD (cs:=(Cw j)) 2 R iL R R)<|sS R (BD (cs:=(Cw l)) 3 R iL R R)<|AG R<|aU<|lF Ef AJ R R<|lF Ef AJ R R<|AE h λA m q=>cL (Ni<|m) R<|AG R<|Zj<|yI q R
theorem rj{l1 r}(h:OV l1=some r):AY prog 134 [qf l1] (qg r):=by
 unfold OV at h
 refine mF func134 ntmps134 R λn0=>aU<|AG R<|aT λc2=>Ah R<|FD h λw1 B af h1=>?_
 refine ZB [14,8225,8226] (hc:=[]) (bs:=[qf l1]) (caps:=[]) R R R R iL R ⟨.inl ⟨iL,R⟩,Za⟩ Za (by decide) (oc af) ?_
 intro m A
 refine Bi [0,2,13,14] [14,8225,8226] ?_
 refine AG R<|c2 _<|aT λc3=>aR ?_
 refine sS R (sI AC.row 15 133 4 R<|by decide) ?_
 refine sS R (BT (cs:=[.cst<|.map none]) 4 R ir R R)<|Zk R R (BF (ds:=[.mref 15 A]) R jZ iL R iL R R R R)<|aZ<|c3 _<|aU<|AG R<|aT λc5=>AK R<|sQ R (Ku (ob:=.box _ _ _) R iL fR R)<|lF Wa Wv R R<|sS R (lj (ob:=.mb (m 1) (m 2) 133<|Ap AC.row w1) 20 R underlying243 (.inl rfl) R (U7 _ _ _ _ _) R)<|aZ ?_
 refine AW.weak (s':=⟨(Wi (m 0) (A+1) (A+3)<|A+2),(V1 (A+1) A (m 0) (m 1) (m 3) A ([]:List (Int × (List AC))) (.mj (A+2) 8225 (m 1) ((w1.map (·.1)).length) []) (A+3) ([]:List AC) (m 2) w1 B),(A+4),80⟩) (Zn (Zn (HC 5 5005 133 4 (by decide) R) (by exact AZ.cv (e':=[(0,qf l1),(2,cZ),(3,pT 14<|m 0),(4,pT 4<|A+1),(5,.own 5005<|A+3),(13,qf l1),(14,pT 14<|m 0),(15,.mref 15 A),(16,pT 14<|m 0),(17,pT 14<|m 0),(18,pT 14<|m 0),(19,.mref 8225<|m 1),(20,pT 20<|A+2)]) (h':=(V1 (A+1) A (m 0) (m 1) (m 3) A ([]:List (Int × (List AC))) (.mj (A+2) 8225 (m 1) ((w1.map (·.1)).length) []) (A+3) ([]:List AC) (m 2) w1 B)) ⟨jL,jL,jL,jL,jL,jL,jL,jL,jL,jL,jL,jL,jL,Za⟩ ⟨.inl R,.inl R,.inl R,.inl R,.inl R,.inl R,.inl R,Za⟩ nL)) wk) ?_
 refine wF (mid:=8225) (mg:=(m 1)) (key:=λ(a:(List AC) × (List<|Int × AC) × (List<|Int × (List AC)))=>a.2.1.map (·.1)) (F:=λ(a:(List AC) × (List<|Int × AC) × (List<|Int × (List AC))) (q:Int)=>Hi B a.1 a.2.1 a.2.2 q) (st0:=([],w1,[])) 20 (λ(a:(List AC) × (List<|Int × AC) × (List<|Int × (List AC))) w=>Wi (m 0) (A+1) (w 0)<|A+2) (λ(a:(List AC) × (List<|Int × AC) × (List<|Int × (List AC))) w=>[bX 4 (A+1) 242 [.mref 15 A],bX 14 (m 0) 246 [.mref 8225<|m 1,.mref 8226<|m 3],(15,some<|.mr A (w 1) 133 4 none<|Ap (λ(l:List AC)=>l.map AC.row) a.2.2),aX 5005 (w 0) 133 4<|a.1.map AC.row,(8225,some<|.mb (m 1) (m 2) 133<|Ap AC.row a.2.1),(8226,some<|.md (m 3)<|Ap (λ(l:List AH)=>RV.sl<|l.map AH.row) B)]) (λw=>w 2) h1 ⟨(AI [(A+3),A,(A+4)]),wk⟩ R R R R R R R R (λ_ _=>.inl R) (λ_ _=>R) (λ_ _=>R) (λ_ _=>⟨_,R,R,U7 _ _ _ _ _⟩) R (λ_ _=>R) ?_ ?_
 .intro a0 q j1 ag ah w ai aj a7 ak
  obtain⟨J,C,X⟩:=a0
  have h2:Hi B J C X q=some ah:=ai;unfold Hi at h2
  refine aG [3,4,5,20] [4,14,15,20,5005,8225,8226] ?_
  refine Zg<|aU<|sQ R (uo R (.inl R) R R ak aj a7)<|xX R<|xX R<|mA R<|AG R<|AK R<|mM R<|sQ R (Ku (ob:=.box _ _ _) R iL fR R)<|lF VS VJ R R<|mM R<|sQ R (MI (rd:=(λ(l:List AH)=>RV.sl<|l.map AH.row)) false (.slice none 0 0) [] R underlying244 underlying3 (H2 Uy) (λ_ _=>.snil) (.inl R) (.inl R) R)<|AE h2 λj E h3=>sQ R (Nj R (.inl rfl) R R λ_=>E)<|sQ R (S7 R Kk (.inl rfl) R R λ_=>E)<|Zk R R (re (a:=j) (a':=(AC.mk j.Item j.Parent j.Place<|(AR B q).getD [])) R Ls (.inl rfl) R R E (.inl rfl) R R)<|Ar λc9=>aG [3,4,5,7,20] [4,14,15,20,5005,8225,8226] ?_
  refine AE h3 λl2 al h4=>?_
  refine GZ 16 [pO 35<|.mref 15 A,pO 36<|.pk 8225 (m 1) (m 2) (Ax C q) 0,pO 37<|.pk 8225 (m 1) (m 2) (Ax C q) 0,pO 38<|.pk 8225 (m 1) (m 2) (Ax C q) 1,pO 39<|rI<|((AC.mk j.Item j.Parent j.Place<|(AR B q).getD []).Parent),pO 40<|.mref 15 A,pO 41<|.pk 8225 (m 1) (m 2) (Ax C q) 0,pO 42<|.pk 8225 (m 1) (m 2) (Ax C q) 0,pO 43<|.pk 8225 (m 1) (m 2) (Ax C q) 1,pO 44<|rI<|((AC.mk j.Item j.Parent j.Place<|(AR B q).getD []).Parent),pO 45<|.fo 15 A (w 1)<|(AC.mk j.Item j.Parent j.Place<|(AR B q).getD []).Parent,pO 46<|.pk 8225 (m 1) (m 2) (Ax C q) 0,pO 47<|.pk 8225 (m 1) (m 2) (Ax C q) 0,pO 48<|.agg [rI<|((AC.mk j.Item j.Parent j.Place<|(AR B q).getD []).Item),rI<|((AC.mk j.Item j.Parent j.Place<|(AR B q).getD []).Parent),.r<|.str<|(AC.mk j.Item j.Parent j.Place<|(AR B q).getD []).Place,.r<|.sl<|((AC.mk j.Item j.Parent j.Place<|(AR B q).getD []).Attrs).map AH.row],⟨some 49,(λI=>.own 49<|I 14),some (49,(λI=>some<|.arr (I 14) 133 4<|[(AC.mk j.Item j.Parent j.Place<|(AR B q).getD [])].map AC.row)),[14]⟩,⟨some 50,(λI=>.fo 15 A (I 15)<|(AC.mk j.Item j.Parent j.Place<|(AR B q).getD []).Parent),some (15,(λI=>some<|.mr A (I 15) 133 4 (some (Ax X<|(AC.mk j.Item j.Parent j.Place<|(AR B q).getD []).Parent,(AR X<|(AC.mk j.Item j.Parent j.Place<|(AR B q).getD []).Parent).isNone))<|Ap (λ(l:List AC)=>l.map AC.row)<|Am X ((AC.mk j.Item j.Parent j.Place<|(AR B q).getD []).Parent) l2)),[15]⟩] BP (by kernel_rfl) (by exact⟨zN,zN,zN,zN,zN,zN,zN,zN,zN,zN,zN,zN,zN,zN,zS 14,zS 15,Za⟩) R (by exact⟨oB [(4,pT 4<|A+1)] [bX 4 (A+1) 242 [.mref 15 A]]<|Ab (a:=.mref 15 A) R Sy (.inl R) R R,oB [(7,.pk 8225 (m 1) (m 2) (Ax C q) 0)] (Gk (m 1) (m 2)<|Am C q<|AC.mk j.Item j.Parent j.Place<|(AR B q).getD [])<|AM R<|.inl R,oB [(36,.pk 8225 (m 1) (m 2) (Ax C q) 0)] (Gk (m 1) (m 2)<|Am C q<|AC.mk j.Item j.Parent j.Place<|(AR B q).getD [])<|Nj R (.inl R) R (by rw[HY E]) λ_=>Gy _ _ _,oB [(37,.pk 8225 (m 1) (m 2) (Ax C q) 0)] (Gk (m 1) (m 2)<|Am C q<|AC.mk j.Item j.Parent j.Place<|(AR B q).getD [])<|S7 R MU (.inl R) R (by rw[HY E]) λ_=>Gy _ _ _,oB [(38,.pk 8225 (m 1) (m 2) (Ax C q) 1)] (Gk (m 1) (m 2)<|Am C q<|AC.mk j.Item j.Parent j.Place<|(AR B q).getD [])<|VV (a:=(AC.mk j.Item j.Parent j.Place<|(AR B q).getD [])) (d:=.int .i64<|(AC.mk j.Item j.Parent j.Place<|(AR B q).getD []).Parent) R AJ (.inl R) R (by rw[HY E]) (λ_=>Gy _ _ _) R,oB [(4,pT 4<|A+1)] [bX 4 (A+1) 242 [.mref 15 A]]<|Ab (a:=.mref 15 A) R Sy (.inl R) R R,oB [(7,.pk 8225 (m 1) (m 2) (Ax C q) 0)] (Gk (m 1) (m 2)<|Am C q<|AC.mk j.Item j.Parent j.Place<|(AR B q).getD [])<|AM R<|.inl R,oB [(41,.pk 8225 (m 1) (m 2) (Ax C q) 0)] (Gk (m 1) (m 2)<|Am C q<|AC.mk j.Item j.Parent j.Place<|(AR B q).getD [])<|Nj R (.inl R) R (by rw[HY E]) λ_=>Gy _ _ _,oB [(42,.pk 8225 (m 1) (m 2) (Ax C q) 0)] (Gk (m 1) (m 2)<|Am C q<|AC.mk j.Item j.Parent j.Place<|(AR B q).getD [])<|S7 R MU (.inl R) R (by rw[HY E]) λ_=>Gy _ _ _,oB [(43,.pk 8225 (m 1) (m 2) (Ax C q) 1)] (Gk (m 1) (m 2)<|Am C q<|AC.mk j.Item j.Parent j.Place<|(AR B q).getD [])<|VV (a:=(AC.mk j.Item j.Parent j.Place<|(AR B q).getD [])) (d:=.int .i64<|(AC.mk j.Item j.Parent j.Place<|(AR B q).getD []).Parent) R AJ (.inl R) R (by rw[HY E]) (λ_=>Gy _ _ _) R,oB [(40,.mref 15 A),(44,rI<|((AC.mk j.Item j.Parent j.Place<|(AR B q).getD []).Parent))] [(15,some<|.mr A (w 1) 133 4 none<|Ap (λ(l:List AC)=>l.map AC.row) X)]<|Vn R underlying242 underlying3 (H2 T1) (.inl R) (.inl R) R,oB [(7,.pk 8225 (m 1) (m 2) (Ax C q) 0)] (Gk (m 1) (m 2)<|Am C q<|AC.mk j.Item j.Parent j.Place<|(AR B q).getD [])<|AM R<|.inl R,oB [(46,.pk 8225 (m 1) (m 2) (Ax C q) 0)] (Gk (m 1) (m 2)<|Am C q<|AC.mk j.Item j.Parent j.Place<|(AR B q).getD [])<|Nj R (.inl R) R (by rw[HY E]) λ_=>Gy _ _ _,oB [(47,.pk 8225 (m 1) (m 2) (Ax C q) 0)] (Gk (m 1) (m 2)<|Am C q<|AC.mk j.Item j.Parent j.Place<|(AR B q).getD [])<|cH (a:=(AC.mk j.Item j.Parent j.Place<|(AR B q).getD [])) (cs:=[rI<|((AC.mk j.Item j.Parent j.Place<|(AR B q).getD []).Item),rI<|((AC.mk j.Item j.Parent j.Place<|(AR B q).getD []).Parent),.r<|.str<|(AC.mk j.Item j.Parent j.Place<|(AR B q).getD []).Place,.r<|.sl<|((AC.mk j.Item j.Parent j.Place<|(AR B q).getD []).Attrs).map AH.row]) R Gr (.inl R) R (by rw[HY E]) (λ_=>Gy _ _ _) R R,oM (λ_=>[(48,.agg [rI<|((AC.mk j.Item j.Parent j.Place<|(AR B q).getD []).Item),rI<|((AC.mk j.Item j.Parent j.Place<|(AR B q).getD []).Parent),.r<|.str<|(AC.mk j.Item j.Parent j.Place<|(AR B q).getD []).Place,.r<|.sl<|((AC.mk j.Item j.Parent j.Place<|(AR B q).getD []).Attrs).map AH.row])]) (λ_=>[]) R λI e h' n=>CA 49 R BV (f:=AC.row) (l:=([(AC.mk j.Item j.Parent j.Place<|(AR B q).getD [])]:List AC)) ⟨R,⟨_,(.inl R),R⟩,Za⟩ R (λ_=>R) R,oM (λI=>[(45,.fo 15 A (w 1)<|(AC.mk j.Item j.Parent j.Place<|(AR B q).getD []).Parent),(49,.own 49<|I 14)]) (λI=>[(15,some<|.mr A (w 1) 133 4 none<|Ap (λ(l:List AC)=>l.map AC.row) X),aX 49 (I 14) 133 4<|[(AC.mk j.Item j.Parent j.Place<|(AR B q).getD [])].map AC.row]) R λI e h' n=>nk (ys:=[(AC.mk j.Item j.Parent j.Place<|(AR B q).getD [])]) R BV (.inl R) R (.inr<|.inl ⟨_,_,_,(.inl R),R⟩) R al,Za⟩) λI n2=>?_
  refine Bi [3,4,5,7,20,35,36,37,38,39,40,41,42,43,44,46,47,48,49,50] [4,14,15,20,49,5005,8225,8226] ?_
  refine Zk R R (rl (.inl rfl) underlying242 underlying3 (.inl rfl) (.inl rfl) (.inl rfl) R)<|aZ<|c9 _<|aG [3,4,5,7,20] [4,14,15,20,5005,8225,8226] ?_
  refine Ah R<|mM R ?_
  refine sQ R (Nj R (.inl rfl) R (by rw[HY E]) λ_=>Gy _ _ _) ?_
  refine sQ R (cH (a:=(AC.mk j.Item j.Parent j.Place<|(AR B q).getD [])) (cs:=[rI<|((AC.mk j.Item j.Parent j.Place<|(AR B q).getD []).Item),rI<|((AC.mk j.Item j.Parent j.Place<|(AR B q).getD []).Parent),.r<|.str<|(AC.mk j.Item j.Parent j.Place<|(AR B q).getD []).Place,.r<|.sl<|((AC.mk j.Item j.Parent j.Place<|(AR B q).getD []).Attrs).map AH.row]) R Gr (.inl rfl) R (by rw[HY E]) (λ_=>Gy _ _ _) R R) ?_
  refine sS R (CA 55 R BV (f:=AC.row) (l:=([(AC.mk j.Item j.Parent j.Place<|(AR B q).getD [])]:List AC)) ⟨R,⟨_,iL,R⟩,Za⟩ R (λ_=>R) R)<|AE h4 λa8 a1 h5=>sS R (DN R BV iL R (.inr<|.inl ⟨_,_,iL,R⟩) a1)<|mA R<|Zh ?_
  show Exit.normal=Exit.normal/\∃i':Nat->Nat,AZ _ _
  have aa:=Zf h5;subst aa
  exact⟨R,(AI [(n2+1),(I 15),(n2+2)]),(Zn (show AZ _ ⟨(Wi (m 0) (A+1) (n2+1)<|A+2),(V1 (A+1) A (m 0) (m 1) (m 3) (I 15) (Am X ((AC.mk j.Item j.Parent j.Place<|(AR B q).getD []).Parent) l2) (.mj (A+2) 8225 (m 1) ((w1.map (·.1)).length)<|ag++[j1]) (n2+1) a8 (m 2) (Am C q<|AC.mk j.Item j.Parent j.Place<|(AR B q).getD []) B),(n2+2),80⟩ from wk) wk)⟩
 intro a0 w an
 obtain⟨J,C,X⟩:=a0
 have h6:=sP an
 refine c5 _<|aU<|sS R (BT (cs:=[cZ]) 8 R T1 R R)<|FS<|sS R (QA RV.bool 57 R)<|sS R (BT (cs:=[.cst<|.map none]) 9 R X6 R R)<|Zk R R (BF (ds:=[.mref 57<|(w 2)+1]) R fW iL R iL R R R R)<|FS<|sS R (BT (cs:=[.cst<|.nilFunc]) 10 R vS R R)<|Ar λao=>aR ?_
 refine sQ R (Kz (bs:=[pT 4<|A+1,pT 8<|w 2,pT 9<|(w 2)+2,pT 10<|(w 2)+3]) R<|by exact⟨iL,iL,iL,iL,Za⟩) ?_
 refine Zk R R (BF (ds:=[.fn 180 [pT 4<|A+1,pT 8<|w 2,pT 9<|(w 2)+2,pT 10<|(w 2)+3]]) R qJ iL R iL R R R R)<|aZ<|ao _<|aT λaq=>aR<|sQ R (Ab (a:=.fn 180 [pT 4<|A+1,pT 8<|w 2,pT 9<|(w 2)+2,pT 10<|(w 2)+3]) R fK iL R R) ?_
 refine AN.weak (Zn (T3 8 0 3080 133 4 (by decide) R R<|by decide)<|by exact AZ.cv (e':=[(3,pT 14<|m 0),(4,pT 4<|A+1),(5,.own 5005<|w 0),(8,pT 8<|w 2),(9,pT 9<|(w 2)+2),(10,pT 10<|(w 2)+3),(57,.mref 57<|(w 2)+1),(58,.fn 180 [pT 4<|A+1,pT 8<|w 2,pT 9<|(w 2)+2,pT 10<|(w 2)+3]),(59,.fn 180 [pT 4<|A+1,pT 8<|w 2,pT 9<|(w 2)+2,pT 10<|(w 2)+3])]) (h':=[bX 4 (A+1) 242 [.mref 15 A],bX 8 (w 2) 129 [.own 3080<|(w 2)+4],bX 9 ((w 2)+2) 157 [.mref 57<|(w 2)+1],bX 10 ((w 2)+3) 248 [.fn 180 [pT 4<|A+1,pT 8<|w 2,pT 9<|(w 2)+2,pT 10<|(w 2)+3]],bX 14 (m 0) 246 [.mref 8225<|m 1,.mref 8226<|m 3],(15,some<|.mr A (w 1) 133 4 none<|Ap (λ(l:List AC)=>l.map AC.row) X),(57,some<|.md ((w 2)+1)<|Ap RV.bool ([]:List (Int × Bool))),aX 3080 ((w 2)+4) 133 4<|([]:List AC).map AC.row,aX 5005 (w 0) 133 4<|J.map AC.row,(8225,some<|.mb (m 1) (m 2) 133<|Ap AC.row C),(8226,some<|.md (m 3)<|Ap (λ(l:List AH)=>RV.sl<|l.map AH.row) B)]) ⟨jL,jL,jL,jL,jL,jL,jL,jL,jL,Za⟩ ⟨.inl R,.inl R,.inl R,.inl R,.inl R,.inl R,.inl R,.inl R,.inl R,.inl R,.inl R,Za⟩ nL) ?_
 refine Nq h6 λw3 w4 w5 ar h7=>?_
 refine ZB [4,15,8,3080,9,57,10] (hc:=(Fp (A+1) A (w 1) X (w 2) ((w 2)+4) ([]:List AC) ((w 2)+2) ((w 2)+1) ([]:List (Int × Bool))<|(w 2)+3)) (bs:=[rI 0]) (caps:=[pT 1000<|A+1,pT 1002<|w 2,pT 1004<|(w 2)+2,pT 1006<|(w 2)+3]) R R R R iL R ⟨.inl ⟨iL,R⟩,Za⟩ ⟨R,R,R,R,R,R,R,R,R,R,R,R,R,R,R,R,R,R,R,R,R,Za⟩ (by decide) (uQ ar) ?_
 intro i6 n3
 refine Bi [3,4,5,8,9,10,57,58,59,60] [4,8,9,10,14,15,57,3080,5005,8225,8226] ?_
 refine aZ<|aq _<|aT λau=>Ah R<|AE h7 λw6 av h8=>?_
 refine ZB [5005] (hc:=(EY (w 0) J)) (bs:=[.own 1000<|w 0,.fn 186 []]) (caps:=[]) R R R R iL R ⟨.inl ⟨iL,R⟩,.inl ⟨iL,R⟩,Za⟩ ⟨R,R,R,Za⟩ (by decide) ((wI (row:=AC.row) cK (by decide) (λ_=>R) ⟨_,func186,R,R⟩ λ_ _ _ h=>uw h) av) ?_
 intro i7 n4
 refine Bi [3,4,5,8,9,10,57,58,59,60,61,62] [4,8,9,10,14,15,57,3080,5005,8225,8226] ?_
 refine aZ<|au _<|aS λaw ax ab=>aT λay=>aG [5,8,9] [8,9,57,3080,5005] ?_
 refine Ah R<|sQ R (H1 R BV.slice iL R)<|mM R<|aZ<|ay _<|Zg<|Bb h8 λo1 ac az=>?_
 have J1:∀(M:List AC) (O:NN),o1=M->aw ⟨[(8,pT 8<|w 2)],[bX 8 (w 2) 129 [.own 3080<|O 0],aX 3080 (O 0) 133 4<|M.map AC.row],(O 1),80⟩:=by
  intro M O e
  have h9:=az _ e
  exact ax _<|aU<|sQ R (Ab (a:=.own 3080<|O 0) R XE iL R R)<|AG R<|Zj<|C3 (P:=prog) (λ(r:(List AC))=>qg r) h9 iL<|.t<|.one<|.own R
 refine C0 (λ(x3:Int) (T:List AC) F=>⟨[(8,pT 8<|w 2),(9,pT 9<|(w 2)+2),(63,.own 5005<|w 0),(64,rL w6),(65,rI x3)],(dK (w 2) (F 0) ((w 2)+2) ((w 2)+1) w5 T (w 0) w6),(F 1),80⟩) (AI [(i6 0),n4]) ac wk ?_
 intro x3 T F v1 b0 b1
 have ad:I4 w5 w6 x3 T=some v1:=b0;unfold I4 at ad
 refine aU<|xS R<|Ar λb2=>cI R ad (λa2=>?_) λa2=>?_
 .refine Zc<|b2 _<|aS λb3 b4 Z=>Zg<|Bb a2 λp1 b5 b6=>?_
  have J2:∀(U:List AC) (V:NN),p1=U->b3 ⟨[(8,pT 8<|w 2),(9,pT 9<|(w 2)+2),(63,.own 5005<|w 0),(64,rL w6),(65,rI x3)],(dK (w 2) (V 0) ((w 2)+2) ((w 2)+1) w5 U (w 0) w6),(V 1),80⟩:=by
   intro U V e
   have b7:=b6 _ e
   exact b4 _<|aR<|AE b7 λx5 b8 b9=>xA R b8<|mM R<|Zh<|ZE b9 (AI [(V 0),(V 1)]) wk
  refine aU<|AE b5 λx6 ae ba=>sQ R (EE R BV.slice iL R iL λ_=>ae)<|sQ R (VP (cs:=(Cw x6)) R Gr iL fR (λ_=>ae) R)<|sS R (BT (cs:=M8) 12 R PV R R)<|Zk R R (BF (ds:=(Cw x6)) R MP iL R iL R R R R)<|FS<|sQ R (Ab (a:=.mref 57<|(w 2)+1) R Q4 iL R R)<|lF Ef AJ R R<|sQ R (MI (rd:=RV.bool) false (.bool false) false R underlying157 underlying3 (H2 Vv) (λ_ _=>.bool _) (.inl R) (.inl R) R)<|sQ R (BC R iL)<|aZ<|cI R ba (λa6=>?_) λa6=>?_
  .exact aR<|sQ R (Ab (a:=.own 3080<|F 0) R XE iL R R)<|xC Gr R<|sS R (CA 76 R BV (f:=AC.row) (l:=([x6]:List AC)) ⟨R,⟨_,iL,R⟩,Za⟩ R (λ_=>R) R)<|AE a6 λl3 bb bc=>sS R (DN R BV iL R (.inr<|.inl ⟨_,_,iL,R⟩) bb)<|Zk R R (BF (ds:=[.own 3080<|(F 1)+2]) R X0 iL R iL R R R R)<|Zh<|Z _ _ wk<|J2 _ (AI [((F 1)+2),((F 1)+3)]) (Zf bc).symm
  exact Zc<|Z _ _ wk<|J2 _ (AI [(F 0),((F 1)+1)]) (Zf a6).symm
 exact Zm<|ab _ _ wk<|J1 _ (AI [(F 0),(F 1)])<|xH b1 a2
theorem pu{i r}(h:N0 i=some r):AY prog 135 [qg i] (rI r):=by
 unfold N0 at h
 refine mF func135 ntmps135 R λq=>aU<|AG R<|aU<|sS R (QA RV.bool 6 R)<|Zk R R (Lc (rd:=RV.bool) (a:=true) (.inr R) underlying157 underlying3 (.inl rfl) (.inl rfl) (.inl rfl) R)<|mM R<|AG R<|aS λK3 c3 w=>AK R<|xL BV R<|mM R<|aZ<|Zg<|BU h λo1 j A B=>?_
 have J1:∀(U:Unit) (V:NN),o1=.nrm U->K3 ⟨[(0,qg i)],[],(V 0),27⟩:=by
  intro U V e
  have h1:=A _ e
  exact c3 _<|AK R<|xL BV R<|AG R<|Zj<|yI h1 R
 refine C0 (λ(C:Int) (m2:List (Int × Bool)) m=>⟨[(0,qg i),(3,.mref 6 q),(8,qg i),(9,rL i),(10,rI C)],[(6,some<|.md q<|Ap RV.bool m2)],(m 0),27⟩) (AI [(q+1)]) j wk ?_
 intro C m2 m v1 E l
 have X:KA i C m2=some v1:=E;unfold KA at X
 refine aU<|xS R<|Ar λc7=>cI R X (λF=>?_) λF=>?_
 .refine Zc<|c7 _<|aT λc8=>Zg<|AK R<|AE F λZ I h4=>xI BV R I<|xB ((Cw Z)) Gr R<|sS R (BT (cs:=M8) 5 R PV R R)<|mA R<|Zk R R (BF (ds:=(Cw Z)) R MP iL R iL R R R R)<|Ar λJ=>AK R<|lF MU AJ R R<|sQ R (MI (rd:=RV.bool) false (.bool false) false R underlying157 underlying3 (H2 Vv) (λ_ _=>.bool _) (.inl R) (.inl R) R)<|sQ R (BC R iL)<|aZ<|cI R h4 (λM=>?_) λM=>?_
  .refine aT λO=>aF [4] ?_
   exact Ah R<|AG R<|O _<|Zj<|yI (B _<|xH l M) R
  refine Zc<|J _<|aG [0,3,5,8,9,10] [5,6] ?_
  exact Ah R<|lF Ef AJ R R<|Zk R R (Lc (rd:=RV.bool) (a:=true) (.inl rfl) underlying157 underlying3 (.inl rfl) (.inl rfl) (.inl rfl) R)<|aZ<|c8 _<|aR<|AE M λx5 T h6=>xA R T<|mM R<|Zh<|ZE h6 (AI [((m 0)+1)]) wk
 exact Zm<|w _ _ wk<|J1 _ (AI [(m 0)])<|xH l F
theorem Rf{j n r}(h:IS j n=some r):AY prog 23 [qa j,rS n] (rS r):=by
 unfold IS at h
 refine mF func23 ntmps23 R λZ=>aU<|AG R<|aS λK2 c2 w=>AK R<|xL BK R<|mM R<|aZ<|Zg<|BU h λo1 l A B=>?_
 have J1:∀(T:Unit) (U:NN),o1=.nrm T->K2 ⟨[],[],(U 0),20⟩:=by
  intro T U e
  have h1:=A _ e
  exact c2 _<|aU<|AG R<|Zj<|C3 (P:=prog) (λ(r:(List UInt8))=>rS r) h1 iL<|.t<|.d R
 refine Zv (λ(C:Int) q=>⟨[(1,rS n),(7,qa j),(8,rL j),(9,rI C)],[],(q 0),20⟩) (AI [Z]) l wk ?_
 intro C q v1 E m
 have V:OG j n C=some v1:=E;unfold OG at V
 refine aU<|xS R<|Ar λc6=>cI R V (λF=>?_) λF=>?_
 .refine Zc<|c6 _<|aT λc7=>Zg<|aU<|AE F λX I h4=>xI BK R I<|xB ((Cp X)) E3 R<|sS R (BT (cs:=[.r<|.str [],.r<|.str []]) 6 R Yh R R)<|Zk R R (BF (ds:=(Cp X)) R Xv iL R iL R R R R)<|FS<|lF Ep BO R R<|mM R<|sQ R (EM R iL iL)<|aZ<|cI R h4 (λJ=>?_) λJ=>?_
  .refine aT λM=>aG [6] [6] ?_
   exact aR<|lF Jd BO R R<|AG R<|M _<|Zj<|C3 (P:=prog) (λ(r:(List UInt8))=>rS r) (B _<|xH m J) iL<|.t<|.d R
  exact Zc<|c7 _<|aR<|AE J λx5 O h6=>xA R O<|mM R<|Zh<|Zr h6 (AI [((q 0)+1)]) wk
 exact Zm<|w _ _ wk<|J1 _ (AI [(q 0)])<|xH m F
theorem Xo{j r}(h:Jb j=some r):AY prog 26 [rS j] (.tup [rI r.1,.ifc r.2]):=by
 unfold Jb at h
 exact AY.atoiS lx R R R ⟨_,func26,R,R⟩ h
theorem UC{n1 r}(h:strconv_Itoa n1=some r):AY prog 27 [rI n1] (rS r):=by
 unfold strconv_Itoa at h
 exact AY.itoaS (g:=XN) YR R (by kernel_rfl) R ⟨_,func27,R,R⟩ h
theorem su{d1 n1 r}(h:GT d1 n1=some r):AY prog 87 [.agg [qb d1.Nodes],.agg<|A8 n1] (.r<|.sl<|r.map<|Ai .i64):=by
 unfold GT at h
 refine mF func87 ntmps87 R λj=>aU<|sS R (BD (cs:=[qb d1.Nodes]) 2 R iL R R)<|sS R (BD (cs:=(A8 n1)) 3 R iL R R)<|AG R<|aU<|AG R<|aU<|lF HF Ic R R<|AE h λJ U h1=>sS R (Dz (r:=qg J) (caps:=[]) (bs:=[qf n1.Draw]) R iL R ⟨.inl ⟨iL,R⟩,Za⟩ λ_=>rj<|U)<|AG R<|aS λK4 c4 V=>aT λc5=>Ah R<|mM R<|AE h1 λr1 X h2=>cL (pu<|X) R<|AE h2 λA Z h3=>?_
 refine sQ R (ZC R BV.slice iL (by exact R) (by exact⟨_,iL⟩) (λ_=>R) λ_=>Z) ?_
 refine xL BV R<|mM R<|aZ<|c5 _<|Zg<|Bb h3 λo1 M a0=>?_
 have J1:∀(m:List Int) (O:NN),o1=m->K4 ⟨[(5,.own 5005<|O 0)],[aX 5005 (O 0) 3 1<|m.map<|Ai .i64],(O 1),64⟩:=by
  intro m O e
  have h4:=a0 _ e
  exact c4 _<|AK R<|AG R<|Zj<|C3 (P:=prog) (λ(r:(List Int))=>.r<|.sl<|r.map<|Ai .i64) h4 iL<|.t<|.one<|.own R
 refine C0 (λ(T:Int) (q:List Int) l=>⟨[(2,pT 2 j),(5,.own 5005<|l 0),(20,qg A),(21,rL A),(22,rI T)],[bX 2 j 24 [qb d1.Nodes],aX 5005 (l 0) 3 1<|q.map<|Ai .i64],(l 1),64⟩) (AI [(j+2),(j+3)]) M (Zn (Zn (HC 5 5005 3 1 (by decide) R)<|by exact AZ.cv (e':=[(0,.agg [qb d1.Nodes]),(1,.agg<|A8 n1),(2,pT 2 j),(3,pT 3<|j+1),(4,cZ),(5,.own 5005<|j+2),(6,qg J),(14,.ptr 3 (j+1) 0 8),(15,qf n1.Draw),(16,qg J),(17,qg J),(18,qg J),(19,rI r1),(20,qg A),(21,rL A),(22,rI 0)]) (h':=[bX 2 j 24 [qb d1.Nodes],bX 3 (j+1) 44<|A8 n1,aX 5005 (j+2) 3 1<|([]:List Int).map<|Ai .i64]) ⟨jL,jL,jL,jL,jL,jL,jL,jL,jL,jL,jL,jL,jL,jL,jL,jL,Za⟩ ⟨.inl R,.inl R,.inl R,Za⟩ nL) wk) ?_
 intro T q l v1 a1 a2
 have h5:IO d1 A T q=some v1:=a1;unfold IO at h5
 refine aU<|xS R<|Ar λc8=>cI R h5 (λh6=>?_) λh6=>?_
 .refine Zc<|c8 _<|aS λK9 c9 B=>Zg<|Bb h6 λp1 a6 a7=>?_
  have J2:∀(w:List Int) (I:NN),p1=w->K9 ⟨[(2,pT 2 j),(5,.own 5005<|I 0),(20,qg A),(21,rL A),(22,rI T)],[bX 2 j 24 [qb d1.Nodes],aX 5005 (I 0) 3 1<|w.map<|Ai .i64],(I 1),64⟩:=by
   intro w I e
   have h7:=a7 _ e
   exact c9 _<|aR<|AE h7 λx4 a8 h8=>xA R a8<|mM R<|Zh<|ZE h8 (AI [(I 0),(I 1)]) wk
  refine aU<|AE a6 λx5 aa h9=>xI BV R aa<|xB ((Cw x5)) Gr R<|sS R (BT (cs:=M8) 8 R PV R R)<|Zk R R (BF (ds:=(Cw x5)) R MP iL R iL R R R R)<|FS<|lF Kk Cq R R<|AE h9 λs1 ab ac=>cL (Rf<|ab) R<|AG R<|AK R<|FD ac λr2 r3 ad ae=>cL (Xo<|ad) R<|mM R<|xX R<|xX R<|mA R<|AG R<|aT λaf=>aT λag=>aG [2,5,9,10,11,20,21,22] [2,5005] ?_
  refine Ah R<|sQ R (lX R fD iL)<|mM R<|vM R<|AE ae λr4 ah ai=>vL (λhg=>UC<|Af ah hg) R<|vM R<|vQ R (D7 R (iR R)<|iR R)<|xO R<|aZ<|ag _<|cI R ai (λC=>?_) λC=>?_
  .exact Zm<|B _ _ wk<|J2 _ (AI [(l 0),((l 1)+1)]) (Zf C).symm
  refine Zc<|af _<|aU<|xC CG R<|mM R<|FD C λr5 r6 aj ak=>cL (Q5<|aj) R<|mM R<|xX R<|xX R<|mA R<|AG R<|aT λal=>aG [2,5,10,12,13,20,21,22] [2,5005] ?_
  refine Ah R<|mM R<|vF CZ Cf R R<|vM R<|AE ak λx6 an ao=>vQ R (BN R B7.slice (iR R) (iR R) (λ_=>R)<|Af an)<|vQ R (BL R CH<|iR R)<|vQ R (Bm (d:=.int .i64 x6.Kind) R AJ (iR R) R)<|vQ R (BB R (iR R) iL)<|xN R<|aZ<|al _<|cI R ao (λE=>?_) λE=>?_
  .exact Ah R<|mM R<|sS R (CA 60 R Bo (f:=(Ai .i64)) (l:=([r2]:List Int)) ⟨R,⟨_,iL,R⟩,Za⟩ R (λ_=>R) R)<|AE E λar F aq=>sS R (DN R Bo iL R (.inr<|.inl ⟨_,_,iL,R⟩) F)<|mA R<|Zh<|B _ _ wk<|J2 _ (AI [((l 1)+2),((l 1)+3)]) (Zf aq).symm
  exact Zc<|B _ _ wk<|J2 _ (AI [(l 0),((l 1)+1)]) (Zf E).symm
 exact Zm<|V _ _ wk<|J1 _ (AI [(l 0),(l 1)])<|xH a2 h6
theorem pc{self:(List (List RV)->Option Bool)->(List<|Int × Bool)->(List<|List RV)->Ac->As->Option (Bool × (List<|Int × Bool) × (List<|List RV))}(X:∀ {A1:List (List RV)->Option Bool} {m1:List (Int × Bool)} {M:List (List RV)} {E:Ac} {v1:As} {r:Bool × (List<|Int × Bool) × (List<|List RV)} {q:Nat} {B:Nat} {w:Nat} {A:Nat} {j:Nat} {m:Nat} {l:Nat} {F:FE},self A1 m1 M E v1=some r->(F.P=prog/\F.A=A1)->BI prog 84 7 [.agg<|HN v1,pT 1000 q,pT 1002 w,pT 1005 m,pT 1006 l] (CQ q B m1 w A (.yld 1004 j) (.cal j F M) m (qb E.Nodes) l) (λrr h'=>∃(i:Nat->Nat),rr=rB r.1/\h'=(CQ q B r.2.1 w A (.yld 1004 j) (.cal j F r.2.2) m (qb E.Nodes) l))){A1:List (List RV)->Option Bool}{m1:List (Int × Bool)}{M:List (List RV)}{E:Ac}{v1:As}{r:Bool × (List<|Int × Bool) × (List<|List RV)}{q:Nat}{B:Nat}{w:Nat}{A:Nat}{j:Nat}{m:Nat}{l:Nat}{F:FE}(h:Tl self A1 m1 M E v1=some r)(hW:(F.P=prog/\F.A=A1)):BI prog 84 7 [.agg<|HN v1,pT 1000 q,pT 1002 w,pT 1005 m,pT 1006 l] (CQ q B m1 w A (.yld 1004 j) (.cal j F M) m (qb E.Nodes) l) (λrr h'=>∃(i:Nat->Nat),rr=rB r.1/\h'=(CQ q B r.2.1 w A (.yld 1004 j) (.cal j F r.2.2) m (qb E.Nodes) l)):=by
 unfold Tl at h
 refine E0 func84 R R ntmps84 (Zw R) λV=>aU<|sS R (BD (cs:=(HN v1)) 5 R iL R R)<|AG R<|aT λc2=>aU<|sQ R (Ab (a:=.mref 1001 B) R Q4 iL R R)<|lF Ki AJ R R<|sQ R (MI (rd:=RV.bool) false (.bool false) false R underlying157 underlying3 (H2 Vv) (λ_ _=>.bool _) (.inl R) (.inl R) R)<|aZ<|cI R h (λh1=>?_) λh1=>?_
 .refine aT λc4=>aG [] [1000,1001,1002,1003,1004,1005,1006] ?_
  refine aR<|mA R<|oZ c4 ?_
  exact Zj<|CB.mk (s':=⟨[(6,rB true)],(CQ q B m1 w A (.yld 1004 j) (.cal j F M) m (qb E.Nodes) l),(V+1),121⟩) wk<|Cc (λ(r:Bool × (List<|Int × Bool) × (List<|List RV)) rr h'=>∃(i:Nat->Nat),rr=rB r.1/\h'=(CQ q B r.2.1 w A (.yld 1004 j) (.cal j F r.2.2) m (qb E.Nodes) l)) h1<|by exact⟨rB true,(CQ q B m1 w A (.yld 1004 j) (.cal j F M) m (qb E.Nodes) l),R,⟨.inr R,.inr R,.inr R,.inr R,.inr R,.inr R,.inr R,Za⟩,R,R,AI [],R,R⟩
 refine Zc<|c2 _<|aU<|sQ R (Ab (a:=.mref 1001 B) R Q4 iL R R)<|lF Ki AJ R R<|Zk R R (Lc (rd:=RV.bool) (a:=true) (.inl rfl) underlying157 underlying3 (.inl rfl) (.inl rfl) (.inl rfl) R)<|Ar λc6=>aT λc7=>aG [2,3,4,5] [5,1000,1001,1002,1003,1004,1005,1006] ?_
 refine aR<|sQ R (Ab (a:=.fn 47 [pT 1003 A]) R QW iL R R)<|xC pE R<|FD h1 λr1 w2 bc h2=>?_
 refine ZB [1003,1004] (hc:=(GL A (.yld 1001 j)<|.cal j F M)) (bs:=[.agg<|HN v1]) (caps:=[pT 1000 A]) R R R R iL R ⟨.inl ⟨iL,R⟩,Za⟩ ⟨R,R,R,R,R,R,Za⟩ (by decide) (vm bc hW) ?_
 intro i1 n1
 refine Bi [2,3,4,5,24,25,26] [5,1000,1001,1002,1003,1004,1005,1006] ?_
 refine sQ R (BC R iL)<|aZ<|c7 _<|cI R h2 (λh3=>?_) λh3=>?_
 .refine aU<|AG R ?_
  exact Zj<|CB.mk (s':=⟨[(6,rB false)],(CQ q B (Am m1 v1.id true) w A (.yld 1004 j) (.cal j F w2) m (qb E.Nodes) l),n1,121⟩) wk<|Cc (λ(r:Bool × (List<|Int × Bool) × (List<|List RV)) rr h'=>∃(i:Nat->Nat),rr=rB r.1/\h'=(CQ q B r.2.1 w A (.yld 1004 j) (.cal j F r.2.2) m (qb E.Nodes) l)) h3<|by exact⟨rB false,(CQ q B (Am m1 v1.id true) w A (.yld 1004 j) (.cal j F w2) m (qb E.Nodes) l),R,⟨.inr R,.inr R,.inr R,.inr R,.inr R,.inr R,.inr R,Za⟩,R,R,AI [],R,R⟩
 refine Zc<|c6 _<|aU<|xC CG R<|lF Ki AJ R R<|FD h3 λr2 r3 bd h4=>cL (Q5<|bd) R<|mM R<|xX R<|xX R<|mA R<|AG R<|aT λbe=>aG [3,4,5,7] [5,1000,1001,1002,1003,1004,1005,1006] ?_
 refine aR<|lF CZ Cf R R<|mM R<|AE h4 λJ bf h5=>xI B7 R bf<|xB ((A8 J)) D8 R<|sS R (BT (cs:=E7) 9 R Ia R R)<|Zk R R (BF (ds:=(A8 J)) R HV iL R iL R R R R)<|aZ<|be _<|aS λbg bh ar=>aU<|lF Ew E5 R R<|AE h5 λr4 bi h6=>sS R (Dz (r:=.r<|.sl<|r4.map<|Ai .i64) (caps:=[]) (bs:=[qe J.Flow]) R iL R ⟨.inl ⟨iL,R⟩,Za⟩ λ_=>vP<|bi)<|xL Bo R<|mM R<|aZ<|Zg<|UW h6 λo1 au bj bk=>?_
 have J1:∀(m5:List (Int × Bool)) (ab:List (List RV)) (i6:NN),o1=.nrm (m5,ab)->bg ⟨[(3,pT 1005 m),(4,pT 1006 l),(5,pT 5 V),(9,pT 9 n1)],(Qb V v1 n1 J q B m5 w A (.yld 1004 j) (.cal j F ab) m (qb E.Nodes) l),(i6 0),121⟩:=by
  intro m5 ab i6 e
  have h7:=bj _ _ e
  refine bh _<|aS λbl bm av=>aU<|sQ R (fB R Ej iL fR R)<|lF EU Ek R R<|xL CD R<|mM R<|aZ<|Zg<|UW h7 λo2 aw bn bo=>?_
  have J2:∀(m9:List (Int × Bool)) (ac:List (List RV)) (ad:NN),o2=.nrm (m9,ac)->bl ⟨[(3,pT 1005 m),(4,pT 1006 l),(5,pT 5 V),(9,pT 9 n1)],(Qb V v1 n1 J q B m9 w A (.yld 1004 j) (.cal j F ac) m (qb E.Nodes) l),(ad 0),121⟩:=by
   intro m9 ac ad e
   have h8:=bn _ _ e
   refine bm _<|aS λbp bq ax=>aU<|xC CG R<|xC D8 R<|AE h8 λr5 br h9=>sS R (Dz (r:=.r<|.sl<|r5.map<|Ai .i64) (caps:=[]) (bs:=[.agg [qb E.Nodes],.agg<|A8 J]) R iL R ⟨.inl ⟨iL,R⟩,.inl ⟨iL,R⟩,Za⟩ λ_=>su<|br)<|xL Bo R<|mM R<|aZ<|Zg<|UW h9 λo3 ay bs bt=>?_
   have J3:∀(a0:List (Int × Bool)) (O:List (List RV)) (i16:NN),o3=.nrm (a0,O)->bp ⟨[],(CQ q B a0 w A (.yld 1004 j) (.cal j F O) m (qb E.Nodes) l),(i16 0),121⟩:=by
    intro a0 O i16 e
    have bu:=bs _ _ e
    refine bq _<|aU<|AG R ?_
    exact Zj<|CB.mk (s':=⟨[(6,rB true)],(CQ q B a0 w A (.yld 1004 j) (.cal j F O) m (qb E.Nodes) l),(i16 0),121⟩) wk<|Cc (λ(r:Bool × (List<|Int × Bool) × (List<|List RV)) rr h'=>∃(i:Nat->Nat),rr=rB r.1/\h'=(CQ q B r.2.1 w A (.yld 1004 j) (.cal j F r.2.2) m (qb E.Nodes) l)) bu<|by exact⟨rB true,(CQ q B a0 w A (.yld 1004 j) (.cal j F O) m (qb E.Nodes) l),R,⟨.inr R,.inr R,.inr R,.inr R,.inr R,.inr R,.inr R,Za⟩,R,R,AI [],R,R⟩
   refine IE (λ(x9:Int) (a2:List (Int × Bool)) (Z:List (List RV)) ae=>⟨[(4,pT 1006 l),(5,pT 5 V),(105,.r<|.sl<|r5.map<|Ai .i64),(106,rL r5),(107,rI x9)],[bX 5 V 112<|HN v1,bX 1000 q 157 [.mref 1001 B],(1001,some<|.md B<|Ap RV.bool a2),bX 1002 w 113 [.fn 47 [pT 1003 A]],bX 1003 A 109 [.yld 1004 j],(1004,some<|.cal j F Z),bX 1005 m 24 [qb E.Nodes],bX 1006 l 113 [.fn 84 [pT 1000 q,pT 1002 w,pT 1005 m,pT 1006 l]]],(ae 0),121⟩) (AI [(ad 0)]) ay wk ?_
   intro x9 a2 Z ae v2 bv az
   have b0:UL A1 E v1 self r5 x9 a2 Z=some v2:=bv;unfold UL at b0
   refine aU<|xS R<|Ar λbw=>cI R b0 (λaf=>?_) λaf=>?_
   .refine Zc<|bw _<|aT λbx=>Zg<|aU<|AE af λag b1 bz=>xI Bo R b1<|xV (.int .i64 ag) AJ R<|AG R<|aT λc0=>aR<|sQ R (Ab (a:=.fn 84 [pT 1000 q,pT 1002 w,pT 1005 m,pT 1006 l]) R QW iL R R)<|mM R<|lF Ki AJ R R<|lF Wy JM R R ?_
    refine sQ R (Ch R Tm (q:=[(0,_),(1,_),(2,_)]) (by exact⟨R,R,R,iL,R,R,R,iL,R,R,R,iL,Za⟩) (cs:=[rI ag,rI v1.id,rB v1.visible])<|by rfl) ?_
    refine Nq bz λr6 w3 w4 c1 c3=>?_
    refine ZB [1000,1001,1002,1003,1004,1005,1006] (hc:=(CQ q B a2 w A (.yld 1004 j) (.cal j F Z) m (qb E.Nodes) l)) (bs:=[.agg [rI ag,rI v1.id,rB v1.visible]]) (caps:=[pT 1000 q,pT 1002 w,pT 1005 m,pT 1006 l]) R R R R iL R ⟨.inl ⟨iL,R⟩,Za⟩ ⟨R,R,R,R,R,R,R,R,R,R,R,R,R,R,R,R,R,R,R,R,R,Za⟩ (by decide) (X c1 hW) ?_
    intro cy n2
    refine Bi [4,5,16,105,106,107,108,109,110,111,112,113,114,115,116,117,118] [5,1000,1001,1002,1003,1004,1005,1006] ?_
    refine sQ R (BC R iL)<|aZ<|c0 _<|cI R c3 (λah=>?_) λah=>?_
    .refine aT λc5=>aG [] [1000,1001,1002,1003,1004,1005,1006] ?_
     refine aR<|mA R<|oZ c5 ?_
     exact Zj<|CB.mk (s':=⟨[(6,rB false)],(CQ q B w3 w A (.yld 1004 j) (.cal j F w4) m (qb E.Nodes) l),n2,121⟩) wk<|Cc (λ(r:Bool × (List<|Int × Bool) × (List<|List RV)) rr h'=>∃(i:Nat->Nat),rr=rB r.1/\h'=(CQ q B r.2.1 w A (.yld 1004 j) (.cal j F r.2.2) m (qb E.Nodes) l)) (bt _<|xH az ah)<|by exact⟨rB false,(CQ q B w3 w A (.yld 1004 j) (.cal j F w4) m (qb E.Nodes) l),R,⟨.inr R,.inr R,.inr R,.inr R,.inr R,.inr R,.inr R,Za⟩,R,R,AI [],R,R⟩
    refine Zc<|bx _<|aG [4,5,105,106,107] [5,1000,1001,1002,1003,1004,1005,1006] ?_
    exact aR<|AE ah λcz b2 c8=>xA R b2<|mM R<|Zh<|FL.mk c8 (AI [n2]) wk
   exact Zm<|ax _ _ wk<|J3 _ _ (AI [(ae 0)])<|xH az af
  refine IE (λ(x6:Int) (m7:List (Int × Bool)) (a6:List (List RV)) i9=>⟨[(3,pT 1005 m),(4,pT 1006 l),(5,pT 5 V),(9,pT 9 n1),(60,qc J.Grid.Cells),(61,rL J.Grid.Cells),(62,rI x6)],(Qb V v1 n1 J q B m7 w A (.yld 1004 j) (.cal j F a6) m (qb E.Nodes) l),(i9 0),121⟩) (AI [(i6 0)]) aw wk ?_
  intro x6 m7 a6 i9 v3 c9 b3
  have b4:Wn A1 E v1 self J x6 m7 a6=some v3:=c9;unfold Wn at b4
  refine aU<|xS R<|Ar λca=>cI R b4 (λai=>?_) λai=>?_
  .refine Zc<|ca _<|aT λcb=>Zg<|aU<|AE ai λC b5 cc=>xI CD R b5<|xB ((B2 C)) FR R<|sS R (BT (cs:=Iz) 13 R IP R R)<|Zk R R (BF (ds:=(B2 C)) R Ih iL R iL R R R R)<|FS<|sQ R (fB R Ej iL fR R)<|sQ R (LN (ds:=(CY J.Grid)) R Jj iL R R R)<|lF FU AJ R R<|lF Ft AJ R R<|AE cc λI cd cf=>sS R (Dz (r:=.agg<|BY I) (caps:=[]) (bs:=[.agg<|CY J.Grid,rI C.Row,rI C.Col]) R iL R ⟨.inl ⟨iL,R⟩,.inl ⟨iL,R⟩,.inl ⟨iL,R⟩,Za⟩ λ_=>tR<|cd)<|sS R (BT (cs:=F6) 14 R IW R R)<|Zk R R (BF (ds:=(BY I)) R Gu iL R iL R R R R)<|aZ<|aS λcg ch aa=>aG [3,4,5,9,13,14,60,61,62] [5,9,13,14,1000,1001,1002,1003,1004,1005,1006] ?_
   refine aR<|lF Ez AJ R R<|xU R<|mM R<|vQ R (Ab (a:=.fn 84 [pT 1000 q,pT 1002 w,pT 1005 m,pT 1006 l]) R QW iL R R)<|vF Ez AJ R R<|vF Ki AJ R R<|vF Wy JM R R<|vQ R (AM R<|iR R)<|wQ R (fB R Cz iL fR R)<|wQ R (Ab (a:=rI I.Row) R AJ (iR R) R R)<|wQ R (fB R FU iL fR R)<|wQ R (Ab (a:=rI C.Row) R AJ (iR R) R R)<|wQ R (BB R (iR R)<|iR R)<|vQ R (BZ R (iR R)<|iR R)<|vQ R (AM R<|iR R)<|wQ R (fB R DV iL fR R)<|wQ R (Ab (a:=rI I.Col) R AJ (iR R) R R)<|wQ R (fB R Ft iL fR R)<|wQ R (Ab (a:=rI C.Col) R AJ (iR R) R R)<|wQ R (BB R (iR R)<|iR R)<|vQ R (BZ R (iR R)<|iR R) ?_
   refine vQ R (Ch R Tm (q:=[(0,_),(1,_),(2,_)]) (by exact⟨R,R,R,(iR R),R,R,R,(iR R),R,R,R,(iR R),Za⟩) (cs:=[rI C.Ref,rI v1.id,rB<|((v1.visible&&(I.Row=C.Row))&&(I.Col=C.Col))])<|by rfl) ?_
   refine qt cf λp1 b6 cj=>?_
   have J4:∀(aj:Bool) (a1:List (Int × Bool)) (T:List (List RV)) (a7:NN),p1=(aj,a1,T)->cg ⟨[(3,pT 1005 m),(4,pT 1006 l),(5,pT 5 V),(9,pT 9 n1),(60,qc J.Grid.Cells),(61,rL J.Grid.Cells),(62,rI x6),(101,rB aj)],(Qb V v1 n1 J q B a1 w A (.yld 1004 j) (.cal j F T) m (qb E.Nodes) l),(a7 0),121⟩:=by
    intro aj a1 T a7 e
    have ck:=cj _ _ _ e
    refine ch _<|cI R ck (λak=>?_) λak=>?_
    .refine aU<|AG R ?_
     exact Zj<|CB.mk (s':=⟨[(6,rB false)],(CQ q B a1 w A (.yld 1004 j) (.cal j F T) m (qb E.Nodes) l),(a7 0),121⟩) wk<|Cc (λ(r:Bool × (List<|Int × Bool) × (List<|List RV)) rr h'=>∃(i:Nat->Nat),rr=rB r.1/\h'=(CQ q B r.2.1 w A (.yld 1004 j) (.cal j F r.2.2) m (qb E.Nodes) l)) (bo _<|xH b3 ak)<|by exact⟨rB false,(CQ q B a1 w A (.yld 1004 j) (.cal j F T) m (qb E.Nodes) l),R,⟨.inr R,.inr R,.inr R,.inr R,.inr R,.inr R,.inr R,Za⟩,R,R,AI [],R,R⟩
    exact Zc<|cb _<|aR<|AE ak λd0 b7 cl=>xA R b7<|mM R<|Zh<|FL.mk cl (AI [(a7 0)]) wk
   refine AN.split ((!(C.Ref=0))==true) (λU=>?_) λU=>?_
   .have al:=D2 U b6
    refine AN.weak (by exact Xf (e':=[(3,pT 1005 m),(4,pT 1006 l),(5,pT 5 V),(9,pT 9 n1),(13,pT 13<|i9 0),(14,pT 14<|(i9 0)+1),(60,qc J.Grid.Cells),(61,rL J.Grid.Cells),(62,rI x6),(73,.ptr 13 (i9 0) 0 3),(74,rI C.Ref),(75,rB<|(!(C.Ref=0))),(76,rB<|(!(C.Ref=0))),(77,.fn 84 [pT 1000 q,pT 1002 w,pT 1005 m,pT 1006 l]),(78,.ptr 13 (i9 0) 0 3),(79,rI C.Ref),(80,pT 5 V),(81,rI v1.id),(82,.ptr 5 V 0 2),(83,rB v1.visible),(84,rB v1.visible),(85,.whn (v1.visible==true)<|pT 14<|(i9 0)+1),(86,.whn (v1.visible==true)<|rI I.Row),(87,.whn (v1.visible==true)<|pT 13<|i9 0),(88,.whn (v1.visible==true)<|rI C.Row),(89,.whn (v1.visible==true)<|rB<|(decide<|I.Row=C.Row)),(90,rB<|(v1.visible&&(I.Row=C.Row))),(91,rB<|(v1.visible&&(I.Row=C.Row))),(92,.whn ((v1.visible&&(I.Row=C.Row))==true)<|.ptr 14 ((i9 0)+1) 0 1),(93,.whn ((v1.visible&&(I.Row=C.Row))==true)<|rI I.Col),(94,.whn ((v1.visible&&(I.Row=C.Row))==true)<|.ptr 13 (i9 0) 0 1),(95,.whn ((v1.visible&&(I.Row=C.Row))==true)<|rI C.Col),(96,.whn ((v1.visible&&(I.Row=C.Row))==true)<|rB<|(decide<|I.Col=C.Col)),(97,rB<|((v1.visible&&(I.Row=C.Row))&&(I.Col=C.Col))),(98,.agg [rI C.Ref,rI v1.id,rB<|((v1.visible&&(I.Row=C.Row))&&(I.Col=C.Col))])]) U ⟨.inl R,.inl R,.inl R,.inl R,.inl R,.inl R,.inl R,.inl R,.inl R,.inl R,.inl R,.inl R,.inl R,.inr iL,.inr iL,.inr iL,.inr iL,.inr iL,.inr iL,.inr iL,.inr iL,.inr<|.inr<|.inl ⟨_,_,R,R⟩,.inr<|.inr<|.inl ⟨_,_,R,R⟩,.inr<|.inr<|.inl ⟨_,_,R,R⟩,.inr<|.inr<|.inl ⟨_,_,R,R⟩,.inr<|.inr<|.inl ⟨_,_,R,R⟩,.inr iL,.inr iL,.inr<|.inr<|.inl ⟨_,_,R,R⟩,.inr<|.inr<|.inl ⟨_,_,R,R⟩,.inr<|.inr<|.inl ⟨_,_,R,R⟩,.inr<|.inr<|.inl ⟨_,_,R,R⟩,.inr<|.inr<|.inl ⟨_,_,R,R⟩,.inr iL,.inr iL,Za⟩) ?_
    refine Nq al λr8 w5 w6 cm cn=>?_
    refine wJ (.one R R R) U [1000,1001,1002,1003,1004,1005,1006] (hc:=(CQ q B m7 w A (.yld 1004 j) (.cal j F a6) m (qb E.Nodes) l)) (bs:=[.agg [rI C.Ref,rI v1.id,rB<|((v1.visible&&(I.Row=C.Row))&&(I.Col=C.Col))]]) (caps:=[pT 1000 q,pT 1002 w,pT 1005 m,pT 1006 l]) R R R iL R ⟨.inl ⟨iL,R⟩,Za⟩ ⟨R,R,R,R,R,R,R,R,R,R,R,R,R,R,R,R,R,R,R,R,R,Za⟩ (by decide) (X cm hW) ?_
    intro d1 n3
    refine Bi [3,4,5,9,13,14,60,61,62,73,74,75,76,77,78,79,80,81,82,83,84,90,91,97,98,99] [5,9,13,14,1000,1001,1002,1003,1004,1005,1006] ?_
    exact Ns (.one R R R) U R R (AS.spec (BC R<|.inl R) _)<|sQ R (BZ R iL iL)<|Zh<|aa _ _ wk<|J4 _ _ _ (AI [n3]) (Zf cn).symm
   .have al:=Dw U b6
    exact KS (.one R R R) U R R<|KS (.one R R R) U R R<|xN R<|Zh<|aa _ _ wk<|J4 _ _ _ (AI [((i9 0)+2)]) (Zf al).symm
  exact Zm<|av _ _ wk<|J2 _ _ (AI [(i9 0)])<|xH b3 ai
 refine IE (λ(x3:Int) (m3:List (Int × Bool)) (a8:List (List RV)) i4=>⟨[(3,pT 1005 m),(4,pT 1006 l),(5,pT 5 V),(9,pT 9 n1),(42,.r<|.sl<|r4.map<|Ai .i64),(43,rL r4),(44,rI x3)],(Qb V v1 n1 J q B m3 w A (.yld 1004 j) (.cal j F a8) m (qb E.Nodes) l),(i4 0),121⟩) (AI [(n1+1)]) au wk ?_
 intro x3 m3 a8 i4 v4 cp b8
 have b9:UO A1 E v1 self r4 x3 m3 a8=some v4:=cp;unfold UO at b9
 refine aU<|xS R<|Ar λcq=>cI R b9 (λan=>?_) λan=>?_
 .refine Zc<|cq _<|aT λcr=>Zg<|aU<|AE an λao ba cs=>xI Bo R ba<|xV (.int .i64 ao) AJ R<|AG R<|aT λct=>aR<|sQ R (Ab (a:=.fn 84 [pT 1000 q,pT 1002 w,pT 1005 m,pT 1006 l]) R QW iL R R)<|mM R<|lF Ki AJ R R<|lF Wy JM R R ?_
  refine sQ R (Ch R Tm (q:=[(0,_),(1,_),(2,_)]) (by exact⟨R,R,R,iL,R,R,R,iL,R,R,R,iL,Za⟩) (cs:=[rI ao,rI v1.id,rB v1.visible])<|by rfl) ?_
  refine Nq cs λr9 w7 w8 cu cv=>?_
  refine ZB [1000,1001,1002,1003,1004,1005,1006] (hc:=(CQ q B m3 w A (.yld 1004 j) (.cal j F a8) m (qb E.Nodes) l)) (bs:=[.agg [rI ao,rI v1.id,rB v1.visible]]) (caps:=[pT 1000 q,pT 1002 w,pT 1005 m,pT 1006 l]) R R R R iL R ⟨.inl ⟨iL,R⟩,Za⟩ ⟨R,R,R,R,R,R,R,R,R,R,R,R,R,R,R,R,R,R,R,R,R,Za⟩ (by decide) (X cu hW) ?_
  intro d2 n4
  refine Bi [3,4,5,9,11,42,43,44,45,46,47,48,49,50,51,52,53,54,55] [5,9,1000,1001,1002,1003,1004,1005,1006] ?_
  refine sQ R (BC R iL)<|aZ<|ct _<|cI R cv (λaq=>?_) λaq=>?_
  .refine aT λcw=>aG [] [1000,1001,1002,1003,1004,1005,1006] ?_
   refine aR<|mA R<|oZ cw ?_
   exact Zj<|CB.mk (s':=⟨[(6,rB false)],(CQ q B w7 w A (.yld 1004 j) (.cal j F w8) m (qb E.Nodes) l),n4,121⟩) wk<|Cc (λ(r:Bool × (List<|Int × Bool) × (List<|List RV)) rr h'=>∃(i:Nat->Nat),rr=rB r.1/\h'=(CQ q B r.2.1 w A (.yld 1004 j) (.cal j F r.2.2) m (qb E.Nodes) l)) (bk _<|xH b8 aq)<|by exact⟨rB false,(CQ q B w7 w A (.yld 1004 j) (.cal j F w8) m (qb E.Nodes) l),R,⟨.inr R,.inr R,.inr R,.inr R,.inr R,.inr R,.inr R,Za⟩,R,R,AI [],R,R⟩
  refine Zc<|cr _<|aG [3,4,5,9,42,43,44] [5,9,1000,1001,1002,1003,1004,1005,1006] ?_
  exact aR<|AE aq λd3 bb cx=>xA R bb<|mM R<|Zh<|FL.mk cx (AI [n4]) wk
 exact Zm<|ar _ _ wk<|J1 _ _ (AI [(i4 0)])<|xH b8 an
theorem qA(n:Nat):∀ {F:List (List RV)->Option Bool} {I:List (Int × Bool)} {C:List (List RV)} {E:Ac} {v1:As} {r:Bool × (List<|Int × Bool) × (List<|List RV)} {l:Nat} {A:Nat} {m:Nat} {B:Nat} {j:Nat} {q:Nat} {w:Nat} {J:FE},HK n F I C E v1=some r->(J.P=prog/\J.A=F)->BI prog 84 7 [.agg<|HN v1,pT 1000 l,pT 1002 m,pT 1005 q,pT 1006 w] (CQ l A I m B (.yld 1004 j) (.cal j J C) q (qb E.Nodes) w) (λrr h'=>∃(i:Nat->Nat),rr=rB r.1/\h'=(CQ l A r.2.1 m B (.yld 1004 j) (.cal j J r.2.2) q (qb E.Nodes) w)):=by
 induction n with
 | zero=>intro F I C E v1 r l A m B j q w J h;exact absurd (show(none:Option (Bool × (List<|Int × Bool) × (List<|List RV)))=some r from h)<|by simp
 | succ n M=>intro F I C E v1 r l A m B j q w J h O;exact pc (self:=λF I C E v1=>HK n F I C E v1) (λT U=>M T U) h O
theorem nB{I:List (List RV)->Option Bool}{J:List (Int × Bool)}{C:List (List RV)}{E:Ac}{v1:As}{r:Bool × (List<|Int × Bool) × (List<|List RV)}{l:Nat}{A:Nat}{m:Nat}{B:Nat}{j:Nat}{q:Nat}{w:Nat}{F:FE}(h:Sk I J C E v1=some r)(O:F.P=prog/\F.A=I):BI prog 84 7 [.agg<|HN v1,pT 1000 l,pT 1002 m,pT 1005 q,pT 1006 w] (CQ l A J m B (.yld 1004 j) (.cal j F C) q (qb E.Nodes) w) (λrr h'=>∃(i:Nat->Nat),rr=rB r.1/\h'=(CQ l A r.2.1 m B (.yld 1004 j) (.cal j F r.2.2) q (qb E.Nodes) w)):=by
 unfold Sk at h
 by_cases M:∃n r,HK n I J C E v1=some r
 .rw[zU M] at h;exact qA _ h O
 .rw[WAM M] at h;cases h
theorem rK{B:List (List RV)->Option Bool}{w:List (List RV)}{d1:Ac}{r:(List<|List RV)}{l:Nat}{j:Nat}{q:FE}(h:P7 B w d1=some r)(E:q.P=prog/\q.A=B):BI prog 46 2 [.agg [qb d1.Nodes],.fn 47 [pT 1000 l]] (GL l (.yld 1001 j)<|.cal j q w) (λrr h'=>∃(i:Nat->Nat),rr=.tup []/\h'=(GL l (.yld 1001 j)<|.cal j q r)):=by
 unfold P7 at h
 refine E0 func46 R R ntmps46 (Zw R) λm=>aU<|sS R (BD (cs:=[qb d1.Nodes]) 2 R iL R R)<|sS R (BD (cs:=[.fn 47 [pT 1000 l]]) 3 R iL R R)<|FS<|sS R (QA RV.bool 6 R)<|sS R (BT (cs:=[.cst<|.map none]) 4 R X6 R R)<|Zk R R (BF (ds:=[.mref 6<|m+2]) R fW iL R iL R R R R)<|FS<|sS R (BT (cs:=[.cst<|.nilFunc]) 5 R tF R R)<|Ar λF=>aR ?_
 refine sQ R (Kz (bs:=[pT 4<|m+3,pT 3<|m+1,pT 2 m,pT 5<|m+4]) R<|by exact⟨iL,iL,iL,iL,Za⟩) ?_
 refine Zk R R (BF (ds:=[.fn 84 [pT 4<|m+3,pT 3<|m+1,pT 2 m,pT 5<|m+4]]) R jF iL R iL R R R R)<|aZ<|F _<|aR<|sQ R (Ab (a:=.fn 84 [pT 4<|m+3,pT 3<|m+1,pT 2 m,pT 5<|m+4]) R QW iL R R) ?_
 refine sQ R (Ch R Tm (q:=[(0,_),(1,_),(2,_)]) (by exact⟨R,R,R,iL,R,R,R,iL,R,R,R,iL,Za⟩) (cs:=[rI 1,rI 0,rB true])<|by rfl) ?_
 refine Nq h λM O C A I=>?_
 refine ZB [4,6,3,1000,1001,2,5] (hc:=(CQ (m+3) (m+2) ([]:List (Int × Bool)) (m+1) l (.yld 1004 j) (.cal j q w) m (qb d1.Nodes)<|m+4)) (bs:=[.agg [rI 1,rI 0,rB true]]) (caps:=[pT 1000<|m+3,pT 1002<|m+1,pT 1005 m,pT 1006<|m+4]) R R R R iL R ⟨.inl ⟨iL,R⟩,Za⟩ ⟨R,R,R,R,R,R,R,R,R,R,R,R,R,R,R,R,R,R,R,R,R,Za⟩ (by decide) (nB A E) ?_
 intro T J
 refine Bi [0,1,2,3,4,5,6,7,8,9,10] [2,3,4,5,6,1000,1001] ?_
 refine Zh ?_
 exact CB.mk (s':=⟨[],(GL l (.yld 1001 j)<|.cal j q C),J,11⟩) wk<|Cc (λ(r:(List<|List RV)) rr h'=>∃(i:Nat->Nat),rr=.tup []/\h'=(GL l (.yld 1001 j)<|.cal j q r)) I<|by exact⟨.tup [],(GL l (.yld 1001 j)<|.cal j q C),⟨_,R,Za⟩,⟨.inr R,.inr R,Za⟩,R,R,AI [],R,R⟩
theorem ZT{F:List (List RV)->Option Bool}{m:List (List RV)}{w:Ac}{r:(List<|List RV)}{j:Nat}{l:Nat}{q:FE}(h:GO F m w=some r)(J:q.P=prog/\q.A=F):BI prog 45 2 [.yld 1000 j,pT 1001 l] (KP (.cal j q m) l<|qb w.Nodes) (λrr h'=>∃(i:Nat->Nat),rr=.tup []/\h'=(KP (.cal j q r) l<|qb w.Nodes)):=by
 unfold GO at h
 refine E0 func45 R R ntmps45 (Zw R) λA=>aU<|sS R (BD (cs:=[.yld 1000 j]) 2 R iL R R)<|Ar λM=>aU<|xC CG R<|AE h λV B O=>cL (Wx<|B) R<|xU R<|aZ<|cI R O (λC=>?_) λC=>?_
 .exact Zj<|CB.mk (s':=⟨[],(KP (.cal j q m) l<|qb w.Nodes),(A+1),9⟩) wk<|Cc (λ(r:(List<|List RV)) rr h'=>∃(i:Nat->Nat),rr=.tup []/\h'=(KP (.cal j q r) l<|qb w.Nodes)) C<|by exact⟨.tup [],(KP (.cal j q m) l<|qb w.Nodes),⟨_,R,Za⟩,⟨.inr R,.inr R,Za⟩,R,R,AI [],R,R⟩
 refine Zc<|M _<|aR<|xC CG R ?_
 refine sQ R (Kz (bs:=[pT 2 A]) R<|by exact⟨iL,Za⟩) ?_
 refine AE C λI E T=>?_
 refine ZB [2,1000] (hc:=(GL A (.yld 1001 j)<|.cal j q m)) (bs:=[.agg [qb w.Nodes],.fn 47 [pT 1000 A]]) (caps:=[]) R R R R iL R ⟨.inl ⟨iL,R⟩,.inl ⟨iL,R⟩,Za⟩ ⟨R,R,R,R,R,R,Za⟩ (by decide) (rK E J) ?_
 intro X U
 refine Bi [0,1,2,3,4,5,6,7,8] [2,1000,1001] ?_
 refine Zh ?_
 exact CB.mk (s':=⟨[],(KP (.cal j q I) l<|qb w.Nodes),U,9⟩) wk<|Cc (λ(r:(List<|List RV)) rr h'=>∃(i:Nat->Nat),rr=.tup []/\h'=(KP (.cal j q r) l<|qb w.Nodes)) T<|by exact⟨.tup [],(KP (.cal j q I) l<|qb w.Nodes),⟨_,R,Za⟩,⟨.inr R,.inr R,Za⟩,R,R,AI [],R,R⟩
theorem rT{i r}(h:QM i=some r):AY prog 24 [rI i] (rS r):=by
 unfold QM at h
 exact mF func24 ntmps24 R λw=>aU<|AG R<|AK R<|AE h λA j m=>cL (UC<|j) R<|AE m λB l q=>sQ R (R0 R iL iL λ_=>l)<|AG R<|Zj<|C3 (P:=prog) (λ(r:(List UInt8))=>rS r) q iL<|.t<|.d R
theorem uY{d1 b r}(h:KW d1 b=some r):AY prog 5 [.agg [qb d1.Nodes],rI b] (.tup [qi r.1,rI r.2]):=by
 unfold KW at h
 refine mF func5 ntmps5 R λj=>aU<|sS R (BD (cs:=[qb d1.Nodes]) 2 R iL R R)<|sS R (BD (cs:=[rI b]) 3 R iL R R)<|mA R<|AG R<|aT λc2=>aU<|xC CG R<|sQ R (Ab (a:=rI b) R AJ iL R R)<|AE h λe1 a8 h1=>cL (kE<|a8) R<|AG R<|AK R<|xU R<|aZ<|cI R h1 (λh2=>?_) λh2=>?_
 .refine aT λc5=>aF [6] ?_
  exact Ah R<|mA R<|AG R<|c5 _<|Zj<|EI (P:=prog) (λ(r:(List Ag) × Int)=>qi r.1) (λ(r:(List Ag) × Int)=>rI r.2) h2 iL (.t<|.one<|.nil)<|.t<|.d R
 refine Zc<|c2 _<|aT λc6=>aG [2,3] [2,3] ?_
 refine aR<|sS R (BT (cs:=[cZ]) 7 R nT R R)<|aZ<|c6 _<|aT λc7=>aT λc8=>aR<|xC CG R<|AE h2 λw1 aa h3=>?_
 refine ZB [20] (hc:=[]) (bs:=[.agg [qb d1.Nodes]]) (caps:=[]) R R R R iL R ⟨.inl ⟨iL,R⟩,Za⟩ Za (by decide) (cG aa) ?_
 intro V F
 refine Bi [2,3,7,19,20] [2,3,7,20] ?_
 refine aZ<|c8 _<|Zg ?_
 refine AW.weak (s':=⟨(eW j (j+1) (j+2) (qb d1.Nodes)<|V 0),(eD j (qb d1.Nodes) (j+1) b (j+2) F (V 0) (qb w1.Nodes) ([]:List Ag)),(F+1),93⟩) (Zn (Zn (T3 7 0 90 56 3 (by decide) R R<|by decide)<|by exact AZ.cv (e':=(eW j (j+1) (j+2) (qb d1.Nodes)<|V 0)) (h':=(eD j (qb d1.Nodes) (j+1) b (j+2) F (V 0) (qb w1.Nodes) ([]:List Ag))) ⟨jL,jL,jL,jL,jL,Za⟩ ⟨.inl R,.inl R,.inl R,.inl R,.inl R,Za⟩ nL) wk) ?_
 refine AE h3 λbk ab ac=>?_
 refine AW.rng2 (it:=λA=>GO A [] w1) (L:=[20]) (hB:=[bX 1001 (V 0) 24 [qb w1.Nodes]]) (caps:=[pT 1001<|V 0]) 0 (λ(l:(List Ag)) C=>[bX 2 j 24 [qb d1.Nodes],bX 3 (j+1) 3 [rI b],bX 7 (j+2) 26 [.own 90<|C 0],aX 90 (C 0) 56 3<|l.map Ag.row]) (λC=>(F+2)+(C 1)) (AI [F,0]) ab R R (by exact⟨R,R,R,Za⟩) R (by decide) R (by exact⟨.inr R,.inr R,.inr R,.inr R,Za⟩) R (λ_ _=>R) nL (λi=>xD (ye _)<|WAH _ _) R R ⟨_,func45,R,R⟩ (λW ys hP hi=>⟨_,ZT hi ⟨hP,R⟩,λrr h' ⟨i,e1,e2⟩=>by rw[e2];rfl⟩) ?_ ?_
 .intro E1 A0 B0 bl bm (l) EV b1 ad C h4
  have h5:I5 d1 b l EV b1=some ad:=h4;unfold I5 at h5
  refine aG [2,3,7,19,21,22] [0,2,3,7,90] ?_
  refine aR<|mA R<|Zh<|hZ R<|Xd<|Zg<|aT λc9=>AE h5 λr1 ae h6=>AE h6 λE af h7=>?_
  refine GZ 8 [pO 23<|pT 2 j,pO 24<|qb d1.Nodes,pO 25<|.agg [qb d1.Nodes],pO 26<|rI EV,pO 27<|rI r1,pO 28<|.rop (Ad.row E) 0,pO 29<|.agg<|A8 E,⟨some 9,(λX=>pT 9<|X 7),some (9,(λX=>some<|.box (X 7) 44 E7)),[7]⟩] BP (by kernel_rfl) (by exact⟨zN,zN,zN,zN,zN,zN,zN,zS 7,Za⟩) R (by exact⟨oB [(2,pT 2 j)] (Lb j<|qb d1.Nodes)<|fB R CZ (.inl R) (λ_=>R) R,oB [(23,pT 2 j)] (Lb j<|qb d1.Nodes)<|Ab (a:=qb d1.Nodes) R Cf (.inl R) R R,oB [(2,pT 2 j)] (Lb j<|qb d1.Nodes)<|EW R CG (.inl R) R R,oB [(8,rI EV)] []<|AM R<|.inl R,oD (λ_=>[(25,.agg [qb d1.Nodes]),(26,rI EV)]) (λ_=>[]) λX e h' n=>Db (r:=rI r1) (caps:=[]) (bs:=[.agg [qb d1.Nodes],rI EV]) R (.inl R) R ⟨⟨_,(.inl R),.g (cs:=[.sl<|d1.Nodes.map Ad.row]) R R⟩,⟨_,(.inl R),.d R⟩,Za⟩ (λ_=>VB<|ae) R,oB [(24,qb d1.Nodes),(27,rI r1)] []<|BN R B7.slice (.inl R) (.inl R) (λ_=>R) λ_=>af,oB [(28,.rop (Ad.row E) 0)] []<|EB (cs:=(A8 E)) R D8 (.inl R) R R,oM (λ_=>[]) (λ_=>[]) R λX e h' n=>BT (cs:=E7) 9 R Ia R R,Za⟩) λX n2=>?_
  refine Bi [2,3,7,8,9,19,21,22,23,24,25,26,27,28,29] [0,2,3,7,9,90] ?_
  refine Zk R R (BF (ds:=(A8 E)) R HV iL R iL R R R R)<|aZ<|c9 _<|aT λag=>aT λah=>aG [3,7,8,9] [0,2,3,7,9,90] ?_
  refine aR<|lF CH AJ R R<|AE h7 λr2 ai h8=>cL (VN<|ai) R<|sQ R (BC R iL)<|aZ<|ah _<|cI R h8 (λh9=>?_) λh9=>?_
  .exact Zm<|⟨_,(show AZ _ ⟨[],(R8 (.lp (F+1) E1 93 [21,22] A0 B0 .busy none) j (qb d1.Nodes) (j+1) b (j+2) (C 0) l),n2,93⟩ from wk),Qs h9 (AI [(C 0),n2]) R<|zr _ _⟩
  refine Zc<|ag _<|aU<|lF Ew E5 R R<|xL CN R<|mM R<|aZ<|Zg<|BU h9 λo3 Z bn aj=>C0 (λ(J:Int) (m:List Ag) i8=>⟨[(3,pT 3<|j+1),(7,pT 7<|j+2),(8,rI EV),(35,qe E.Flow),(36,rL E.Flow),(37,rI J)],(R8 (.lp (F+1) E1 93 [21,22] A0 B0 .busy none) j (qb d1.Nodes) (j+1) b (j+2) (i8 0) m),(i8 1),93⟩) (AI [(C 0),n2]) Z wk ?_
  intro J m i8 v1 ak al
  have a0:L7 b EV E J m=some v1:=ak;unfold L7 at a0
  refine aU<|xS R<|Ar λan=>cI R a0 (λM=>?_) λM=>?_
  .refine Zc<|an _<|aS λao aq q=>Zg<|Bb M λp1 ar au=>?_
   have J2:∀(w:List Ag) (B:NN),p1=w->ao ⟨[(3,pT 3<|j+1),(7,pT 7<|j+2),(8,rI EV),(35,qe E.Flow),(36,rL E.Flow),(37,rI J)],(R8 (.lp (F+1) E1 93 [21,22] A0 B0 .busy none) j (qb d1.Nodes) (j+1) b (j+2) (B 0) w),(B 1),93⟩:=by
    intro w B e
    have av:=au _ e
    exact aq _<|aR<|AE av λx5 aw ax=>xA R aw<|mM R<|Zh<|ZE ax (AI [(B 0),(B 1)]) wk
   refine AK R<|AE ar λx6 ay az=>xI CN R ay<|xB ((Eh x6)) Kb R<|sS R (BT (cs:=QY) 11 R On R R)<|mA R<|Zk R R (BF (ds:=(Eh x6)) R NR iL R iL R R R R)<|Ar λb0=>aT λb2=>?_
   refine Zz BP (by kernel_rfl) ?_
   refine qP R (fB R QS iL fR R)<|qP R (Ab (a:=qa x6.Attrs) R Cq iL R R)<|qP R (Ab (a:=rI b) R AJ iL R R)<|AE az λr3 b3 b4=>AQ.stepC R R R (r:=rS r3) (caps:=[]) (bs:=[rI b]) R iL R ⟨⟨_,iL,.d R⟩,Za⟩ (λ_=>rT<|b3) R<|AE b4 λr4 b5 b6=>AQ.stepC R R R (r:=rS r4) (caps:=[]) (bs:=[qa x6.Attrs,rS r3]) R iL R ⟨⟨_,iL,.d R⟩,⟨_,iL,.d R⟩,Za⟩ (λ_=>Rf<|b5) R<|qP R (D7 R iL iL)<|AQ.nil<|b2 _<|cI R b6 (λO=>?_) λO=>?_
   .exact Zm<|q _ _ wk<|J2 _ (AI [(i8 0),((i8 1)+1)]) (Zf O).symm
   refine Zc<|b0 _<|aT λb7=>aT λb8=>aG [3,7,8,10,35,36,37] [0,2,3,7,90] ?_
   refine aR<|sQ R (Ab (a:=.own 90<|i8 0) R ND iL R R)<|sQ R (H1 R D1.slice iL R)<|AE O λk1 b9 ba=>sQ R (CJ R iL iL λ_=>b9)<|AG R<|b8 _<|AK R<|sQ R (DE R iL iL)<|mM R<|vQ R (Ab (a:=.own 90<|i8 0) R ND iL R R)<|vM R<|AE ba λx7 a1 bb=>vQ R (EE R D1.slice (iR R) R (iR R)<|Af a1)<|vQ R (CO (ob:=.arr _ _ _ _) R qW (iR R) fR R)<|vQ R (KO (d:=.int .i64 x7.Node) R AJ (iR R) fR (Af a1) R)<|vM R<|vQ R (BB R (iR R)<|iR R)<|xN R<|mM R<|vQ R (Ab (a:=.own 90<|i8 0) R ND iL R R)<|vM R<|AE bb λx8 a2 bc=>vQ R (EE R D1.slice (iR R) R (iR R)<|Af a2)<|vQ R (CO (ob:=.arr _ _ _ _) R ON (iR R) fR R)<|vQ R (CO (ob:=.arr _ _ _ _) R OE (iR R) fR R)<|vQ R (KO (d:=.int .i64 x8.Span.To) R AJ (iR R) fR (Af a2) R)<|vM R<|vQ R (BB R (iR R)<|iR R)<|xN R<|aZ<|cI R bc (λT=>?_) λT=>?_
   .refine aT λbd=>aG [3,7,8,12,35,36,37] [0,2,3,7,90] ?_
    exact aR<|sQ R (Ab (a:=.own 90<|i8 0) R ND iL R R)<|mM R<|AE T λx9 I be=>sQ R (EE R D1.slice iL R iL λ_=>I)<|sQ R (CO (ob:=.arr _ _ _ _) R ON iL fR R)<|sQ R (CO (ob:=.arr _ _ _ _) R OE iL fR R)<|sQ R (KO (d:=.int .i64 x9.Span.To) R AJ iL fR (λ_=>I) R)<|AE be λbf a6 bg=>xA R a6<|sQ R (EE R D1.slice iL R iL λ_=>I)<|sQ R (CO (ob:=.arr _ _ _ _) R ON iL fR R)<|sQ R (CO (ob:=.arr _ _ _ _) R OE iL fR R)<|Zk R R (Ow (v:=(Ag.mk x9.Node<|FX.mk x9.Span.From bf)) R Yu iL R I iL R R R R)<|aZ<|bd _<|Zm<|q _ _ wk<|J2 _ (AI [(i8 0),((i8 1)+1)]) (Zf bg).symm
   refine Zc<|b7 _<|aG [3,7,8,10,35,36,37] [0,2,3,7,90] ?_
   refine aR<|sQ R (Ab (a:=.own 90<|i8 0) R ND iL R R)<|mM R<|mM R<|mM R<|AE T λU a7 bh=>xA R a7 ?_
   refine sQ R (Ch R X8 (q:=[(0,_),(1,_)]) (by exact⟨R,R,R,iL,R,R,R,iL,Za⟩) (cs:=[rI J,rI U])<|by rfl) ?_
   refine sQ R (Ch R eT (q:=[(0,_),(1,_)]) (by exact⟨R,R,R,iL,R,R,R,iL,Za⟩) (cs:=[rI EV,rI J,rI U])<|by rfl) ?_
   exact sS R (CA 89 R D1 (f:=Ag.row) (l:=([(Ag.mk EV<|FX.mk J U)]:List Ag)) ⟨R,⟨_,iL,R⟩,Za⟩ R (λ_=>R) R)<|AE bh λl1 bi bj=>sS R (DN R D1 iL R (.inr<|.inl ⟨_,_,iL,R⟩) bi)<|Zk R R (BF (ds:=[.own 90<|(i8 1)+2]) R ro iL R iL R R R R)<|Zh<|q _ _ wk<|J2 _ (AI [((i8 1)+2),((i8 1)+3)]) (Zf bj).symm
  exact Zm<|⟨_,(show AZ _ ⟨[],(R8 (.lp (F+1) E1 93 [21,22] A0 B0 .busy none) j (qb d1.Nodes) (j+1) b (j+2) (i8 0) m),(i8 1),93⟩ from wk),Qs (aj _<|xH al M) (AI [(i8 0),(i8 1)]) R<|zr _ _⟩
 intro C
 exact c7 _<|aU<|sQ R (Ab (a:=.own 90<|C 0) R ND iL R R)<|mA R<|AG R<|Zj<|EI (P:=prog) (λ(r:(List Ag) × Int)=>qi r.1) (λ(r:(List Ag) × Int)=>rI r.2) ac iL (.t<|.one<|.own R)<|.t<|.d R
theorem rG{d1 r}(h:Kf d1=some r):AY prog 6 [.agg [qb d1.Nodes]] (.tup [qh r.1,rI r.2]):=by
 unfold Kf at h
 refine mF func6 ntmps6 R λj=>aU<|sS R (BD (cs:=[qb d1.Nodes]) 1 R iL R R)<|mA R<|AG R<|aT λc2=>aU<|xC CG R<|AE h λe1 a7 h1=>cL (Wx<|a7) R<|AG R<|AK R<|xU R<|aZ<|cI R h1 (λh2=>?_) λh2=>?_
 .exact AK R<|mA R<|AG R<|Zj<|EI (P:=prog) (λ(r:(List Ae) × Int)=>qh r.1) (λ(r:(List Ae) × Int)=>rI r.2) h2 iL (.t<|.one<|.nil)<|.t<|.d R
 refine Zc<|c2 _<|aT λc6=>aR<|sS R (BT (cs:=[cZ]) 5 R pX R R) ?_
 refine AN.weak (Zn (Zn (T3 5 0 3050 60 3 (by decide) R R<|by decide)<|iA 3050 1 3 1 R R R)<|by exact AZ.cv (e':=[(0,.agg [qb d1.Nodes]),(1,pT 1 j),(2,cZ),(3,rI 0),(4,rI e1),(5,pT 5<|j+1),(14,.agg [qb d1.Nodes]),(15,rI e1),(16,rI e1),(17,rB<|(!(e1=0)))]) (h':=[bX 1 j 24 [qb d1.Nodes],bX 5 (j+1) 30 [.own 3050<|j+2],(3050,some<|.rr (j+2) 60 3 1 3 1 none<|([]:List Ae).map Ae.row)]) ⟨jL,jL,jL,jL,jL,jL,jL,jL,jL,jL,Za⟩ ⟨.inl R,.inl R,.inl R,Za⟩ nL) ?_
 refine aZ<|c6 _<|aU<|sS R (QA (RV.int .i64) 19 R)<|sS R (BT (cs:=[.cst<|.map none]) 6 R tn R R)<|Zk R R (BF (ds:=[.mref 19<|j+3]) R na iL R iL R R R R)<|Ar λc8=>aT λc9=>aG [1,5,6] [1,5,6,19,3050] ?_
 refine aR<|xC CG R<|AE h2 λw1 a8 h3=>?_
 refine ZB [21] (hc:=[]) (bs:=[.agg [qb d1.Nodes]]) (caps:=[]) R R R R iL R ⟨.inl ⟨iL,R⟩,Za⟩ Za (by decide) (cG a8) ?_
 intro i1 M
 refine Bi [1,5,6,20,21] [1,5,6,19,21,3050] ?_
 refine aZ<|c9 _<|Zg<|AW.weak (s':=⟨[(1,pT 1 j),(5,pT 5<|j+1),(6,pT 6<|j+4),(20,.agg [qb d1.Nodes]),(21,.fn 45 [pT 21<|i1 0])],[bX 1 j 24 [qb d1.Nodes],bX 5 (j+1) 30 [.own 3050<|j+2],bX 6 (j+4) 80 [.mref 19<|j+3],(19,some<|.md (j+3)<|Ap (RV.int .i64) ([]:List (Int × Int))),bX 21 (i1 0) 24 [qb w1.Nodes],(3050,some<|.rr (j+2) 60 3 1 3 1 none<|([]:List Ae).map Ae.row)],M,88⟩) wk<|FD h3 λa2 m4 aa ab=>?_
 refine AW.rng2 (it:=λA=>GO A [] w1) (L:=[21]) (hB:=[bX 1001 (i1 0) 24 [qb w1.Nodes]]) (caps:=[pT 1001<|i1 0]) 0 (λ(a:(List Ae) × (List<|Int × Int)) q=>[bX 1 j 24 [qb d1.Nodes],bX 5 (j+1) 30 [.own 3050<|q 0],bX 6 (j+4) 80 [.mref 19<|j+3],(19,some<|.md (j+3)<|Ap (RV.int .i64) a.2),(3050,some<|.rr (q 0) 60 3 1 3 1 none<|a.1.map Ae.row)]) (λq=>(M+1)+(q 1)) (AI [(j+2),0]) aa R R (by exact⟨R,R,R,Za⟩) R (by decide) R (by exact⟨.inr R,.inr R,.inr R,.inr R,.inr R,Za⟩) R (λ_ _=>R) nL (λi=>xD (ye _)<|WAH _ _) R R ⟨_,func45,R,R⟩ (λW ys hP hi=>⟨_,ZT hi ⟨hP,R⟩,λrr h' ⟨i,e1,e2⟩=>by rw[e2];rfl⟩) ?_ ?_
 .intro V X Z b3 b4 a0 l b1 ac q h4
  obtain⟨m,m2⟩:=a0
  have h5:Ij d1 m m2 l b1=some ac:=h4;unfold Ij at h5
  refine aG [1,5,6,20,22,23] [0,1,5,6,19,3050] ?_
  refine aR<|mA R<|Zh<|hZ R<|Xd<|Zg<|aT λad=>AE h5 λr1 ae h6=>AE h6 λF af h7=>?_
  refine GZ 8 [pO 24<|pT 1 j,pO 25<|qb d1.Nodes,pO 26<|.agg [qb d1.Nodes],pO 27<|rI l,pO 28<|rI r1,pO 29<|.rop (Ad.row F) 0,pO 30<|.agg<|A8 F,⟨some 8,(λC=>pT 8<|C 7),some (8,(λC=>some<|.box (C 7) 44 E7)),[7]⟩] BP (by kernel_rfl) (by exact⟨zN,zN,zN,zN,zN,zN,zN,zS 7,Za⟩) R (by exact⟨oB [(1,pT 1 j)] (FN j<|qb d1.Nodes)<|fB R CZ (.inl R) (λ_=>R) R,oB [(24,pT 1 j)] (FN j<|qb d1.Nodes)<|Ab (a:=qb d1.Nodes) R Cf (.inl R) R R,oB [(1,pT 1 j)] (FN j<|qb d1.Nodes)<|EW R CG (.inl R) R R,oB [(7,rI l)] []<|AM R<|.inl R,oD (λ_=>[(26,.agg [qb d1.Nodes]),(27,rI l)]) (λ_=>[]) λC e h' n=>Db (r:=rI r1) (caps:=[]) (bs:=[.agg [qb d1.Nodes],rI l]) R (.inl R) R ⟨⟨_,(.inl R),.g (cs:=[.sl<|d1.Nodes.map Ad.row]) R R⟩,⟨_,(.inl R),.d R⟩,Za⟩ (λ_=>VB<|ae) R,oB [(25,qb d1.Nodes),(28,rI r1)] []<|BN R B7.slice (.inl R) (.inl R) (λ_=>R) λ_=>af,oB [(29,.rop (Ad.row F) 0)] []<|EB (cs:=(A8 F)) R D8 (.inl R) R R,oM (λ_=>[]) (λ_=>[]) R λC e h' n=>BT (cs:=E7) 8 R Ia R R,Za⟩) λC J=>?_
  refine Bi [1,5,6,7,8,20,22,23,24,25,26,27,28,29,30] [0,1,5,6,8,19,3050] ?_
  refine Zk R R (BF (ds:=(A8 F)) R HV iL R iL R R R R)<|aZ<|ad _<|aT λag=>aT λah=>aG [5,6,7,8] [0,1,5,6,8,19,3050] ?_
  refine aR<|lF CH AJ R R<|xU R<|aZ<|ah _<|cI R h7 (λh8=>?_) λh8=>?_
  .exact Zm<|⟨_,(show AZ _ ⟨[],(U1 (.lp M V 88 [22,23] X Z .busy none) j (qb d1.Nodes) (j+1) (q 0) (j+4) (j+3) ((Ap (RV.int .i64) m2)) m),J,88⟩ from wk),Qs h8 (AI [(q 0),J]) R<|zr _ _⟩
  refine Zc<|ag _<|aU<|lF KE Cq R R<|AE h8 λs1 ai h9=>cL (Rf<|ai) R<|AG R<|AK R<|FD h9 λw r3 aj ak=>cL (Xo<|aj) R<|mM R<|xX R<|xX R<|mA R<|AG R<|aT λal=>aT λan=>aG [5,6,7,8,9,10,11] [0,1,5,6,8,19,3050] ?_
  refine aR<|sQ R (Ab (a:=.mref 19<|j+3) R UZ iL R R)<|mM R<|sQ R (MI (rd:=(RV.int .i64)) true (.int .i64 0) 0 R underlying80 underlying3 (H2 kJ) (λ_ _=>.int _ _) (.inl R) (.inl R) R)<|mM R<|xX R<|xX R<|mA R<|AG R<|an _<|AK R<|mM R<|vM R<|vQ R (iI R fD<|iR R)<|xN R<|mM R<|vM R<|AE ak λr4 ao aq=>vL (λhg=>UC<|Af ao hg) R<|vM R<|vQ R (EM R (iR R)<|iR R)<|xN R<|aZ<|cI R aq (λa1=>?_) λa1=>?_
  .refine aT λar=>aG [5,6,7,12] [0,1,5,6,19,3050] ?_
   refine aR<|sQ R (Ab (a:=.mref 19<|j+3) R UZ iL R R)<|mM R<|mM R<|Zk R R (Lc (rd:=(RV.int .i64)) (a:=((AR m2 w).getD 0)) (.inl rfl) underlying80 underlying3 (.inl rfl) (.inl rfl) (.inl rfl) R)<|aZ<|ar _<|aT λau=>AE a1 λT I av=>?_
   refine AW.weak (Zn (Qu (f:=Ae.row) (f2:=(Ai .i64)) 3050 23050 ((AR m2 w).getD 0) R R R I R)<|by exact AZ.cv (e':=[(5,pT 5<|j+1),(6,pT 6<|j+4),(7,rI l),(12,rI<|((AR m2 w).getD 0)),(59,.mref 19<|j+3),(60,rI l),(61,rI<|((AR m2 w).getD 0))]) (h':=[(0,some<|.lp M V 88 [22,23] X Z .busy none),bX 1 j 24 [qb d1.Nodes],bX 5 (j+1) 30 [.own 3050<|q 0],bX 6 (j+4) 80 [.mref 19<|j+3],(19,some<|.md (j+3)<|Ap (RV.int .i64)<|Am m2 l<|(AR m2 w).getD 0),(3050,some<|.rr (q 0) 60 3 1 3 1 (some (((AR m2 w).getD 0).toNat,23050,J))<|m.map Ae.row),aX 23050 J 3 1<|T.Replies.map<|Ai .i64]) ⟨jL,jL,jL,jL,jL,jL,jL,Za⟩ ⟨.inl R,.inl R,.inl R,.inl R,.inl R,.inl R,.inl R,Za⟩ nL) ?_
   refine AE av λl1 aw ax=>?_
   refine GZ 10 [pO 62<|.own 3050<|q 0,pO 63<|rI<|((AR m2 w).getD 0),pO 64<|.own 3050<|q 0,pO 65<|rI<|((AR m2 w).getD 0),pO 66<|.ptr 3050 (q 0) ((AR m2 w).getD 0).toNat 0,pO 67<|.ptr 3050 (q 0) ((AR m2 w).getD 0).toNat 1,pO 68<|.own 23050 J,pO 69<|rI l,⟨some 70,(λE=>.own 70<|E 8),some (70,(λE=>some<|.arr (E 8) 3 1<|[l].map<|Ai .i64)),[8]⟩,⟨some 71,(λE=>.own 23050<|E 9),some (23050,(λE=>some<|.arr (E 9) 3 1<|l1.map<|Ai .i64)),[9]⟩] BP (by kernel_rfl) (by exact⟨zN,zN,zN,zN,zN,zN,zN,zN,zS 8,zS 9,Za⟩) R (by exact⟨oB [(5,pT 5<|j+1)] [bX 5 (j+1) 30 [.own 3050<|q 0]]<|Ab (a:=.own 3050<|q 0) R Ny (.inl R) R R,oB [(12,rI<|((AR m2 w).getD 0))] []<|AM R<|.inl R,oB [(5,pT 5<|j+1)] [bX 5 (j+1) 30 [.own 3050<|q 0]]<|Ab (a:=.own 3050<|q 0) R Ny (.inl R) R R,oB [(12,rI<|((AR m2 w).getD 0))] []<|AM R<|.inl R,oB [(64,.own 3050<|q 0),(65,rI<|((AR m2 w).getD 0))] (VU (q 0) (((AR m2 w).getD 0).toNat) J m)<|H9 R De.slice (.inl R) R (.inl R) λ_=>I,oB [(66,.ptr 3050 (q 0) ((AR m2 w).getD 0).toNat 0)] (VU (q 0) (((AR m2 w).getD 0).toNat) J m)<|CO (ob:=.rr _ _ _ _ _ _ _ _) R Js (.inl R) (λ_=>R) R,oB [(67,.ptr 3050 (q 0) ((AR m2 w).getD 0).toNat 1)] (VU (q 0) (((AR m2 w).getD 0).toNat) J m)<|OY R Ml (.inl R) R λ_=>I,oB [(7,rI l)] []<|AM R<|.inl R,oM (λ_=>[(69,rI l)]) (λ_=>[]) R λE e h' n=>CA 70 R Bo (f:=(Ai .i64)) (l:=([l]:List Int)) ⟨R,⟨_,(.inl R),R⟩,Za⟩ R (λ_=>R) R,oM (λE=>[(68,.own 23050 J),(70,.own 70<|E 8)]) (λE=>[aX 70 (E 8) 3 1<|[l].map<|Ai .i64,aX 23050 J 3 1<|T.Replies.map<|Ai .i64]) R λE e h' n=>DN R Bo (.inl R) R (.inr<|.inl ⟨_,_,(.inl R),R⟩) aw,Za⟩) λE n3=>?_
   refine Bi [5,6,7,12,59,60,61,62,63,64,65,66,67,69,70,71] [0,1,5,6,19,70,3050,23050] ?_
   refine sQ R (H9 R De.slice iL R iL λ_=>I)<|sQ R (CO (ob:=.rr _ _ _ _ _ _ _ _) R Js iL fR R)<|Zk R R (cJ R gJ iL R I iL R) ?_
   refine AN.weak (Zn (gz (f:=Ae.row) (f2:=(Ai .i64)) (v:=(Ae.mk T.Remark l1 T.Done)) 3050 23050 ((AR m2 w).getD 0) R R R I R)<|by exact AZ.cv (e':=(qM (j+1) (j+4) l (((AR m2 w).getD 0)) (j+3) (q 0) (((AR m2 w).getD 0).toNat)<|E 8)) (h':=[(0,some<|.lp M V 88 [22,23] X Z .busy none),bX 1 j 24 [qb d1.Nodes],bX 5 (j+1) 30 [.own 3050<|q 0],bX 6 (j+4) 80 [.mref 19<|j+3],(19,some<|.md (j+3)<|Ap (RV.int .i64)<|Am m2 l<|(AR m2 w).getD 0),aX 70 (E 8) 3 1<|[l].map<|Ai .i64,(3050,some<|.rr (q 0) 60 3 1 3 1 none<|(m.set ((AR m2 w).getD 0).toNat<|Ae.mk T.Remark l1 T.Done).map Ae.row)]) ⟨jL,jL,jL,jL,jL,jL,jL,jL,jL,jL,jL,jL,jL,jL,jL,jL,jL,Za⟩ ⟨.inl R,.inl R,.inl R,.inl R,.inl R,.inl R,.inl R,Za⟩ nL) ?_
   exact aZ<|au _<|Zm<|⟨_,(show AZ _ ⟨[],(U1 (.lp M V 88 [22,23] X Z .busy none) j (qb d1.Nodes) (j+1) (q 0) (j+4) (j+3) ((Ap (RV.int .i64)<|Am m2 l<|(AR m2 w).getD 0))<|m.set ((AR m2 w).getD 0).toNat<|Ae.mk T.Remark l1 T.Done),n3,88⟩ from wk),Qs ax (AI [(q 0),n3]) R<|zr _ _⟩
  refine Zc<|al _<|aT λay=>aG [5,6,7,8] [0,1,5,6,8,19,3050] ?_
  refine aR<|sQ R (Ab (a:=.mref 19<|j+3) R UZ iL R R)<|mM R<|sQ R (Ab (a:=.own 3050<|q 0) R Ny iL R R)<|sQ R (UI R De.slice iL R)<|Zk R R (Lc (rd:=(RV.int .i64)) (a:=(m.length:Int)) (.inl rfl) underlying80 underlying3 (.inl rfl) (.inl rfl) (.inl rfl) R)<|aZ<|ay _<|AE a1 λB az b0=>?_
  refine GZ 8 [pO 78<|.own 3050<|q 0,pO 79<|rI l,pO 80<|.ptr 8 (C 7) 0 2,pO 81<|qa F.Attrs,pO 82<|rS B,pO 83<|rB<|(decide<|B=[111,110]),pO 84<|.agg [rI l,cZ,rB<|(decide<|B=[111,110])],⟨some 85,(λU=>.own 85<|U 7),some (85,(λU=>some<|.rr (U 7) 60 3 1 3 1 none<|[(Ae.mk l []<|decide<|B=[111,110])].map Ae.row)),[7]⟩] BP (by kernel_rfl) (by exact⟨zN,zN,zN,zN,zN,zN,zN,zS 7,Za⟩) R (by exact⟨oB [(5,pT 5<|j+1)] [bX 5 (j+1) 30 [.own 3050<|q 0]]<|Ab (a:=.own 3050<|q 0) R Ny (.inl R) R R,oB [(7,rI l)] []<|AM R<|.inl R,oB [(8,pT 8<|C 7)] [bX 8 (C 7) 44<|A8 F]<|fB R KE (.inl R) (λ_=>R) R,oB [(80,.ptr 8 (C 7) 0 2)] [bX 8 (C 7) 44<|A8 F]<|Ab (a:=qa F.Attrs) R Cq (.inl R) R R,oD (λ_=>[(81,qa F.Attrs)]) (λ_=>[]) λU e h' n=>Db (r:=rS B) (caps:=[]) (bs:=[qa F.Attrs,.r<|.str [100,111,110,101]]) R (.inl R) R ⟨⟨_,(.inl R),.d R⟩,⟨_,(.inl R),.d R⟩,Za⟩ (λ_=>Rf<|az) R,oB [(82,rS B)] []<|EM R (.inl R)<|.inl R,oB [(79,rI l),(83,rB<|(decide<|B=[111,110]))] []<|Ch R fU (q:=[(0,_),(2,_)]) (by exact⟨R,R,R,(.inl R),R,R,R,(.inl R),Za⟩) (cs:=[rI l,cZ,rB<|(decide<|B=[111,110])])<|by rfl,oM (λ_=>[(84,.agg [rI l,cZ,rB<|(decide<|B=[111,110])])]) (λ_=>[]) R λU e h' n=>Z9 (e2:=3) (sz2:=1) (col:=1) (f:=Ae.row) (v:=(Ae.mk l []<|decide<|B=[111,110])) 85 R De R (.inl R) R R R R R R,Za⟩) λU O=>?_
  refine Bi [5,6,7,8,74,75,76,77,78,79,80,81,82,83,84,85] [0,1,5,6,8,19,85,3050] ?_
  refine AN.weak (Zn (Qu (f:=Ae.row) (f2:=(Ai .i64)) 85 20085 (0:Int) R R R R R)<|by exact AZ.cv (e':=[(5,pT 5<|j+1),(6,pT 6<|j+4),(7,rI l),(8,pT 8<|C 7),(74,.mref 19<|j+3),(75,rI l),(76,.own 3050<|q 0),(77,rL m),(78,.own 3050<|q 0),(79,rI l),(80,.ptr 8 (C 7) 0 2),(81,qa F.Attrs),(82,rS B),(83,rB<|(decide<|B=[111,110])),(84,.agg [rI l,cZ,rB<|(decide<|B=[111,110])]),(85,.own 85<|U 7)]) (h':=[(0,some<|.lp M V 88 [22,23] X Z .busy none),bX 1 j 24 [qb d1.Nodes],bX 5 (j+1) 30 [.own 3050<|q 0],bX 6 (j+4) 80 [.mref 19<|j+3],bX 8 (C 7) 44<|A8 F,(19,some<|.md (j+3)<|Ap (RV.int .i64)<|Am m2 l (m.length:Int)),(85,some<|.rr (U 7) 60 3 1 3 1 (some ((0:Int).toNat,20085,O))<|[(Ae.mk l []<|decide<|B=[111,110])].map Ae.row),(3050,some<|.rr (q 0) 60 3 1 3 1 none<|m.map Ae.row),aX 20085 O 3 1<|((Ae.mk l []<|decide<|B=[111,110]).Replies).map<|Ai .i64]) ⟨jL,jL,jL,jL,jL,jL,jL,jL,jL,jL,jL,jL,jL,jL,jL,jL,Za⟩ ⟨.inl R,.inl R,.inl R,.inl R,.inl R,.inl R,.inl R,.inl R,.inl R,Za⟩ nL) ?_
  refine AE b0 λl2 a6 b2=>sS R (gV R De iL R iL R a6) ?_
  refine AN.weak (Zn (T4 (f:=Ae.row) (f2:=(Ai .i64)) 3050 20085 (m.length:Int) R R R (ci a6) R)<|by exact AZ.cv (e':=[(5,pT 5<|j+1),(6,pT 6<|j+4),(7,rI l),(8,pT 8<|C 7),(74,.mref 19<|j+3),(75,rI l),(77,rL m),(79,rI l),(80,.ptr 8 (C 7) 0 2),(81,qa F.Attrs),(82,rS B),(83,rB<|(decide<|B=[111,110])),(84,.agg [rI l,cZ,rB<|(decide<|B=[111,110])]),(86,.own 3050<|O+1)]) (h':=[(0,some<|.lp M V 88 [22,23] X Z .busy none),bX 1 j 24 [qb d1.Nodes],bX 5 (j+1) 30 [.own 3050<|q 0],bX 6 (j+4) 80 [.mref 19<|j+3],bX 8 (C 7) 44<|A8 F,(19,some<|.md (j+3)<|Ap (RV.int .i64)<|Am m2 l (m.length:Int)),(3050,some<|.rr (O+1) 60 3 1 3 1 none<|l2.map Ae.row)]) ⟨jL,jL,jL,jL,jL,jL,jL,jL,jL,jL,jL,jL,jL,jL,Za⟩ ⟨.inl R,.inl R,.inl R,.inl R,.inl R,.inl R,.inl R,Za⟩ nL) ?_
  exact Zk R R (BF (ds:=[.own 3050<|O+1]) R jc iL R iL R R R R)<|Zh<|⟨_,(show AZ _ ⟨[],(U1 (.lp M V 88 [22,23] X Z .busy none) j (qb d1.Nodes) (j+1) (O+1) (j+4) (j+3) ((Ap (RV.int .i64)<|Am m2 l (m.length:Int))) l2),(O+2),88⟩ from wk),Qs b2 (AI [(O+1),(O+2)]) R<|zr _ _⟩
 intro q
 refine c8 _<|aU<|sQ R (Ab (a:=.own 3050<|q 0) R Ny iL R R)<|mA R<|AG R ?_
 refine AW.weak (Zn (wc 2 3050 R R)<|by exact AZ.cv (e':=[(1,pT 1 j),(2,qh a2),(3,rI 0),(6,pT 6<|j+4),(20,.agg [qb d1.Nodes])]) (h':=[bX 1 j 24 [qb d1.Nodes],bX 6 (j+4) 80 [.mref 19<|j+3],(19,some<|.md (j+3)<|Ap (RV.int .i64) m4)]) ⟨jL,jL,jL,jL,jL,Za⟩ ⟨.inl R,.inl R,.inl R,Za⟩ nL) ?_
 exact Zj<|EI (P:=prog) (λ(r:(List Ae) × Int)=>qh r.1) (λ(r:(List Ae) × Int)=>rI r.2) ab iL (.t<|.d R)<|.t<|.d R
theorem Ds{j l a r}(h:DB j l a=some r):AY prog 55 [rI j,rI l,rI a] (rB r):=by
 unfold DB at h
 exact mF func55 ntmps55 R λm=>aU<|AG R<|AK R<|mM R<|sQ R (DE R iL iL)<|mM R<|vM R<|vM R<|vQ R (FA R (iR R)<|iR R)<|xN R<|AG R<|Zj<|yB h R
theorem eE{l r}(h:ME l=some r):AY prog 106 [rS l] (rB r):=by
 unfold ME at h
 refine mF func106 ntmps106 R λX=>aU<|AG R<|aS λZ c2 A=>AK R<|sQ R (Df R underlying9 iL)<|mM R<|aZ<|Zg<|BU h λo1 m B C=>?_
 have J1:∀(T:Unit) (U:NN),o1=.nrm T->Z ⟨[(0,rS l)],[],(U 0),59⟩:=by
  intro T U e
  have h1:=B _ e
  exact c2 _<|AK R<|sQ R (Df R underlying9 iL)<|sQ R (DE R iL iL)<|mM R<|vM R<|vQ R (Df R underlying9<|iR R)<|vQ R (FA R (iR R) iL)<|xN R<|AG R<|Zj<|yB h1 R
 refine Zv (λ(E:Int) w=>⟨[(0,rS l),(6,rL l),(7,rI E)],[],(w 0),59⟩) (AI [X]) m wk ?_
 intro E w v1 F q
 have V:NI l E=some v1:=F;unfold NI at V
 refine aU<|xS R<|Ar λc6=>cI R V (λI=>?_) λI=>?_
 .refine Zc<|c6 _<|aT λc7=>Zg<|AK R<|AG R<|AK R<|mM R<|AE I λa0 j h4=>sQ R (Ce R underlying9 iL iL λ_=>j)<|sQ R (DE R iL iL)<|mM R<|vM R<|vM R<|vQ R (Ce R underlying9 (iR R) (iR R) λ_=>j)<|vQ R (FA R (iR R) iL)<|xN R<|AG R<|aT λJ=>Ah R<|sQ R (BC R iL)<|mM R<|vM R<|vQ R (BB R (iR R) iL)<|vQ R (AM R<|iR R)<|wQ R (AM R iL)<|wQ R (AM R iL)<|wQ R (Ce R underlying9 (iR R) (iR R) λ_=>j)<|wQ R (Cm R (iR R) iL)<|wQ R (AM R<|iR R)<|wQ R (AM R iL)<|wQ R (AM R iL)<|wQ R (Ce R underlying9 (iR R) (iR R) λ_=>j)<|wQ R (Cm R (iR R) iL)<|wQ R (BZ R (iR R)<|iR R)<|wQ R (AM R<|iR R)<|wQ R (AM R iL)<|wQ R (AM R iL)<|wQ R (Ce R underlying9 (iR R) (iR R) λ_=>j)<|wQ R (B6 R (iR R) iL)<|wQ R (AM R<|iR R)<|wQ R (AM R iL)<|wQ R (AM R iL)<|wQ R (Ce R underlying9 (iR R) (iR R) λ_=>j)<|wQ R (Bd R (iR R) iL)<|wQ R (CS R (iR R)<|iR R)<|wQ R (BZ R (iR R)<|iR R)<|vQ R (CS R (iR R)<|iR R)<|xN R<|aZ<|J _<|cI R h4 (λM=>?_) λM=>?_
  .exact zB (C _<|xH q M) R id
  refine Zc<|c7 _<|aF [0,6,7] ?_
  exact aR<|AE M λx4 O h6=>xA R O<|mM R<|Zh<|Zr h6 (AI [(w 0)]) wk
 exact Zm<|A _ _ wk<|J1 _ (AI [(w 0)])<|xH q I
theorem YJ{l r}(h:Nd l=some r):AY prog 107 [rS l] (rB r):=by
 unfold Nd at h
 refine mF func107 ntmps107 R λV=>aU<|AG R<|aS λX Z A=>AK R<|sQ R (Df R underlying9 iL)<|mM R<|aZ<|Zg<|BU h λo1 m B C=>?_
 have J1:∀(O:Unit) (T:NN),o1=.nrm O->X ⟨[(0,rS l)],[],(T 0),28⟩:=by
  intro O T e
  have h1:=B _ e
  exact Z _<|AK R<|sQ R (Df R underlying9 iL)<|sQ R (DE R iL iL)<|mM R<|vM R<|vQ R (Df R underlying9<|iR R)<|vQ R (FA R (iR R) iL)<|xN R<|AG R<|Zj<|yB h1 R
 refine Zv (λ(E:Int) w=>⟨[(0,rS l),(5,rL l),(6,rI E)],[],(w 0),28⟩) (AI [V]) m wk ?_
 intro E w v1 F q
 have U:OZ l E=some v1:=F;unfold OZ at U
 refine aU<|xS R<|Ar λc6=>cI R U (λI=>?_) λI=>?_
 .refine Zc<|c6 _<|aT λc7=>Zg<|AK R<|AG R<|AK R<|mM R<|AE I λa0 j h4=>sQ R (Ce R underlying9 iL iL λ_=>j)<|xS R<|mM R<|vM R<|vM R<|vQ R (Ce R underlying9 (iR R) (iR R) λ_=>j)<|vQ R (Bd R (iR R) iL)<|xO R<|aZ<|cI R h4 (λJ=>?_) λJ=>?_
  .exact zB (C _<|xH q J) R id
  refine Zc<|c7 _<|aF [0,5,6] ?_
  exact aR<|AE J λx4 M h6=>xA R M<|mM R<|Zh<|Zr h6 (AI [(w 0)]) wk
 exact Zm<|A _ _ wk<|J1 _ (AI [(w 0)])<|xH q I
theorem UA{w c r}(h:LH w c=some r):AY prog 56 [qa w,rB c] (rI r):=by
 unfold LH at h
 refine mF func56 ntmps56 R λn0=>aU<|AG R<|aS λK2 c2 E=>AK R<|xL BK R<|mM R<|aZ<|Zg<|BU h λo1 A F m=>?_
 have J1:∀(u2:Unit) (i5:NN),o1=.nrm u2->K2 ⟨[],[],(i5 0),54⟩:=by
  intro u2 i5 e
  have h1:=F _ e
  exact c2 _<|zI h1 R id
 refine Zv (λ(I:Int) B=>⟨[(0,qa w),(1,rB c),(7,rL w),(8,rI I)],[],(B 0),54⟩) (AI [n0]) A wk ?_
 intro I B v1 J j
 have h2:M7 w c I=some v1:=J;unfold M7 at h2
 refine aU<|xS R<|Ar λc6=>cI R h2 (λM=>?_) λM=>?_
 .refine Zc<|c6 _<|aT λc7=>Zg<|AK R<|AG R<|aT λc9=>AK R<|mM R<|AE M λC l h4=>xI BK R l<|sQ R (BL R Ep iL)<|xV (.str C.Name) BO R<|AE h4 λr1 O h5=>cL (eE<|O) R<|sQ R (BC R iL)<|aZ<|cI R h5 (λT=>?_) λT=>?_
  .exact zI (m _<|xH j T) R id
  refine Zc<|c9 _<|aT λU=>aT λV=>aF [0,1,5,7,8] ?_
  refine Ah R<|mM R<|xI BK R l<|sQ R (BL R Jd iL)<|xV (.str C.Value) BO R<|AE T λr2 X h7=>cL (YJ<|X) R<|sQ R (BC R iL)<|mM R<|vM R<|vM R<|vQ R (BN R BK.slice (iR R) (iR R) (λ_=>R) λ_=>l)<|vQ R (BL R Jd<|iR R)<|vQ R (Bm (d:=.str C.Value) R BO (iR R) R)<|vQ R (D7 R (iR R) iL)<|vQ R (AM R<|iR R)<|wQ R (AM R iL)<|wQ R (BC R<|iR R)<|vQ R (CS R (iR R)<|iR R)<|xN R<|aZ<|V _<|cI R h7 (λZ=>?_) λZ=>?_
  .exact zI (m _<|xH j Z) R id
  refine Zc<|U _<|aT λa0=>aF [0,1,5,7,8] ?_
  refine Zz BP (by kernel_rfl) ?_
  refine qP R (AM R iL)<|qP R (Bd R iL iL)<|qP R (AM R iL)<|qO R (AM R iL)<|qO R (AM R iL)<|AE Z λx5 a1 h9=>qO R (CJ R (iR R) iL<|Af a1)<|AE h9 λx6 a2 a6=>qO R (BN R BK.slice (iR R) (iR R) (λ_=>R)<|Af a2)<|qO R (BL R Ep<|iR R)<|qO R (Bm (d:=.str x6.Name) R BO (iR R) R)<|qO R (AM R iL)<|qO R (AM R iL)<|qO R (BN R BK.slice (iR R) (iR R) (λ_=>R) λ_=>l)<|qO R (BL R Ep<|iR R)<|qO R (Bm (d:=.str C.Name) R BO (iR R) R)<|qO R (U6 R (iR R)<|iR R)<|qP R (BZ R iL<|iR R)<|AQ.nil<|a0 _<|cI R a6 (λq=>?_) λq=>?_
  .exact zI (m _<|xH j q) R id
  exact Zc<|c7 _<|aR<|AE q λx7 a7 a8=>xA R a7<|mM R<|Zh<|Zr a8 (AI [(B 0)]) wk
 exact Zm<|E _ _ wk<|J1 _ (AI [(B 0)])<|xH j M
theorem T0{k r}(h:I9 k=some r):AY prog 10 [rI k] (rB r):=by
 unfold I9 at h
 exact mF func10 ntmps10 R λj=>aU<|AG R<|AK R<|xQ R<|mM R<|vM R<|vQ R (BB R (iR R) iL)<|xO R<|mM R<|vM R<|vQ R (BB R (iR R) iL)<|xO R<|mM R<|vM R<|vQ R (BB R (iR R) iL)<|xO R<|AG R<|Zj<|yB h R
theorem jm{k r}(h:R9 k=some r):AY prog 57 [rI k] (rB r):=by
 unfold R9 at h
 exact mF func57 ntmps57 R λj=>aU<|AG R<|AK R<|xQ R<|mM R<|vM R<|vQ R (BB R (iR R) iL)<|xO R<|AG R<|Zj<|yB h R
theorem tP{j r}(h:P0 j=some r):AY prog 58 (Vu j) (rB r):=by
 unfold P0 at h
 exact mF func58 ntmps58 R λl=>aU<|sS R (BD (cs:=(CY j)) 1 R iL R R)<|AG R<|aU<|lF HZ AJ R R<|xQ R<|mM R<|vF Hg AJ R R<|vQ R (BB R (iR R) iL)<|xN R<|mM R<|vF EU Ek R R<|vQ R (DA R CD.slice<|iR R)<|vQ R (BB R (iR R) iL)<|xN R<|mM R<|vF Eg E6 R R<|vQ R (DA R DW.slice<|iR R)<|vQ R (BB R (iR R) iL)<|xN R<|AG R<|Zj<|yB h R
theorem aY{k r}(h:PB k=some r):AY prog 59 [rI k] (rB r):=by
 unfold PB at h
 exact mF func59 ntmps59 R λj=>aU<|AG R<|AK R<|xQ R<|mM R<|vM R<|vQ R (BB R (iR R) iL)<|xO R<|AG R<|Zj<|yB h R
theorem mC{k r}(h:Td k=some r):AY prog 60 [rI k] (rB r):=by
 unfold Td at h
 exact mF func60 ntmps60 R λj=>aU<|AG R<|AK R<|xQ R<|mM R<|vM R<|vQ R (BB R (iR R) iL)<|xO R<|mM R<|vM R<|vQ R (BB R (iR R) iL)<|xO R<|AG R<|Zj<|yB h R
theorem fz{q r}(h:Mz q=some r):AY prog 155 [rI q] (rB r):=by
 unfold Mz at h
 exact mF func155 ntmps155 R λC=>aU<|AG R<|AK R<|xQ R<|mM R<|vM R<|vQ R (BB R (iR R) iL)<|xO R<|mM R<|vM R<|AE h λE j w=>vL (λhg=>Ds<|Af j hg) R<|xO R<|mM R<|vM R<|AE w λF l A=>vL (λhg=>Ds<|Af l hg) R<|xO R<|mM R<|vM R<|AE A λI m B=>vL (λhg=>Ds<|Af m hg) R<|xO R<|AG R<|Zj<|yB B R
theorem pf{j r}(h:Ot j=some r):AY prog 108 (Yd j) (rI r):=by
 unfold Ot at h
 refine mF func108 ntmps108 R λT=>aU<|sS R (BD (cs:=(Eh j)) 1 R iL R R)<|AG R<|aT λB=>aU<|lF Hu AJ R R<|xQ R<|mM R<|vF EP AJ R R<|vQ R (BB R (iR R) iL)<|xN R<|mM R<|vF Hu AJ R R<|vQ R (Cm R (iR R) iL)<|vQ R (AM R<|iR R)<|wQ R (fB R EP iL fR R)<|wQ R (Ab (a:=rI j.Ref) R AJ (iR R) R R)<|wQ R (Cm R (iR R) iL)<|vQ R (BZ R (iR R)<|iR R)<|xO R<|aZ<|cI R h (λl=>?_) λl=>?_
 .exact zI l R id
 refine Zc<|B _<|aT λC=>aT λE=>aG [1] [1] ?_
 refine aR<|lF Hu AJ R R<|xU R<|mM R<|vF Hu AJ R R<|AE l λU m F=>vL (λhg=>fz<|Af m hg) R<|vQ R (BC R<|iR R)<|xN R<|mM R<|vF EP AJ R R<|vQ R (Cm R (iR R) iL)<|vQ R (AM R<|iR R)<|wQ R (fB R EP iL fR R)<|wQ R (Ab (a:=rI j.Ref) R AJ (iR R) R R)<|AE F λI q J=>AN.stepW (.two R R R) R R (Db (r:=rB I) (caps:=[]) (bs:=[rI j.Ref,rI 1,rI 1073741824]) R iL R ⟨⟨_,(iR R),.d R⟩,⟨_,iL,.d R⟩,⟨_,iL,.d R⟩,Za⟩ (λhg=>Ds<|Af q hg) R)<|wQ R (BC R<|iR R)<|vQ R (BZ R (iR R)<|iR R)<|xO R<|aZ<|E _<|cI R J (λw=>?_) λw=>?_
 .exact zI w R id
 refine Zc<|C _<|aT λM=>aG [1] [1] ?_
 exact aR<|lF QS Cq R R<|AE w λV A O=>cL (UA<|A) R<|AG R<|M _<|Zj<|yI O R
theorem lR{m a r}(h:KL m a=some r):AY prog 61 [qe m,rB a] (rI r):=by
 unfold KL at h
 refine mF func61 ntmps61 R λn0=>aU<|AG R<|aS λK2 c2 C=>AK R<|xL CN R<|mM R<|aZ<|Zg<|BU h λo1 q E w=>?_
 have J1:∀(u2:Unit) (i5:NN),o1=.nrm u2->K2 ⟨[(0,qe m),(1,rB a)],[],(i5 0),47⟩:=by
  intro u2 i5 e
  have h1:=E _ e
  refine c2 _<|aT λc4=>AK R<|mM R<|vM R<|vQ R (DA R CN.slice<|iR R)<|vQ R (BB R (iR R) iL)<|vQ R (AM R<|iR R)<|wQ R (AM R iL)<|wQ R (AM R iL)<|wQ R (DA R CN.slice<|iR R)<|AE h1 λx4 F h2=>wQ R (CJ R (iR R) iL<|Af F)<|AE h2 λx5 I h3=>wQ R (BN R CN.slice (iR R) (iR R) (λ_=>R)<|Af I)<|wQ R (BL R Hu<|iR R)<|wQ R (Bm (d:=.int .i64 x5.Char) R AJ (iR R) R)<|wQ R (Cm R (iR R) iL)<|vQ R (CS R (iR R)<|iR R)<|xN R<|aZ<|cI R h3 (λJ=>?_) λJ=>?_
  .exact zI J R id
  exact Zc<|c4 _<|zI J R id
 refine Zv (λ(M:Int) B=>⟨[(0,qe m),(1,rB a),(8,rL m),(9,rI M)],[],(B 0),47⟩) (AI [n0]) q wk ?_
 intro M B v1 O j
 have h5:Kn m a M=some v1:=O;unfold Kn at h5
 refine aU<|xS R<|Ar λc9=>cI R h5 (λT=>?_) λT=>?_
 .refine Zc<|c9 _<|aT λU=>Zg<|AK R<|AG R<|aT λV=>AK R<|mM R<|AE T λx6 A h7=>xI CN R A<|xB ((Eh x6)) Kb R<|AE h7 λe1 X h8=>cL (pf<|X) R<|AG R<|AK R<|xU R<|aZ<|cI R h8 (λZ=>?_) λZ=>?_
  .refine aT λa0=>aF [6] ?_
   exact Ah R<|AG R<|a0 _<|Zj<|yI (w _<|xH j Z) R
  refine Zc<|V _<|aT λa1=>aF [0,1,5,8,9] ?_
  refine Ah R<|sQ R (BC R iL)<|mM R<|vM R<|vM R<|vQ R (BN R CN.slice (iR R) (iR R) (λ_=>R) λ_=>A)<|vQ R (BL R Hu<|iR R)<|vQ R (Bm (d:=.int .i64 x6.Char) R AJ (iR R) R)<|vQ R (Cm R (iR R) iL)<|xN R<|aZ<|a1 _<|cI R Z (λl=>?_) λl=>?_
  .exact zI (w _<|xH j l) R id
  exact Zc<|U _<|aR<|AE l λx7 a2 a6=>xA R a2<|mM R<|Zh<|Zr a6 (AI [(B 0)]) wk
 exact Zm<|C _ _ wk<|J1 _ (AI [(B 0)])<|xH j T
theorem p7{j r}(h:S9 j=some r):AY prog 199 [rS j] (rB r):=by
 unfold S9 at h
 exact wM qp R R R ⟨_,func199,R,R⟩ h
theorem tS{l r}(h:OH l=some r):AY prog 156 [rS l] (rB r):=by
 unfold OH at h
 refine mF func156 ntmps156 R λE=>aU<|AG R<|aT λc2=>AK R<|AE h λr1 F h1=>cL (p7<|F) R<|sQ R (BC R iL)<|aZ<|cI R h1 (λI=>?_) λI=>?_
 .exact zB I R id
 refine Zc<|c2 _<|aS λK5 c5 J=>AK R<|sS R (nZ 9 R underlying9 iL)<|aZ<|Zg<|BU I λo1 m M O=>?_
 have J1:∀(u2:Unit) (i5:NN),o1=.nrm u2->K5 ⟨[],[],(i5 0),21⟩:=by
  intro u2 i5 e
  have h3:=M _ e
  exact c5 _<|zB h3 R id
 refine Zv (λ(B:(Nat)) C=>⟨[(9,pT 9 E)],[(9,some<|.it E l B)],(C 0),21⟩) (AI [(E+1)]) m wk ?_
 intro B C v1 T q
 have U:GY l B=some v1:=T;unfold GY at U
 refine aT λc8=>AW.split (decide<|B<l.length) (λj=>?_) λj=>?_
 .have V:=D2 j U
  refine aR<|sS R (rp R iL R λ_=>j)<|xX R<|aZ<|c8 _<|aT λc9=>aC R (λw=>?_) λw=>by cases w
  refine Zc<|c9 _<|Zg<|aU<|xX R<|AG R<|AK R<|xQ R<|mM R<|vM R<|vQ R (D3 R underlying21 underlying3<|iR R)<|AE V λr2 X h6=>vL (λhg=>fz<|Af X hg) R<|vQ R (BC R<|iR R)<|xO R<|aZ<|cI R h6 (λZ=>?_) λZ=>?_
  .exact zB (O _<|xH q Z) R id
  exact Zc<|Zr Z (AI [(C 0)]) wk
 .have V:=Dw j U
  exact aR<|sS R (jp R iL R λ_=>j)<|xX R<|aZ<|c8 _<|aT λa0=>aC R (λA=>by cases A) λA=>Zm<|J _ _ wk<|J1 _ (AI [(C 0)])<|xH q V
theorem ol{j r}(h:O8 j=some r):AY prog 157 (gC j) (rB r):=by
 unfold O8 at h
 exact mF func157 ntmps157 R λl=>aU<|sS R (BD (cs:=(B2 j)) 1 R iL R R)<|AG R<|aU<|lF JO BO R R<|sQ R (EM R iL iL)<|mM R<|vF Ez AJ R R<|vQ R (BB R (iR R) iL)<|xN R<|mM R<|vF Hb Cq R R<|vQ R (DA R BK.slice<|iR R)<|vQ R (BB R (iR R) iL)<|xN R<|AG R<|Zj<|yB h R
theorem oK{C b c n r}(h:Pt C b c n=some r):AY prog 109 [qc C,rI b,rI c,rB n] (rI r):=by
 unfold Pt at h
 refine mF func109 ntmps109 R λn0=>aU<|AG R<|aS λK2 c2 U=>AK R<|xL CD R<|mM R<|aZ<|Zg<|BU h λo1 E V l=>?_
 have J1:∀(u2:Unit) (i5:NN),o1=.nrm u2->K2 ⟨[],[],(i5 0),93⟩:=by
  intro u2 i5 e
  have h1:=V _ e
  exact c2 _<|zI h1 R id
 refine Zv (λ(X:Int) T=>⟨[(0,qc C),(1,rI b),(2,rI c),(3,rB n),(13,rL C),(14,rI X)],[],(T 0),93⟩) (AI [n0]) E wk ?_
 intro X T v1 Z j
 have h2:Pp C b c n X=some v1:=Z;unfold Pp at h2
 refine aU<|xS R<|Ar λc6=>cI R h2 (λh3=>?_) λh3=>?_
 .refine Zc<|c6 _<|aT λc7=>Zg<|AK R<|AG R<|AK R<|mM R<|AE h3 λF a0 h4=>xI CD R a0<|xB ((B2 F)) FR R<|sS R (BT (cs:=Iz) 10 R IP R R)<|Zk R R (BF (ds:=(B2 F)) R Ih iL R iL R R R R)<|Ar λa1=>aT λa2=>aR<|lF FU AJ R R<|mM R<|AE h4 λx5 a6 h5=>sQ R (CJ R iL iL λ_=>a6)<|AE h5 λr1 a7 h6=>cL (Ds<|a7) R<|sQ R (BC R iL)<|mM R<|vF Ft AJ R R<|vM R<|AE h6 λx6 a8 h7=>vQ R (CJ R (iR R) iL<|Af a8)<|AE h7 λr2 aa h8=>vL (λhg=>Ds<|Af aa hg) R<|vQ R (BC R<|iR R)<|xO R<|mM R<|vF Ez AJ R R<|AE h8 λr3 ab h9=>vL (λhg=>Ds<|Af ab hg) R<|vQ R (BC R<|iR R)<|xO R<|aZ<|a2 _<|cI R h9 (λm=>?_) λm=>?_
  .exact zI (l _<|xH j m) R id
  refine Zc<|a1 _<|aT λac=>aT λad=>aG [0,1,2,3,9,10,13,14] [10] ?_
  refine aR<|lF JO BO R R<|AE m λr4 ae af=>cL (tS<|ae) R<|sQ R (BC R iL)<|aZ<|ad _<|cI R af (λq=>?_) λq=>?_
  .exact zI (l _<|xH j q) R id
  refine Zc<|ac _<|aT λag=>aU<|lF Hb Cq R R<|AE q λe1 ah ai=>cL (UA<|ah) R<|AG R<|AK R<|xU R<|aZ<|cI R ai (λw=>?_) λw=>?_
  .refine aT λaj=>aF [11] ?_
   exact Ah R<|AG R<|aj _<|Zj<|yI (l _<|xH j w) R
  refine Zc<|ag _<|aT λak=>aT λal=>aG [0,1,2,3,9,10,13,14] [10] ?_
  refine Ah R<|sQ R (BC R iL)<|mM R<|vQ R (EW R FR iL R R)<|AE w λr5 an ao=>vL (λhg=>ol<|Af an hg) R<|xN R<|aZ<|al _<|cI R ao (λA=>?_) λA=>?_
  .exact zI (l _<|xH j A) R id
  refine Zc<|ak _<|aT λaq=>?_
  refine Zz BP (by kernel_rfl) ?_
  refine qP R (AM R iL)<|qP R (Bd R iL iL)<|qP R (AM R iL)<|qO R (fB R FU iL fR R)<|qO R (Ab (a:=rI F.Row) R AJ (iR R) R R)<|qO R (AM R iL)<|qO R (AM R iL)<|AE A λx7 I ar=>qO R (CJ R (iR R) iL<|Af I)<|AE ar λx8 J au=>qO R (BN R CD.slice (iR R) (iR R) (λ_=>R)<|Af J)<|qO R (BL R FU<|iR R)<|qO R (Bm (d:=.int .i64 x8.Row) R AJ (iR R) R)<|qO R (B6 R (iR R)<|iR R)<|qO R (AM R<|iR R)<|qT R (fB R FU iL fR R)<|qT R (Ab (a:=rI F.Row) R AJ (iR R) R R)<|qT R (AM R iL)<|qT R (AM R iL)<|qT R (CJ R (iR R) iL λh=>Af I (yt.1 h).1)<|qT R (BN R CD.slice (iR R) (iR R) (λ_=>R) λh=>Af J (yt.1 h).1)<|qT R (BL R FU<|iR R)<|qT R (Bm (d:=.int .i64 x8.Row) R AJ (iR R) R)<|qT R (BB R (iR R)<|iR R)<|qT R (AM R<|iR R)<|qT R (fB R Ft iL fR R)<|qT R (Ab (a:=rI F.Col) R AJ (iR R) R R)<|qT R (AM R iL)<|qT R (AM R iL)<|AE au λx9 av aw=>qT R (CJ R (iR R) iL<|Af av)<|AE aw λax M ay=>qT R (BN R CD.slice (iR R) (iR R) (λ_=>R)<|Af M)<|qT R (BL R Ft<|iR R)<|qT R (Bm (d:=.int .i64 ax.Col) R AJ (iR R) R)<|qT R (FA R (iR R)<|iR R)<|qT R (BZ R (iR R)<|iR R)<|qO R (CS R (iR R)<|iR R)<|qP R (BZ R iL<|iR R)<|AQ.nil<|aq _<|cI R ay (λB=>?_) λB=>?_
  .exact zI (l _<|xH j B) R id
  refine Zc<|c7 _<|aF [0,1,2,3,13,14] ?_
  exact aR<|AE B λb0 O az=>xA R O<|mM R<|Zh<|Zr az (AI [((T 0)+1)]) wk
 exact Zm<|U _ _ wk<|J1 _ (AI [(T 0)])<|xH j h3
theorem qu{j a c r}(h:Nt j a c=some r):AY prog 110 [.agg<|BY j,rI a,rI c] (rB r):=by
 unfold Nt at h
 exact mF func110 ntmps110 R λZ=>aU<|sS R (BD (cs:=(BY j)) 3 R iL R R)<|AG R<|aT λF=>aR<|lF Cz AJ R R<|mM R<|AE h λx1 l I=>sQ R (CJ R iL iL λ_=>l)<|AE I λr2 m J=>cL (Ds<|m) R<|mM R<|vF DV AJ R R<|vM R<|AE J λx2 q M=>vQ R (CJ R (iR R) iL<|Af q)<|AE M λr3 w O=>vL (λhg=>Ds<|Af w hg) R<|xN R<|mM R<|vF Gz AJ R R<|vM R<|vF Cz AJ R R<|AE O λx3 A T=>vQ R (CJ R (iR R) (iR R)<|Af A)<|AE T λr4 B U=>vL (λhg=>Ds<|Af B hg) R<|xN R<|mM R<|vF Ge AJ R R<|vM R<|vF DV AJ R R<|AE U λx4 C V=>vQ R (CJ R (iR R) (iR R)<|Af C)<|AE V λr5 E X=>vL (λhg=>Ds<|Af E hg) R<|xN R<|AG R<|F _<|Zj<|yB X R
theorem oW{j l r}(h:PW j l=some r):AY prog 111 [.agg<|BY j,.agg<|BY l] (rB r):=by
 unfold PW at h
 refine mF func111 ntmps111 R λM=>aU<|sS R (BD (cs:=(BY j)) 2 R iL R R)<|sS R (BD (cs:=(BY l)) 3 R iL R R)<|AG R<|aT λB=>?_
 refine Zz BP (by kernel_rfl) ?_
 refine qP R (fB R Cz iL fR R)<|qP R (Ab (a:=rI j.Row) R AJ iL R R)<|qP R (fB R Cz iL fR R)<|qP R (Ab (a:=rI l.Row) R AJ iL R R)<|qP R (R5 R iL iL)<|qP R (fB R DV iL fR R)<|qP R (Ab (a:=rI j.Col) R AJ iL R R)<|qP R (fB R DV iL fR R)<|qP R (Ab (a:=rI l.Col) R AJ iL R R)<|qP R (R5 R iL iL)<|qP R (EL R iL)<|qP R (EL R iL)<|AQ.nil<|B _<|aT λC=>aG [2,3,5,6] [2,3] ?_
 exact Ah R<|lF Cz AJ R R<|lF Gz AJ R R<|AE h λO m E=>xA R m<|lF Cz AJ R R<|lF Gz AJ R R<|AE E λT q F=>xA R q<|sQ R (WI R iL iL)<|xS R<|mM R<|vM R<|vF DV AJ R R<|vF Ge AJ R R<|AE F λU w I=>vQ R (Jn R (iR R) (iR R)<|Af w)<|vF DV AJ R R<|vF Ge AJ R R<|AE I λV A J=>vQ R (Jn R (iR R) (iR R)<|Af A)<|vQ R (WI R (iR R)<|iR R)<|vQ R (B6 R (iR R)<|iR R)<|xN R<|AG R<|C _<|Zj<|yB J R
theorem qq{j r}(h:P3 j=some r):AY prog 62 (Vu j) (rI r):=by
 unfold P3 at h
 refine mF func62 ntmps62 R λA=>aU<|sS R (BD (cs:=(CY j)) 1 R iL R R)<|AG R<|aT λc2=>aU<|lF HZ AJ R R<|AE h λr1 aa h1=>cL (Ds<|aa) R<|sQ R (BC R iL)<|mM R<|vF Hg AJ R R<|AE h1 λr2 ab h2=>vL (λhg=>Ds<|Af ab hg) R<|vQ R (BC R<|iR R)<|xO R<|aZ<|cI R h2 (λh3=>?_) λh3=>?_
 .exact zI h3 R id
 refine Zc<|c2 _<|aT λc5=>aT λc6=>aG [1] [1] ?_
 refine aR<|lF EU Ek R R<|lF HZ AJ R R<|lF Hg AJ R R<|AE h3 λe1 ac h4=>cL (oK<|ac) R<|AG R<|c6 _<|AK R<|xU R<|aZ<|cI R h4 (λh5=>?_) λh5=>?_
 .refine aT λc8=>aF [3] ?_
  exact Ah R<|AG R<|c8 _<|Zj<|yI h5 R
 refine Zc<|c5 _<|aS λK9 c9 ad=>aT λae=>aG [1] [1] ?_
 refine aR<|lF Eg E6 R R<|xL DW R<|mM R<|aZ<|ae _<|Zg<|BU h5 λo1 U af w=>?_
 have J1:∀(u2:Unit) (i5:NN),o1=.nrm u2->K9 ⟨[],[],(i5 0),104⟩:=by
  intro u2 i5 e
  have h6:=af _ e
  exact c9 _<|zI h6 R id
 refine Zv (λ(B:Int) T=>⟨[(1,pT 1 A),(29,rL j.Merges),(30,rI B)],[bX 1 A 41<|CY j],(T 0),104⟩) (AI [(A+1)]) U wk ?_
 intro B T v1 ag q
 have h7:QH j B=some v1:=ag;unfold QH at h7
 refine aU<|xS R<|Ar λah=>cI R h7 (λh8=>?_) λh8=>?_
 .refine Zc<|ah _<|aS λai aj V=>Zg<|AK R<|AG R<|aU<|lF Eg E6 R R<|mM R<|AE h8 λm ak h9=>xI DW R ak<|xB ((BY m)) Dh R<|sS R (BT (cs:=F6) 5 R IW R R)<|Zk R R (BF (ds:=(BY m)) R Gu iL R iL R R R R)<|Ar λal=>aU<|xC Dh R<|lF HZ AJ R R<|lF Hg AJ R R<|AE h9 λr3 an ao=>cL (qu<|an) R<|sQ R (BC R iL)<|aZ<|cI R ao (λC=>?_) λC=>?_
  .exact zI (w _<|xH q C) R id
  refine Zc<|al _<|aT λaq=>aT λar=>aG [1,4,5,29,30] [1,5] ?_
  refine aR<|lF Gz AJ R R<|xQ R<|mM R<|vF Ge AJ R R<|vQ R (BB R (iR R) iL)<|xN R<|aZ<|ar _<|cI R C (λE=>?_) λE=>?_
  .exact zI (w _<|xH q E) R id
  refine Zc<|aq _<|aT λau=>aT λav=>?_
  refine Zz BP (by kernel_rfl) ?_
  refine qP R (AM R iL)<|qP R (Bd R iL iL)<|qP R (AM R iL)<|qO R (fB R Cz iL fR R)<|qO R (Ab (a:=rI m.Row) R AJ (iR R) R R)<|qO R (fB R Eg iL fR R)<|qO R (Ab (a:=qd j.Merges) R E6 (iR R) R R)<|qO R (AM R iL)<|AE E λx5 X aw=>qO R (CJ R (iR R) iL<|Af X)<|AE aw λx6 Z ax=>qO R (BN R DW.slice (iR R) (iR R) (λ_=>R)<|Af Z)<|qO R (BL R Cz<|iR R)<|qO R (Bm (d:=.int .i64 x6.Row) R AJ (iR R) R)<|qO R (B6 R (iR R)<|iR R)<|qO R (AM R<|iR R)<|qT R (fB R Cz iL fR R)<|qT R (Ab (a:=rI m.Row) R AJ (iR R) R R)<|qT R (fB R Eg iL fR R)<|qT R (Ab (a:=qd j.Merges) R E6 (iR R) R R)<|qT R (AM R iL)<|qT R (CJ R (iR R) iL λh=>Af X (yt.1 h).1)<|qT R (BN R DW.slice (iR R) (iR R) (λ_=>R) λh=>Af Z (yt.1 h).1)<|qT R (BL R Cz<|iR R)<|qT R (Bm (d:=.int .i64 x6.Row) R AJ (iR R) R)<|qT R (BB R (iR R)<|iR R)<|qT R (AM R<|iR R)<|qT R (fB R DV iL fR R)<|qT R (Ab (a:=rI m.Col) R AJ (iR R) R R)<|qT R (fB R Eg iL fR R)<|qT R (Ab (a:=qd j.Merges) R E6 (iR R) R R)<|qT R (AM R iL)<|AE ax λx7 ay az=>qT R (CJ R (iR R) iL<|Af ay)<|AE az λx8 b0 b1=>qT R (BN R DW.slice (iR R) (iR R) (λ_=>R)<|Af b0)<|qT R (BL R DV<|iR R)<|qT R (Bm (d:=.int .i64 x8.Col) R AJ (iR R) R)<|qT R (FA R (iR R)<|iR R)<|qT R (BZ R (iR R)<|iR R)<|qO R (CS R (iR R)<|iR R)<|qP R (BZ R iL<|iR R)<|AQ.nil<|av _<|cI R b1 (λF=>?_) λF=>?_
  .exact zI (w _<|xH q F) R id
  refine Zc<|au _<|aT λb2=>aG [1,4,5,29,30] [1,5] ?_
  refine Ah R<|mM R<|aZ<|b2 _<|Zg<|BU F λo2 a0 b3 b4=>?_
  have J2:∀(u4:Unit) (I:NN),o2=.nrm u4->ai ⟨[(1,pT 1 A),(29,rL j.Merges),(30,rI B)],[bX 1 A 41<|CY j],(I 0),104⟩:=by
   intro u4 I e
   have b5:=b3 _ e
   exact aj _<|aR<|AE b5 λbg a1 b6=>xA R a1<|mM R<|Zh<|Zr b6 (AI [(I 0)]) wk
  refine Zv (λ(J:Int) i8=>⟨[(1,pT 1 A),(5,pT 5<|T 0),(29,rL j.Merges),(30,rI B),(91,rI B),(92,rI J)],[bX 1 A 41<|CY j,bX 5 (T 0) 127<|BY m],(i8 0),104⟩) (AI [((T 0)+1)]) a0 wk ?_
  intro J i8 v2 b7 a2
  have a6:Pn j B m J=some v2:=b7;unfold Pn at a6
  refine aU<|xS R<|Ar λb8=>cI R a6 (λM=>?_) λM=>?_
  .refine Zc<|b8 _<|aT λb9=>Zg<|AK R<|AG R<|aT λba=>?_
   refine Zz BP (by kernel_rfl) ?_
   refine qP R (EW R Dh iL R R)<|qP R (fB R Eg iL fR R)<|qP R (Ab (a:=qd j.Merges) R E6 iL R R)<|qP R (AM R iL)<|AE M λl a7 bb=>qP R (BN R DW.slice iL iL (λ_=>R) λ_=>a7)<|qP R (EB (cs:=(BY l)) R Dh iL R R)<|AE bb λr4 bc bd=>AQ.stepC R R R (r:=rB r4) (caps:=[]) (bs:=[.agg<|BY m,.agg<|BY l]) R iL R ⟨⟨_,iL,.g (cs:=[.int .i64 m.Row,.int .i64 m.Col,.int .i64 m.H,.int .i64 m.W]) R R⟩,⟨_,iL,.g (cs:=[.int .i64 l.Row,.int .i64 l.Col,.int .i64 l.H,.int .i64 l.W]) R R⟩,Za⟩ (λ_=>oW<|bc) R<|AQ.nil<|ba _<|cI R bd (λO=>?_) λO=>?_
   .refine aT λbe=>aF [] ?_
    exact aR<|AG R<|be _<|Zj<|yI (w _<|q _ (Zf<|b4 _<|xH a2 O).symm) R
   refine Zc<|b9 _<|aG [1,5,29,30,91,92] [1,5] ?_
   exact aR<|AE O λbh a8 bf=>xA R a8<|mM R<|Zh<|Zr bf (AI [(i8 0)]) wk
  exact Zm<|V _ _ wk<|J2 _ (AI [(i8 0)])<|xH a2 M
 exact Zm<|ad _ _ wk<|J1 _ (AI [(T 0)])<|xH q h8
theorem oQ{k j r}(h:Oy k j=some r):AY prog 63 [rI k,qc j] (rI r):=by
 unfold Oy at h
 refine mF func63 ntmps63 R λZ=>aU<|AG R<|aS λK2 c2 A=>AK R<|xL CD R<|mM R<|aZ<|Zg<|BU h λo1 l B C=>?_
 have J1:∀(T:Unit) (U:NN),o1=.nrm T->K2 ⟨[],[],(U 0),43⟩:=by
  intro T U e
  have h1:=B _ e
  exact c2 _<|zI h1 R id
 refine Zv (λ(E:Int) w=>⟨[(0,rI k),(1,qc j),(7,rL j),(8,rI E)],[],(w 0),43⟩) (AI [Z]) l wk ?_
 intro E w v1 F m
 have V:Nx k j E=some v1:=F;unfold Nx at V
 refine aU<|xS R<|Ar λc6=>cI R V (λI=>?_) λI=>?_
 .refine Zc<|c6 _<|aT λc7=>Zg<|AK R<|AG R<|aT λc9=>Ah R<|xQ R<|mM R<|vM R<|vM R<|AE I λX q h4=>vQ R (BN R CD.slice (iR R) (iR R) (λ_=>R)<|Af q)<|vQ R (BL R JO<|iR R)<|vQ R (Bm (d:=.str X.Text) R BO (iR R) R)<|vQ R (D7 R (iR R) iL)<|vQ R (AM R<|iR R)<|wQ R (AM R iL)<|wQ R (AM R iL)<|wQ R (BN R CD.slice (iR R) (iR R) (λ_=>R) λh=>Af q (yt.1 h).1)<|wQ R (BL R Hb<|iR R)<|wQ R (Bm (d:=.sl<|X.Attrs.map AH.row) R Cq (iR R) R)<|wQ R (DA R BK.slice<|iR R)<|wQ R (Bd R (iR R) iL)<|vQ R (CS R (iR R)<|iR R)<|xN R<|mM R<|vM R<|vQ R (BB R (iR R) iL)<|vQ R (AM R<|iR R)<|wQ R (AM R iL)<|wQ R (AM R iL)<|AE h4 λx5 J h5=>wQ R (BN R CD.slice (iR R) (iR R) (λ_=>R)<|Af J)<|wQ R (BL R Ez<|iR R)<|wQ R (Bm (d:=.int .i64 x5.Ref) R AJ (iR R) R)<|wQ R (Cm R (iR R) iL)<|vQ R (BZ R (iR R)<|iR R)<|xO R<|aZ<|c9 _<|cI R h5 (λM=>?_) λM=>?_
  .exact zI (C _<|xH m M) R id
  refine Zc<|c7 _<|aF [0,1,7,8] ?_
  exact aR<|AE M λx6 O h7=>xA R O<|mM R<|Zh<|Zr h7 (AI [(w 0)]) wk
 exact Zm<|A _ _ wk<|J1 _ (AI [(w 0)])<|xH m I
theorem qD{l r}(h:N4 l=some r):AY prog 112 [rS l] (rB r):=by
 unfold N4 at h
 refine mF func112 ntmps112 R λZ=>aU<|AG R<|aS λK2 c2 B=>AK R<|sQ R (Df R underlying9 iL)<|mM R<|aZ<|Zg<|BU h λo1 m C E=>?_
 have J1:∀(U:Unit) (V:NN),o1=.nrm U->K2 ⟨[(0,rS l)],[],(V 0),36⟩:=by
  intro U V e
  have h1:=C _ e
  exact c2 _<|AK R<|sQ R (Df R underlying9 iL)<|sQ R (DE R iL iL)<|mM R<|vM R<|vQ R (Df R underlying9<|iR R)<|vQ R (FA R (iR R) iL)<|xN R<|mM R<|vM R<|vM R<|vQ R (Df R underlying9<|iR R)<|AE h1 λx4 F h2=>vQ R (CJ R (iR R) iL<|Af F)<|AE h2 λa0 q h3=>vQ R (Ce R underlying9 (iR R) (iR R)<|Af q)<|vQ R (Cm R (iR R) iL)<|xN R<|AG R<|Zj<|yB h3 R
 refine Zv (λ(I:Int) A=>⟨[(0,rS l),(5,rL l),(6,rI I)],[],(A 0),36⟩) (AI [Z]) m wk ?_
 intro I A v1 J w
 have X:Lu l I=some v1:=J;unfold Lu at X
 refine aU<|xS R<|Ar λc6=>cI R X (λM=>?_) λM=>?_
 .refine Zc<|c6 _<|aT λc7=>Zg<|AK R<|AG R<|AK R<|mM R<|AE M λa1 j h6=>sQ R (Ce R underlying9 iL iL λ_=>j)<|xS R<|mM R<|vM R<|vM R<|vQ R (Ce R underlying9 (iR R) (iR R) λ_=>j)<|vQ R (Bd R (iR R) iL)<|xO R<|aZ<|cI R h6 (λO=>?_) λO=>?_
  .exact zB (E _<|xH w O) R id
  refine Zc<|c7 _<|aF [0,5,6] ?_
  exact aR<|AE O λx5 T h8=>xA R T<|mM R<|Zh<|Zr h8 (AI [(A 0)]) wk
 exact Zm<|B _ _ wk<|J1 _ (AI [(A 0)])<|xH w M
theorem vr{j l r}(h:MF j l=some r):AY prog 113 [.agg<|CV j,.agg<|CV l] (rB r):=by
 unfold MF at h
 exact mF func113 ntmps113 R λm=>aU<|sS R (BD (cs:=(CV j)) 2 R iL R R)<|sS R (BD (cs:=(CV l)) 3 R iL R R)<|AG R<|aU<|lF Iw AJ R R<|lF Iw AJ R R<|xS R<|mM R<|vF Iw AJ R R<|vF Iw AJ R R<|vQ R (BB R (iR R)<|iR R)<|vQ R (AM R<|iR R)<|wQ R (fB R KV iL fR R)<|wQ R (Ab (a:=rI j.Site) R AJ (iR R) R R)<|wQ R (fB R KV iL fR R)<|wQ R (Ab (a:=rI l.Site) R AJ (iR R) R R)<|wQ R (B6 R (iR R)<|iR R)<|vQ R (BZ R (iR R)<|iR R)<|xO R<|AG R<|Zj<|yB h R
theorem nQ{B r}(h:OU B=some r):AY prog 64 [qf B] (rI r):=by
 unfold OU at h
 refine mF func64 ntmps64 R λn0=>aU<|AG R<|aS λK2 c2 a1=>AK R<|xL FQ R<|mM R<|aZ<|Zg<|BU h λo1 X a2 l=>?_
 have J1:∀(u2:Unit) (i5:NN),o1=.nrm u2->K2 ⟨[],[],(i5 0),91⟩:=by
  intro u2 i5 e
  have h1:=a2 _ e
  exact c2 _<|zI h1 R id
 refine Zv (λ(Z:Int) C=>⟨[(0,qf B),(6,rL B),(7,rI Z)],[],(C 0),91⟩) (AI [n0]) X wk ?_
 intro Z C v1 a6 j
 have h2:Oj B Z=some v1:=a6;unfold Oj at h2
 refine aU<|xS R<|Ar λc6=>cI R h2 (λh3=>?_) λh3=>?_
 .refine Zc<|c6 _<|aT λc7=>Zg<|AK R<|AG R<|AK R<|mM R<|AE h3 λq a7 h4=>xI FQ R a7<|xB ((CV q)) IK R<|sS R (BT (cs:=TE) 4 R Te R R)<|Zk R R (BF (ds:=(CV q)) R RI iL R iL R R R R)<|Ar λa8=>aU<|lF F2 AJ R R<|xU R<|mM R<|vF F2 AJ R R<|vQ R (Cm R (iR R) iL)<|xN R<|aZ<|cI R h4 (λh5=>?_) λh5=>?_
  .exact zI (l _<|xH j h5) R id
  refine Zc<|a8 _<|aT λaa=>aT λab=>aG [0,3,4,6,7] [4] ?_
  refine aR<|lF Iw AJ R R<|AE h5 λr1 ac h6=>cL (Ds<|ac) R<|sQ R (BC R iL)<|mM R<|vF KV AJ R R<|AE h6 λr2 ad h7=>vL (λhg=>Ds<|Af ad hg) R<|vQ R (BC R<|iR R)<|xO R<|mM R<|vF Fb AJ R R<|AE h7 λr3 ae h8=>vL (λhg=>Ds<|Af ae hg) R<|vQ R (BC R<|iR R)<|xO R<|aZ<|ab _<|cI R h8 (λh9=>?_) λh9=>?_
  .exact zI (l _<|xH j h9) R id
  refine Zc<|aa _<|aS λaf ag A=>aU<|lF F2 AJ R R<|xQ R<|aZ<|BU h9 λp1 a0 ah m=>?_
  have J2:∀(u3:Unit) (i6:NN),p1=.nrm u3->af ⟨[(0,qf B),(3,rI Z),(4,pT 4<|C 0),(6,rL B),(7,rI Z)],[bX 4 (C 0) 175<|CV q],(i6 0),91⟩:=by
   intro u3 i6 e
   have ai:=ah _ e
   refine ag _<|aT λaj=>?_
   refine Zz BP (by kernel_rfl) ?_
   refine qP R (AM R iL)<|qP R (Bd R iL iL)<|qP R (AM R iL)<|qO R (AM R iL)<|qO R (AM R iL)<|AE ai λx5 ak al=>qO R (CJ R (iR R) iL<|Af ak)<|AE al λw an ao=>qO R (BN R FQ.slice (iR R) (iR R) (λ_=>R)<|Af an)<|qO R (EB (cs:=(CV w)) R IK (iR R) R R)<|qO R (EW R IK iL R R)<|AE ao λr4 aq ar=>KR (.one R R R) R R (r:=rB r4) (caps:=[]) (bs:=[.agg<|CV w,.agg<|CV q]) R iL R ⟨⟨_,(iR R),.g (cs:=[.int .i64 w.Clock,.int .i64 w.Site,.int .i64 w.Kind,.int .i64 w.Item,.int .i64 w.Parent,.str w.Place,.str w.Name,.str w.Value]) R R⟩,⟨_,(iR R),.g (cs:=[.int .i64 q.Clock,.int .i64 q.Site,.int .i64 q.Kind,.int .i64 q.Item,.int .i64 q.Parent,.str q.Place,.str q.Name,.str q.Value]) R R⟩,Za⟩ (λhg=>vr<|Af aq hg) R<|qO R (BC R<|iR R)<|qP R (BZ R iL<|iR R)<|AQ.nil<|aj _<|cI R ar (λE=>?_) λE=>?_
   .exact zI (l _<|xH j E) R id
   exact Zc<|c7 _<|aR<|AE E λx7 au av=>xA R au<|mM R<|Zh<|Zr av (AI [(i6 0)]) wk
  refine aC R (λF=>?_) λF=>?_
  .have I:=D2 F a0
   refine aT λaw=>aT λax=>aG [0,3,4,6,7] [4] ?_
   refine aR<|lF Mt BO R R<|sQ R (D7 R iL iL)<|mM R<|vF JE BO R R<|vQ R (D7 R (iR R) iL)<|xO R<|aZ<|ax _<|cI R I (λJ=>?_) λJ=>?_
   .refine aT λay=>aF [] ?_
    exact aR<|AG R<|ay _<|Zj<|yI (l _<|j _ (Zf<|m _ (Zf J).symm).symm) R
   refine Zc<|aw _<|aT λaz=>aU<|lF Gx AJ R R<|AE J λr5 b0 b1=>cL (Ds<|b0) R<|sQ R (BC R iL)<|aZ<|cI R b1 (λM=>?_) λM=>?_
   .refine aT λb2=>aF [] ?_
    exact aR<|AG R<|b2 _<|Zj<|yI (l _<|j _ (Zf<|m _ (Zf M).symm).symm) R
   refine Zc<|az _<|aT λb3=>aG [0,3,4,6,7] [4] ?_
   refine aR<|lF Nn BO R R<|AE M λr6 b4 b5=>cL (qD<|b4) R<|sQ R (BC R iL)<|aZ<|b3 _<|cI R b5 (λO=>?_) λO=>?_
   .refine aT λb6=>aF [] ?_
    exact aR<|AG R<|b6 _<|Zj<|yI (l _<|j _ (Zf<|m _ (Zf O).symm).symm) R
   exact Zc<|A _ _ wk<|J2 _ (AI [((C 0)+1)]) (Zf O).symm
  .have I:=Dw F a0
   refine aT λb7=>aT λb8=>aG [0,3,4,6,7] [4] ?_
   refine aR<|lF Gx AJ R R<|xU R<|mM R<|vF Nn BO R R<|vQ R (D7 R (iR R) iL)<|xO R<|aZ<|b8 _<|cI R I (λT=>?_) λT=>?_
   .refine aT λb9=>aF [] ?_
    exact aR<|AG R<|b9 _<|Zj<|yI (l _<|j _ (Zf<|m _ (Zf T).symm).symm) R
   refine Zc<|b7 _<|aT λba=>aU<|lF Mt BO R R<|AE T λr7 bb bc=>cL (eE<|bb) R<|sQ R (BC R iL)<|aZ<|cI R bc (λU=>?_) λU=>?_
   .refine aT λbd=>aF [] ?_
    exact aR<|AG R<|bd _<|Zj<|yI (l _<|j _ (Zf<|m _ (Zf U).symm).symm) R
   refine Zc<|ba _<|aT λbe=>aG [0,3,4,6,7] [4] ?_
   refine aR<|lF JE BO R R<|sQ R (D7 R iL iL)<|mM R<|vF JE BO R R<|AE U λr8 bf bg=>vL (λhg=>YJ<|Af bf hg) R<|vQ R (BC R<|iR R)<|xN R<|aZ<|be _<|cI R bg (λV=>?_) λV=>?_
   .refine aT λbh=>aF [] ?_
    exact aR<|AG R<|bh _<|Zj<|yI (l _<|j _ (Zf<|m _ (Zf V).symm).symm) R
   exact Zc<|A _ _ wk<|J2 _ (AI [((C 0)+1)]) (Zf V).symm
 exact Zm<|a1 _ _ wk<|J1 _ (AI [(C 0)])<|xH j h3
theorem nh{n1 r}(h:OA n1=some r):AY prog 28 (JG n1) (rI r):=by
 unfold OA at h
 refine mF func28 ntmps28 R λn0=>aU<|sS R (BD (cs:=(A8 n1)) 1 R iL R R)<|AG R<|aT λc2=>aU<|lF Ea AJ R R<|AE h λr1 E h1=>cL (Ds<|E) R<|sQ R (BC R iL)<|aZ<|cI R h1 (λF=>?_) λF=>?_
 .exact zI F R id
 refine Zc<|c2 _<|aT λc5=>aU<|lF CH AJ R R<|AE F λr2 I h3=>cL (Ds<|I) R<|sQ R (BC R iL)<|mM R<|vF Ea AJ R R<|vQ R (BB R (iR R) iL)<|vQ R (AM R<|iR R)<|wQ R (fB R CH iL fR R)<|wQ R (Ab (a:=rI n1.Kind) R AJ (iR R) R R)<|wQ R (Cm R (iR R) iL)<|vQ R (BZ R (iR R)<|iR R)<|xO R<|mM R<|vF Ea AJ R R<|vQ R (Cm R (iR R) iL)<|vQ R (AM R<|iR R)<|wQ R (fB R CH iL fR R)<|wQ R (Ab (a:=rI n1.Kind) R AJ (iR R) R R)<|wQ R (BB R (iR R) iL)<|vQ R (BZ R (iR R)<|iR R)<|xO R<|aZ<|cI R h3 (λJ=>?_) λJ=>?_
 .exact zI J R id
 refine Zc<|c5 _<|aT λc8=>aT λc9=>aG [1] [1] ?_
 refine aR<|lF KE Cq R R<|AE J λe1 M h5=>cL (UA<|M) R<|AG R<|c9 _<|AK R<|xU R<|aZ<|cI R h5 (λO=>?_) λO=>?_
 .exact AK R<|AG R<|Zj<|yI O R
 refine Zc<|c8 _<|aU<|lF CH AJ R R<|AE O λr3 w h7=>cL (T0<|w) R<|mM R<|vF CH AJ R R<|AE h7 λr4 T h8=>vL (λhg=>jm<|Af T hg) R<|xO R<|AG R<|aT λU=>aT λV=>aG [1,4] [1] ?_
 refine aR<|lF Ew E5 R R<|xL CN R<|sQ R (Bd R iL iL)<|mM R<|vM R<|vQ R (BC R<|iR R)<|xN R<|mM R<|vQ R (fB R Ej iL fR R)<|vQ R (LN (ds:=(CY n1.Grid)) R Jj (iR R) R R R)<|AE h8 λr5 X h9=>vL (λhg=>tP<|Af X hg) R<|vQ R (BC R<|iR R)<|vQ R (AM R<|iR R)<|wQ R (fB R CH iL fR R)<|wQ R (Ab (a:=rI n1.Kind) R AJ (iR R) R R)<|AE h9 λr6 Z a0=>AN.stepW (.two R R R) R R (Db (r:=rB r6) (caps:=[]) (bs:=[rI n1.Kind]) R iL R ⟨⟨_,(iR R),.d R⟩,Za⟩ (λhg=>aY<|Af Z hg) R)<|wQ R (BC R<|iR R)<|vQ R (BZ R (iR R)<|iR R)<|xO R<|mM R<|vF HF Ic R R<|vQ R (DA R FQ.slice<|iR R)<|vQ R (Bd R (iR R) iL)<|vQ R (AM R<|iR R)<|wQ R (fB R CH iL fR R)<|wQ R (Ab (a:=rI n1.Kind) R AJ (iR R) R R)<|AE a0 λr7 a1 a2=>AN.stepW (.two R R R) R R (Db (r:=rB r7) (caps:=[]) (bs:=[rI n1.Kind]) R iL R ⟨⟨_,(iR R),.d R⟩,Za⟩ (λhg=>mC<|Af a1 hg) R)<|wQ R (BC R<|iR R)<|vQ R (BZ R (iR R)<|iR R)<|xO R<|aZ<|V _<|cI R a2 (λj=>?_) λj=>?_
 .exact zI j R id
 refine Zc<|U _<|aT λa6=>aT λa7=>aG [1,4] [1] ?_
 refine Ah R<|aZ<|a7 _<|cI R j (λl=>?_) λl=>?_
 .refine aT λa8=>?_
  refine Zz BP (by kernel_rfl) ?_
  exact qP R (fB R Ew iL fR R)<|qP R (Ab (a:=qe n1.Flow) R E5 iL R R)<|qP R (fB R CH iL fR R)<|qP R (Ab (a:=rI n1.Kind) R AJ iL R R)<|AQ.stepC R R R (r:=rB r3) (caps:=[]) (bs:=[rI n1.Kind]) R iL R ⟨⟨_,iL,.d R⟩,Za⟩ (λ_=>T0<|w) R<|AE l λr9 aa ab=>AQ.stepC R R R (r:=rI r9) (caps:=[]) (bs:=[qe n1.Flow,rB r3]) R iL R ⟨⟨_,iL,.d R⟩,⟨_,iL,.d R⟩,Za⟩ (λ_=>lR<|aa) R<|qP R (EL R iL)<|AQ.nil<|a8 _<|Zj<|yI ab R
 refine Zc<|a6 _<|aT λac=>aU<|lF CH AJ R R<|AE l λal A ad=>cL (aY<|A) R<|aZ<|cI R ad (λm=>?_) λm=>?_
 .refine aT λae=>aU<|sQ R (fB R Ej iL fR R)<|sQ R (LN (ds:=(CY n1.Grid)) R Jj iL R R R)<|AE m λe2 af ag=>cL (qq<|af) R<|AG R<|AK R<|xU R<|aZ<|cI R ag (λq=>?_) λq=>?_
  .refine aT λah=>aF [5] ?_
   exact Ah R<|AG R<|ah _<|Zj<|yI q R
  refine Zc<|ae _<|aT λai=>aG [1] [1] ?_
  exact aR<|lF CH AJ R R<|sQ R (fB R Ej iL fR R)<|lF EU Ek R R<|AE q λan B aj=>cL (oQ<|B) R<|AG R<|ai _<|Zj<|yI aj R
 exact Zc<|ac _<|aU<|lF HF Ic R R<|AE m λao C ak=>cL (nQ<|C) R<|AG R<|Zj<|yI ak R
theorem qx{n1 r}(h:PL n1=some r):AY prog 30 (JG n1) (.r<|.sl<|r.map<|Ai .i64):=by
 unfold PL at h
 refine mF func30 ntmps30 R λj=>aU<|sS R (BD (cs:=(A8 n1)) 1 R iL R R)<|AG R<|aU<|AG R<|aS λK3 c3 a7=>aU<|lF Ew E5 R R<|xL CN R<|mM R<|aZ<|Zg<|Bb h λo1 a0 a8=>?_
 have J1:∀(w:List Int) (i5:NN),o1=w->K3 ⟨[(1,pT 1 j),(3,.own 5003<|i5 0)],(Nl j n1 (i5 0)<|w.map<|Ai .i64),(i5 1),56⟩:=by
  intro w i5 e
  have h1:=a8 _ e
  refine c3 _<|aS λK5 c5 aa=>aU<|sQ R (fB R Ej iL fR R)<|lF EU Ek R R<|xL CD R<|mM R<|aZ<|Zg<|Bb h1 λo2 a1 ab=>?_
  have J2:∀(A:List Int) (I:NN),o2=A->K5 ⟨[(3,.own 5003<|I 0)],(If (I 0)<|A.map<|Ai .i64),(I 1),56⟩:=by
   intro A I e
   have h2:=ab _ e
   exact c5 _<|AK R<|AG R<|Zj<|C3 (P:=prog) (λ(r:(List Int))=>.r<|.sl<|r.map<|Ai .i64) h2 iL<|.t<|.one<|.own R
  refine C0 (λ(x5:Int) (B:List Int) i8=>⟨[(1,pT 1 j),(3,.own 5003<|i8 0),(32,rL n1.Grid.Cells),(33,rI x5)],(Nl j n1 (i8 0)<|B.map<|Ai .i64),(i8 1),56⟩) (AI [(i5 0),(i5 1)]) a1 wk ?_
  intro x5 B i8 v1 ac ad
  have h3:Tz n1 x5 B=some v1:=ac;unfold Tz at h3
  refine aU<|xS R<|Ar λc9=>cI R h3 (λh4=>?_) λh4=>?_
  .refine Zc<|c9 _<|aS λae af O=>Zg<|Bb h4 λp1 ag ah=>?_
   have J3:∀(C:List Int) (m:NN),p1=C->ae ⟨[(1,pT 1 j),(3,.own 5003<|m 0),(32,rL n1.Grid.Cells),(33,rI x5)],(Nl j n1 (m 0)<|C.map<|Ai .i64),(m 1),56⟩:=by
    intro C m e
    have h5:=ah _ e
    exact af _<|aR<|AE h5 λx7 ai h6=>xA R ai<|mM R<|Zh<|ZE h6 (AI [(m 0),(m 1)]) wk
   refine AK R<|AG R<|aU<|sQ R (fB R Ej iL fR R)<|lF EU Ek R R<|mM R<|AE ag λx8 a2 h7=>xI CD R a2<|sQ R (BL R Ez iL)<|xV (.int .i64 x8.Ref) AJ R<|xU R<|aZ<|cI R h7 (λh8=>?_) λh8=>?_
   .refine aG [1,3,5,32,33] [1,5003] ?_
    exact Ah R<|sQ R (fB R Ej iL fR R)<|lF EU Ek R R<|mM R<|xI CD R a2<|sQ R (BL R Ez iL)<|xV (.int .i64 x8.Ref) AJ R<|sS R (CA 52 R Bo (f:=(Ai .i64)) (l:=([x8.Ref]:List Int)) ⟨R,⟨_,iL,R⟩,Za⟩ R (λ_=>R) R)<|AE h8 λaj J h9=>sS R (DN R Bo iL R (.inr<|.inl ⟨_,_,iL,R⟩) J)<|mA R<|Zh<|O _ _ wk<|J3 _ (AI [((i8 1)+1),((i8 1)+2)]) (Zf h9).symm
   exact Zc<|O _ _ wk<|J3 _ (AI [(i8 0),(i8 1)]) (Zf h8).symm
  exact Zm<|aa _ _ wk<|J2 _ (AI [(i8 0),(i8 1)])<|xH ad h4
 refine C0 (λ(x2:Int) (E:List Int) F=>⟨[(1,pT 1 j),(3,.own 5003<|F 0),(8,rL n1.Flow),(9,rI x2)],(Nl j n1 (F 0)<|E.map<|Ai .i64),(F 1),56⟩) (AI [(j+1),(j+2)]) a0 (Zn (Zn (HC 3 5003 3 1 (by decide) R)<|by exact AZ.cv (e':=[(0,.agg<|A8 n1),(1,pT 1 j),(2,cZ),(3,.own 5003<|j+1),(6,.ptr 1 j 0 3),(7,qe n1.Flow),(8,rL n1.Flow),(9,rI 0)]) (h':=(Nl j n1 (j+1)<|([]:List Int).map<|Ai .i64)) ⟨jL,jL,jL,jL,jL,jL,jL,jL,Za⟩ ⟨.inl R,.inl R,Za⟩ nL) wk) ?_
 intro x2 E F v2 ak al
 have a6:R7 n1 x2 E=some v2:=ak;unfold R7 at a6
 refine aU<|xS R<|Ar λan=>cI R a6 (λV=>?_) λV=>?_
 .refine Zc<|an _<|aS λao aq T=>Zg<|Bb V λp2 ar au=>?_
  have J4:∀(l:List Int) (q:NN),p2=l->ao ⟨[(1,pT 1 j),(3,.own 5003<|q 0),(8,rL n1.Flow),(9,rI x2)],(Nl j n1 (q 0)<|l.map<|Ai .i64),(q 1),56⟩:=by
   intro l q e
   have av:=au _ e
   exact aq _<|aR<|AE av λx9 aw ax=>xA R aw<|mM R<|Zh<|ZE ax (AI [(q 0),(q 1)]) wk
  refine AK R<|AG R<|aU<|lF Ew E5 R R<|mM R<|AE ar λX U ay=>xI CN R U<|sQ R (BL R EP iL)<|xV (.int .i64 X.Ref) AJ R<|xU R<|aZ<|cI R ay (λZ=>?_) λZ=>?_
  .refine aG [1,3,4,8,9] [1,5003] ?_
   exact Ah R<|lF Ew E5 R R<|mM R<|xI CN R U<|sQ R (BL R EP iL)<|xV (.int .i64 X.Ref) AJ R<|sS R (CA 26 R Bo (f:=(Ai .i64)) (l:=([X.Ref]:List Int)) ⟨R,⟨_,iL,R⟩,Za⟩ R (λ_=>R) R)<|AE Z λaz M b0=>sS R (DN R Bo iL R (.inr<|.inl ⟨_,_,iL,R⟩) M)<|mA R<|Zh<|T _ _ wk<|J4 _ (AI [((F 1)+1),((F 1)+2)]) (Zf b0).symm
  exact Zc<|T _ _ wk<|J4 _ (AI [(F 0),(F 1)]) (Zf Z).symm
 exact Zm<|a7 _ _ wk<|J1 _ (AI [(F 0),(F 1)])<|xH al V
theorem QN{d1 i r}(h:Gs d1 i=some r):AY prog 9 [.agg [qb d1.Nodes],rI i] (rI r):=by
 unfold Gs at h
 refine mF func9 ntmps9 R λq=>aU<|sS R (BD (cs:=[qb d1.Nodes]) 2 R iL R R)<|AG R<|aS λX Z w=>aU<|lF CZ Cf R R<|xL B7 R<|mM R<|aZ<|Zg<|BU h λo1 j A B=>?_
 have J1:∀(T:Unit) (U:NN),o1=.nrm T->X ⟨[],[],(U 0),22⟩:=by
  intro T U e
  have h1:=A _ e
  exact Z _<|zI h1 R id
 refine Zv (λ(C:Int) m=>⟨[(1,rI i),(2,pT 2 q),(8,rL d1.Nodes),(9,rI C)],(Lb q<|qb d1.Nodes),(m 0),22⟩) (AI [(q+1)]) j wk ?_
 intro C m v1 E l
 have V:QV d1 i C=some v1:=E;unfold QV at V
 refine aU<|xS R<|Ar λc6=>cI R V (λF=>?_) λF=>?_
 .refine Zc<|c6 _<|aT λc7=>Zg<|AK R<|AG R<|aU<|lF CZ Cf R R<|mM R<|AE F λx4 I h4=>xI B7 R I<|sQ R (BL R Ea iL)<|xV (.int .i64 x4.ID) AJ R<|mM R<|xQ R<|aZ<|cI R h4 (λJ=>?_) λJ=>?_
  .refine aT λM=>aF [5] ?_
   exact Ah R<|AG R<|M _<|Zj<|yI (B _<|xH l J) R
  refine Zc<|c7 _<|aG [1,2,8,9] [2] ?_
  exact aR<|AE J λx5 O h6=>xA R O<|mM R<|Zh<|Zr h6 (AI [(m 0)]) wk
 exact Zm<|w _ _ wk<|J1 _ (AI [(m 0)])<|xH l F
theorem oO{p k r}(h:Qm p k=some r):AY prog 65 [rI p,rI k] (rB r):=by
 unfold Qm at h
 refine mF func65 ntmps65 R λI=>aU<|AG R<|aT λc2=>AK R<|aZ<|Zg<|aS λK4 c4 j=>aU<|xQ R<|AG R<|Bb h λp1 J U=>?_
 have M:∀(V:Bool) (T:NN),p1=V->K4 ⟨[(0,rI p),(5,rI k),(6,rB V)],[],(T 0),51⟩:=by
  intro V T e
  have h1:=U _ e
  refine c4 _<|cI R h1 (λX=>?_) λX=>?_
  .exact AK R<|xQ R<|AG R<|Zj<|yB X R
  refine aU<|xQ R<|AG R<|cI R X (λZ=>?_) λZ=>?_
  .exact AK R<|xQ R<|mM R<|vM R<|vQ R (BB R (iR R) iL)<|xO R<|mM R<|vM R<|vQ R (BB R (iR R) iL)<|xO R<|AG R<|Zj<|yB Z R
  refine aU<|xQ R<|AG R<|cI R Z (λh4=>?_) λh4=>?_
  .exact AK R<|xQ R<|AG R<|Zj<|yB h4 R
  refine aU<|xQ R<|AG R<|cI R h4 (λh5=>?_) λh5=>?_
  .exact AK R<|xQ R<|mM R<|vM R<|vQ R (BB R (iR R) iL)<|xO R<|AG R<|Zj<|yB h5 R
  refine aU<|xQ R<|AG R<|cI R h5 (λh6=>?_) λh6=>?_
  .refine aT λa0=>aF [0] ?_
   exact Ah R<|AE h6 λr1 a1 h7=>cL (T0<|a1) R<|AG R<|a0 _<|Zj<|yB h7 R
  refine aT λa2=>aF [0,5] ?_
  refine aR<|xQ R<|AG R<|a2 _<|cI R h6 (λh8=>?_) λh8=>?_
  .exact AK R<|xQ R<|AG R<|Zj<|yB h8 R
  refine aS λa6 a7 l=>aU<|xQ R<|AG R<|Bb h8 λp2 O a8=>?_
  have J2:∀(x2:Bool) (i2:NN),p2=x2->a6 ⟨[(0,rI p),(46,rB x2)],[],(i2 0),51⟩:=by
   intro x2 i2 e
   have h9:=a8 _ e
   refine a7 _<|cI R h9 (λm=>?_) λm=>?_
   .exact AK R<|xQ R<|AG R<|Zj<|yB m R
   exact Zc<|c2 _<|zB m R id
  refine aC R (λq=>?_) λq=>?_
  .have w:=D2 q O
   exact Zc<|l _ _ wk<|J2 _ (AI [(T 0)]) (Zf w).symm
  .have w:=Dw q O
   exact aR<|xQ R<|mA R<|Zh<|l _ _ wk<|J2 _ (AI [(T 0)]) (Zf w).symm
 refine aC R (λA=>?_) λA=>?_
 .have B:=D2 A J
  exact Zc<|j _ _ wk<|M _ (AI [I]) (Zf B).symm
 .have B:=Dw A J
  refine aU<|xQ R<|AG R<|cI R B (λC=>?_) λC=>?_
  .exact Zc<|j _ _ wk<|M _ (AI [I]) (Zf C).symm
  refine aU<|xQ R<|AG R<|cI R C (λE=>?_) λE=>?_
  .exact Zc<|j _ _ wk<|M _ (AI [I]) (Zf E).symm
  refine aU<|xQ R<|AG R<|cI R E (λF=>?_) λF=>?_
  .exact Zc<|j _ _ wk<|M _ (AI [I]) (Zf F).symm
  exact aR<|xQ R<|mA R<|Zh<|j _ _ wk<|M _ (AI [I]) (Zf F).symm
theorem jo{d1 k a r}(h:PU d1 k a=some r):AY prog 29 [.agg [qb d1.Nodes],rI k,.r<|.sl<|a.map<|Ai .i64] (rI r):=by
 unfold PU at h
 refine mF func29 ntmps29 R λw=>aU<|sS R (BD (cs:=[qb d1.Nodes]) 3 R iL R R)<|AG R<|aS λK2 c2 A=>AK R<|xL Bo R<|mM R<|aZ<|Zg<|BU h λo1 l B m=>?_
 have J1:∀(u2:Unit) (i5:NN),o1=.nrm u2->K2 ⟨[],[],(i5 0),32⟩:=by
  intro u2 i5 e
  have h1:=B _ e
  exact c2 _<|zI h1 R id
 refine Zv (λ(C:Int) q=>⟨[(1,rI k),(2,.r<|.sl<|a.map<|Ai .i64),(3,pT 3 w),(10,rL a),(11,rI C)],(O6 w<|qb d1.Nodes),(q 0),32⟩) (AI [(w+1)]) l wk ?_
 intro C q v1 E j
 have h2:Mv d1 k a C=some v1:=E;unfold Mv at h2
 refine aU<|xS R<|Ar λc6=>cI R h2 (λF=>?_) λF=>?_
 .refine Zc<|c6 _<|aT λc7=>Zg<|AK R<|AG R<|aT λc9=>?_
  refine Zz BP (by kernel_rfl) ?_
  refine qP R (EW R CG iL R R)<|qP R (AM R iL)<|qP R (AM R iL)<|AE F λx4 I h4=>qP R (BN R Bo.slice iL iL (λ_=>R) λ_=>I)<|qP R (Bm (d:=.int .i64 x4) R AJ iL R)<|AE h4 λk1 J h5=>AQ.stepC R R R (r:=rI k1) (caps:=[]) (bs:=[.agg [qb d1.Nodes],rI x4]) R iL R ⟨⟨_,iL,.g (cs:=[.sl<|d1.Nodes.map Ad.row]) R R⟩,⟨_,iL,.d R⟩,Za⟩ (λ_=>QN<|J) R<|qP R (EL R iL)<|AQ.nil<|c9 _<|aT λM=>aT λO=>aG [1,2,3,8,10,11] [3] ?_
  refine Ah R<|xS R<|aZ<|O _<|cI R h5 (λT=>?_) λT=>?_
  .exact zI (m _<|xH j T) R id
  refine Zc<|M _<|AK R<|lF CZ Cf R R<|mM R<|AE T λx5 U h7=>xI B7 R U<|sQ R (BL R CH iL)<|xV (.int .i64 x5.Kind) AJ R<|AE h7 λr1 V h8=>cL (oO<|V) R<|sQ R (BC R iL)<|aZ<|cI R h8 (λX=>?_) λX=>?_
  .exact zI (m _<|xH j X) R id
  refine Zc<|c7 _<|aG [1,2,3,10,11] [3] ?_
  exact aR<|AE X λx6 Z a0=>xA R Z<|mM R<|Zh<|Zr a0 (AI [(q 0)]) wk
 exact Zm<|A _ _ wk<|J1 _ (AI [(q 0)])<|xH j F
theorem rY{d1 r}(h:Pg d1=some r):AY prog 7 [.agg [qb d1.Nodes]] (rI r):=by
 unfold Pg at h
 refine mF func7 ntmps7 R λj=>aU<|sS R (BD (cs:=[qb d1.Nodes]) 1 R iL R R)<|AG R<|aT λc2=>aU<|lF CZ Cf R R<|xL B7 R<|xQ R<|aZ<|cI R h (λh1=>?_) λh1=>?_
 .exact zI h1 R id
 refine Zc<|c2 _<|aS λK5 c5 a0=>aU<|lF CZ Cf R R<|xL B7 R<|mM R<|aZ<|Zg<|BU h1 λo1 C a1 E=>?_
 have J1:∀(u2:Unit) (i5:NN),o1=.nrm u2->K5 ⟨[(1,pT 1 j)],(FN j<|qb d1.Nodes),(i5 0),81⟩:=by
  intro u2 i5 e
  have h2:=a1 _ e
  refine c5 _<|aS λK7 c7 a2=>aU<|lF CZ Cf R R<|xL B7 R<|mM R<|aZ<|Zg<|BU h2 λo2 F a6 a7=>?_
  have J2:∀(u4:Unit) (I:NN),o2=.nrm u4->K7 ⟨[],[],(I 0),81⟩:=by
   intro u4 I e
   have h3:=a6 _ e
   exact c7 _<|zI h3 R id
  refine Zv (λ(m:Int) i8=>⟨[(1,pT 1 j),(59,rL d1.Nodes),(60,rI m)],(FN j<|qb d1.Nodes),(i8 0),81⟩) (AI [(i5 0)]) F wk ?_
  intro m i8 v1 a8 J
  have h4:Kq d1 m=some v1:=a8;unfold Kq at h4
  refine aU<|xS R<|Ar λaa=>cI R h4 (λh5=>?_) λh5=>?_
  .refine Zc<|aa _<|aT λab=>Zg<|AK R<|AG R<|aT λac=>AE h5 λl M h6=>AE h6 λr1 ad h7=>?_
   refine rP 13 [pO 63<|.agg [qb d1.Nodes],pO 64<|pT 1 j,pO 65<|qb d1.Nodes,pO 66<|rI m,pO 67<|.rop (Ad.row l) 0,pO 68<|.rop (Ad.row l) 1,pO 69<|rI l.Kind,pO 70<|pT 1 j,pO 71<|qb d1.Nodes,pO 72<|rI m,pO 73<|.rop (Ad.row l) 0,pO 74<|.agg<|A8 l,pO 75<|.r<|.sl<|r1.map<|Ai .i64] BP R (by exact⟨oB [(1,pT 1 j)] (FN j<|qb d1.Nodes)<|EW R CG (.inl R) R R,oB [(1,pT 1 j)] (FN j<|qb d1.Nodes)<|fB R CZ (.inl R) (λ_=>R) R,oB [(64,pT 1 j)] (FN j<|qb d1.Nodes)<|Ab (a:=qb d1.Nodes) R Cf (.inl R) R R,oB [(5,rI m)] []<|AM R<|.inl R,oB [(65,qb d1.Nodes),(66,rI m)] []<|BN R B7.slice (.inl R) (.inl R) (λ_=>R) λ_=>M,oB [(67,.rop (Ad.row l) 0)] []<|BL R CH<|.inl R,oB [(68,.rop (Ad.row l) 1)] []<|Bm (d:=.int .i64 l.Kind) R AJ (.inl R) R,oB [(1,pT 1 j)] (FN j<|qb d1.Nodes)<|fB R CZ (.inl R) (λ_=>R) R,oB [(70,pT 1 j)] (FN j<|qb d1.Nodes)<|Ab (a:=qb d1.Nodes) R Cf (.inl R) R R,oB [(5,rI m)] []<|AM R<|.inl R,oB [(71,qb d1.Nodes),(72,rI m)] []<|BN R B7.slice (.inl R) (.inl R) (λ_=>R) λ_=>M,oB [(73,.rop (Ad.row l) 0)] []<|EB (cs:=(A8 l)) R D8 (.inl R) R R,oD (λ_=>[(74,.agg<|A8 l)]) (λ_=>[]) λG1 e h' n=>Dz (r:=.r<|.sl<|r1.map<|Ai .i64) (caps:=[]) (bs:=(JG l)) R (.inl R) R ⟨.inl ⟨(.inl R),R⟩,Za⟩ λ_=>qx<|ad,Za⟩) λG1 n1=>?_
   refine Bi [1,5,59,60,61,62,63,64,65,66,67,68,69,70,71,72,73,74,75] [1] ?_
   refine AE h7 λe1 ae h8=>cL (jo<|ae) R<|AG R<|ac _<|aT λaf=>aG [1,6,59,60] [1] ?_
   refine Ah R<|xU R<|aZ<|af _<|cI R h8 (λh9=>?_) λh9=>?_
   .exact AK R<|AG R<|Zj<|yI (a7 _<|xH J h9) R
   exact Zc<|ab _<|aR<|AE h9 λx8 ag ah=>xA R ag<|mM R<|Zh<|Zr ah (AI [n1]) wk
  exact Zm<|a2 _ _ wk<|J2 _ (AI [(i8 0)])<|xH J h5
 refine Zv (λ(x2:Int) i3=>⟨[(1,pT 1 j),(13,rL d1.Nodes),(14,rI x2)],(FN j<|qb d1.Nodes),(i3 0),81⟩) (AI [(j+1)]) C wk ?_
 intro x2 i3 v2 ai q
 have O:NV d1 x2=some v2:=ai;unfold NV at O
 refine aU<|xS R<|Ar λaj=>cI R O (λw=>?_) λw=>?_
 .refine Zc<|aj _<|aT λak=>Zg<|AK R<|AG R<|aT λal=>aU<|lF CZ Cf R R<|mM R<|AE w λx9 T an=>xI B7 R T<|xB ((A8 x9)) D8 R<|AE an λe2 ao aq=>cL (nh<|ao) R<|AG R<|AK R<|xU R<|aZ<|cI R aq (λA=>?_) λA=>?_
  .refine aT λar=>aF [4] ?_
   exact Ah R<|AG R<|ar _<|Zj<|yI (E _<|xH q A) R
  refine Zc<|al _<|aT λau=>aG [1,3,13,14] [1] ?_
  refine Zz BP (by kernel_rfl) ?_
  refine qP R (AM R iL)<|qP R (BB R iL iL)<|qP R (AM R iL)<|qO R (fB R CZ iL fR R)<|qO R (Ab (a:=qb d1.Nodes) R Cf (iR R) R R)<|AE A λav U aw=>qO R (BN R B7.slice (iR R) iL (λ_=>R)<|Af U)<|qO R (BL R Ea<|iR R)<|qO R (Bm (d:=.int .i64 av.ID) R AJ (iR R) R)<|qO R (Cm R (iR R) iL)<|qP R (BZ R iL<|iR R)<|qP R (AM R iL)<|qO R (AM R iL)<|qO R (Bd R (iR R) iL)<|qO R (AM R<|iR R)<|qT R (fB R CZ iL fR R)<|qT R (Ab (a:=qb d1.Nodes) R Cf (iR R) R R)<|qT R (AM R iL)<|qT R (BN R B7.slice (iR R) (iR R) (λ_=>R) λ_=>T)<|qT R (BL R Ea<|iR R)<|qT R (Bm (d:=.int .i64 x9.ID) R AJ (iR R) R)<|qT R (fB R CZ iL fR R)<|qT R (Ab (a:=qb d1.Nodes) R Cf (iR R) R R)<|qT R (AM R iL)<|AE aw λb1 V ax=>qT R (CJ R (iR R) iL<|Af V)<|AE ax λay X az=>qT R (BN R B7.slice (iR R) (iR R) (λ_=>R)<|Af X)<|qT R (BL R Ea<|iR R)<|qT R (Bm (d:=.int .i64 ay.ID) R AJ (iR R) R)<|qT R (FA R (iR R)<|iR R)<|qO R (BZ R (iR R)<|iR R)<|qP R (CS R iL<|iR R)<|AQ.nil<|au _<|cI R az (λB=>?_) λB=>?_
  .exact zI (E _<|xH q B) R id
  exact Zc<|ak _<|aR<|AE B λb2 Z b0=>xA R Z<|mM R<|Zh<|Zr b0 (AI [(i3 0)]) wk
 exact Zm<|a0 _ _ wk<|J1 _ (AI [(i3 0)])<|xH q w
theorem mB{j i r}(h:Qg j i=some r):AY prog 66 [qj j,rI i] (rI r):=by
 unfold Qg at h
 refine mF func66 ntmps66 R λX=>aU<|AG R<|aS λZ c2 w=>AK R<|xL Np R<|mM R<|aZ<|Zg<|BU h λo1 l A B=>?_
 have J1:∀(T:Unit) (U:NN),o1=.nrm T->Z ⟨[],[],(U 0),20⟩:=by
  intro T U e
  have h1:=A _ e
  exact c2 _<|zI h1 R id
 refine Zv (λ(C:Int) q=>⟨[(0,qj j),(1,rI i),(7,rL j),(8,rI C)],[],(q 0),20⟩) (AI [X]) l wk ?_
 intro C q v1 E m
 have V:Nh j i C=some v1:=E;unfold Nh at V
 refine aU<|xS R<|Ar λc6=>cI R V (λF=>?_) λF=>?_
 .refine Zc<|c6 _<|aT λc7=>Zg<|AK R<|AG R<|AK R<|mM R<|AE F λx4 I h4=>xI Np R I<|sQ R (BL R LP iL)<|xV (.int .i64 x4.ID) AJ R<|mM R<|xQ R<|aZ<|cI R h4 (λJ=>?_) λJ=>?_
  .refine aT λM=>aF [5] ?_
   exact Ah R<|AG R<|M _<|Zj<|yI (B _<|xH m J) R
  refine Zc<|c7 _<|aF [0,1,7,8] ?_
  exact aR<|AE J λx5 O h6=>xA R O<|mM R<|Zh<|Zr h6 (AI [(q 0)]) wk
 exact Zm<|w _ _ wk<|J1 _ (AI [(q 0)])<|xH m F
theorem oE{q b c r}(h:Pe q b c=some r):AY prog 67 [.agg<|CY q,rI b,rI c] (.agg<|BY r):=by
 unfold Pe at h
 refine mF func67 ntmps67 R λj=>aU<|sS R (BD (cs:=(CY q)) 3 R iL R R)<|sS R (BT (cs:=F6) 6 R IW R R)<|aZ<|aS λK2 c2 C=>aU<|lF Eg E6 R R<|xL DW R<|mM R<|aZ<|Zg<|BU h λo1 w E F=>?_
 have J1:∀(u2:Unit) (i5:NN),o1=.nrm u2->K2 ⟨[(1,rI b),(2,rI c),(6,pT 6<|j+1)],[bX 6 (j+1) 127 F6],(i5 0),47⟩:=by
  intro u2 i5 e
  have h1:=E _ e
  refine c2 _<|aT λc4=>Ah R<|mM R ?_
  refine sQ R (Ch R gl (q:=[(0,_),(1,_),(2,_),(3,_)]) (by exact⟨R,R,R,iL,R,R,R,iL,R,R,R,iL,R,R,R,iL,Za⟩) (cs:=[rI b,rI c,rI 1,rI 1])<|by rfl) ?_
  exact Zk R R (BF (ds:=[rI b,rI c,rI 1,rI 1]) R Gu iL R iL R R R R)<|aZ<|c4 _<|Zj<|C3 (P:=prog) (λ(r:At)=>.agg<|BY r) h1 iL<|.a Dh R R R<|.g (cs:=[.int .i64 b,.int .i64 c,.int .i64 1,.int .i64 1]) R R
 refine Zv (λ(I:Int) B=>⟨[(1,rI b),(2,rI c),(3,pT 3 j),(6,pT 6<|j+1),(11,rL q.Merges),(12,rI I)],[bX 3 j 41<|CY q,bX 6 (j+1) 127 F6],(B 0),47⟩) (AI [(j+2)]) w wk ?_
 intro I B v1 J A
 have h2:Lr q b c I=some v1:=J;unfold Lr at h2
 refine aU<|xS R<|Ar λc6=>cI R h2 (λM=>?_) λM=>?_
 .refine Zc<|c6 _<|aT λc7=>Zg<|AK R<|AG R<|aU<|lF Eg E6 R R<|mM R<|AE M λl O h4=>xI DW R O<|xB ((BY l)) Dh R<|sS R (BT (cs:=F6) 8 R IW R R)<|Zk R R (BF (ds:=(BY l)) R Gu iL R iL R R R R)<|Ar λT=>Ah R<|lF Cz AJ R R<|lF Cz AJ R R<|lF Gz AJ R R<|AE h4 λx5 U h5=>xA R U<|AE h5 λx6 V h6=>sQ R (CJ R iL iL λ_=>V)<|AE h6 λr1 X h7=>cL (Ds<|X) R<|mM R<|vM R<|vF DV AJ R R<|vF DV AJ R R<|vF Ge AJ R R<|AE h7 λx7 Z h8=>vQ R (Jn R (iR R) (iR R)<|Af Z)<|AE h8 λx8 a0 h9=>vQ R (CJ R (iR R) iL<|Af a0)<|AE h9 λr2 a1 a2=>vL (λhg=>Ds<|Af a1 hg) R<|xN R<|aZ<|T _<|cI R a2 (λm=>?_) λm=>?_
  .refine aT λa6=>aG [6,8] [6,8] ?_
   exact aR<|xC Dh R<|Zk R R (BF (ds:=(BY l)) R Gu iL R iL R R R R)<|aZ<|a6 _<|Zj<|C3 (P:=prog) (λ(r:At)=>.agg<|BY r) (F _<|xH A m) iL<|.a Dh R R R<|.g (cs:=[.int .i64 l.Row,.int .i64 l.Col,.int .i64 l.H,.int .i64 l.W]) R R
  refine Zc<|c7 _<|aG [1,2,3,6,11,12] [3,6] ?_
  exact aR<|AE m λx9 a7 a8=>xA R a7<|mM R<|Zh<|Zr a8 (AI [((B 0)+1)]) wk
 exact Zm<|C _ _ wk<|J1 _ (AI [(B 0)])<|xH A M
theorem Pz{j i r}(h:I6 j i=some r):AY prog 116 [qg j,rI i] (rI r):=by
 unfold I6 at h
 refine mF func116 ntmps116 R λX=>aU<|AG R<|aS λZ c2 w=>AK R<|xL BV R<|mM R<|aZ<|Zg<|BU h λo1 l A B=>?_
 have J1:∀(T:Unit) (U:NN),o1=.nrm T->Z ⟨[],[],(U 0),20⟩:=by
  intro T U e
  have h1:=A _ e
  exact c2 _<|zI h1 R id
 refine Zv (λ(C:Int) q=>⟨[(0,qg j),(1,rI i),(7,rL j),(8,rI C)],[],(q 0),20⟩) (AI [X]) l wk ?_
 intro C q v1 E m
 have V:Im j i C=some v1:=E;unfold Im at V
 refine aU<|xS R<|Ar λc6=>cI R V (λF=>?_) λF=>?_
 .refine Zc<|c6 _<|aT λc7=>Zg<|AK R<|AG R<|AK R<|mM R<|AE F λx4 I h4=>xI BV R I<|sQ R (BL R Ef iL)<|xV (.int .i64 x4.Item) AJ R<|mM R<|xQ R<|aZ<|cI R h4 (λJ=>?_) λJ=>?_
  .refine aT λM=>aF [5] ?_
   exact Ah R<|AG R<|M _<|Zj<|yI (B _<|xH m J) R
  refine Zc<|c7 _<|aF [0,1,7,8] ?_
  exact aR<|AE J λx5 O h6=>xA R O<|mM R<|Zh<|Zr h6 (AI [(q 0)]) wk
 exact Zm<|w _ _ wk<|J1 _ (AI [(q 0)])<|xH m F
theorem Xm{B w r}(h:Ln B w=some r):AY prog 200 [qa B,.agg<|Cp w] (qa r):=by
 unfold Ln at h
 refine mF func200 ntmps200 R λA=>aU<|sS R (BD (cs:=(Cp w)) 3 R iL R R)<|AG R<|aU<|AG R<|aU<|AG R<|aS λK4 c4 ae=>AK R<|xL BK R<|mM R<|aZ<|Zg<|Gj h λo1 a8 af=>?_
 have J1:∀(j:Bool) (C:List AH) (T:NN),o1=(j,C)->K4 ⟨[(3,pT 3 A),(5,.own 5005<|T 0),(6,rB j)],(OW A w (T 0) C),(T 1),52⟩:=by
  intro j C T e
  have h1:=af _ _ e
  refine c4 _<|aS λK6 c6 aa=>AK R<|sQ R (BC R iL)<|aZ<|Bb h1 λp1 ab ag=>?_
  have J2:∀(E:List AH) (i6:NN),p1=E->K6 ⟨[(5,.own 5005<|i6 0)],[aX 5005 (i6 0) 91 2<|E.map AH.row],(i6 1),52⟩:=by
   intro E i6 e
   have h2:=ag _ e
   exact c6 _<|AK R<|AG R<|Zj<|C3 (P:=prog) (λ(r:(List AH))=>qa r) h2 iL<|.t<|.one<|.own R
  refine aC R (λX=>?_) λX=>?_
  .have h3:=D2 X ab
   exact Ah R<|xC E3 R<|sS R (CA 49 R BK (f:=AH.row) (l:=([w]:List AH)) ⟨R,⟨_,iL,R⟩,Za⟩ R (λ_=>R) R)<|AE h3 λb4 Z h4=>sS R (DN R BK iL R (.inr<|.inl ⟨_,_,iL,R⟩) Z)<|mA R<|Zh<|aa _ _ wk<|J2 _ (AI [((T 1)+1),((T 1)+2)]) (Zf h4).symm
  .have h3:=Dw X ab
   exact Zc<|aa _ _ wk<|J2 _ (AI [(T 0),(T 1)]) (Zf h3).symm
 refine IE (λ(l:Bool) (x2:Int) (F:List AH) M=>⟨[(0,qa B),(3,pT 3 A),(5,.own 5005<|M 0),(6,rB l),(9,rL B),(10,rI x2)],(OW A w (M 0) F),(M 1),52⟩) (AI [(A+1),(A+2)]) a8 (Zn (Zn (HC 5 5005 91 2 (by decide) R)<|by exact AZ.cv (e':=[(0,qa B),(1,.agg<|Cp w),(3,pT 3 A),(4,cZ),(5,.own 5005<|A+1),(6,rB false),(8,qa B),(9,rL B),(10,rI 0)]) (h':=(OW A w (A+1) ([]:List AH))) ⟨jL,jL,jL,jL,jL,jL,jL,jL,jL,Za⟩ ⟨.inl R,.inl R,Za⟩ nL) wk) ?_
 intro l x2 F M v1 ah ai
 have h5:Qk B w l x2 F=some v1:=ah;unfold Qk at h5
 refine aU<|xS R<|Ar λaj=>cI R h5 (λh6=>?_) λh6=>?_
 .refine Zc<|aj _<|aS λak al U=>Zg<|Gj h6 λp2 an ao=>?_
  have J3:∀(m:Bool) (I:List AH) (i7:NN),p2=(m,I)->ak ⟨[(0,qa B),(3,pT 3 A),(5,.own 5005<|i7 0),(6,rB m),(9,rL B),(10,rI x2)],(OW A w (i7 0) I),(i7 1),52⟩:=by
   intro m I i7 e
   have h7:=ao _ _ e
   exact al _<|aR<|AE h7 λx4 aq h8=>xA R aq<|mM R<|Zh<|FL.mk h8 (AI [(i7 0),(i7 1)]) wk
  refine AK R<|AG R<|aS λar au V=>aT λav=>?_
  refine Zz BP (by kernel_rfl) ?_
  refine qP R (AM R iL)<|qP R (BC R iL)<|qP R (AM R iL)<|qO R (AM R iL)<|qO R (AM R iL)<|AE an λx5 aw h9=>qO R (BN R BK.slice (iR R) (iR R) (λ_=>R)<|Af aw)<|qO R (BL R Ep<|iR R)<|qO R (Bm (d:=.str x5.Name) R BO (iR R) R)<|qO R (fB R Ep iL fR R)<|qO R (Ab (a:=rS w.Name) R BO (iR R) R R)<|qO R (U6 R (iR R)<|iR R)<|qP R (BZ R iL<|iR R)<|AQ.nil<|av _<|Gj h9 λp3 ac ax=>?_
  have J4:∀(q:Bool) (J:List AH) (i8:NN),p3=(q,J)->ar ⟨[(0,qa B),(3,pT 3 A),(5,.own 5005<|i8 0),(6,rB q),(7,rI x2),(9,rL B),(10,rI x2)],(OW A w (i8 0) J),(i8 1),52⟩:=by
   intro q J i8 e
   have ay:=ax _ _ e
   refine au _<|aT λaz=>?_
   refine Zz BP (by kernel_rfl) ?_
   refine qP R (AM R iL)<|qP R (AM R iL)<|AE ay λx6 ad b0=>qP R (BN R BK.slice iL iL (λ_=>R) λ_=>ad)<|qP R (BL R Ep iL)<|qP R (Bm (d:=.str x6.Name) R BO iL R)<|qP R (fB R Ep iL fR R)<|qP R (Ab (a:=rS w.Name) R BO iL R R)<|qP R (D7 R iL iL)<|AQ.nil<|az _<|cI R b0 (λa0=>?_) λa0=>?_
   .exact Ah R<|mM R<|mM R<|xI BK R ad<|xB ((Cp x6)) E3 R<|sS R (CA 42 R BK (f:=AH.row) (l:=([x6]:List AH)) ⟨R,⟨_,iL,R⟩,Za⟩ R (λ_=>R) R)<|AE a0 λb5 a2 b1=>sS R (DN R BK iL R (.inr<|.inl ⟨_,_,iL,R⟩) a2)<|mA R<|Zh<|U _ _ wk<|J3 _ _ (AI [((i8 1)+1),((i8 1)+2)]) (Zf b1).symm
   exact Zc<|U _ _ wk<|J3 _ _ (AI [(i8 0),(i8 1)]) (Zf a0).symm
  refine aC R (λa6=>?_) λa6=>?_
  .have a7:=D2 a6 ac
   refine AK R<|xC E3 R<|sS R (CA 27 R BK (f:=AH.row) (l:=([w]:List AH)) ⟨R,⟨_,iL,R⟩,Za⟩ R (λ_=>R) R)<|AE a7 λb2 O b3=>sS R (DN R BK iL R (.inr<|.inl ⟨_,_,iL,R⟩) O)<|AG R<|aG [0,3,5,7,9,10] [3,5005] ?_
   exact aR<|mA R<|Zh<|V _ _ wk<|J4 _ _ (AI [((M 1)+1),((M 1)+2)]) (Zf b3).symm
  .have a7:=Dw a6 ac
   exact Zc<|V _ _ wk<|J4 _ _ (AI [(M 0),(M 1)]) (Zf a7).symm
 exact Zm<|ae _ _ wk<|J1 _ _ (AI [(M 0),(M 1)])<|xH ai h6
theorem pm{l1 c r}(h:NQ l1 c=some r):AY prog 158 [qa l1,qa c] (qa r):=by
 unfold NQ at h
 refine mF func158 ntmps158 R λn0=>aU<|AG R<|aU<|AG R<|aS λK3 c3 ah=>AK R<|xL BK R<|mM R<|aZ<|Zg<|Bb h λo1 a0 ai=>?_
 have J1:∀(E:List AH) (i5:NN),o1=E->K3 ⟨[(1,qa c),(5,qa E)],[],(i5 0),54⟩:=by
  intro E i5 e
  have h1:=ai _ e
  refine c3 _<|aS λK5 c5 aj=>AK R<|xL BK R<|mM R<|aZ<|Zg<|Bb h1 λo2 a1 ak=>?_
  have J2:∀(j:List AH) (C:NN),o2=j->K5 ⟨[(5,qa j)],[],(C 0),54⟩:=by
   intro j C e
   have h2:=ak _ e
   refine c5 _<|aU<|AG R<|aS λK8 c8 al=>AK R<|xL BK R<|mM R<|aZ<|Zg<|Bb h2 λo3 a2 an=>?_
   have J3:∀(m:List AH) (F:NN),o3=m->K8 ⟨[(8,.own 5008<|F 0)],(Rn (F 0) m),(F 1),54⟩:=by
    intro m F e
    have h3:=an _ e
    exact c8 _<|AK R<|AG R<|Zj<|C3 (P:=prog) (λ(r:(List AH))=>qa r) h3 iL<|.t<|.one<|.own R
   refine C0 (λ(x8:Int) (q:List AH) l=>⟨[(5,qa j),(8,.own 5008<|l 0),(35,rL j),(36,rI x8)],(Rn (l 0) q),(l 1),54⟩) (AI [(C 0),((C 0)+1)]) a2 (Zn (Zn (HC 8 5008 91 2 (by decide) R)<|by exact AZ.cv (e':=[(5,qa j),(8,.own 5008<|C 0),(34,qa j),(35,rL j),(36,rI 0)]) (h':=(Rn (C 0) ([]:List AH))) ⟨jL,jL,jL,jL,jL,Za⟩ ⟨.inl R,Za⟩ nL) wk) ?_
   intro x8 q l v1 ao aq
   have h4:Of j x8 q=some v1:=ao;unfold Of at h4
   refine aU<|xS R<|Ar λar=>cI R h4 (λh5=>?_) λh5=>?_
   .refine Zc<|ar _<|aS λau av M=>Zg<|Bb h5 λp1 aw ax=>?_
    have J4:∀(w:List AH) (i16:NN),p1=w->au ⟨[(5,qa j),(8,.own 5008<|i16 0),(35,rL j),(36,rI x8)],(Rn (i16 0) w),(i16 1),54⟩:=by
     intro w i16 e
     have h6:=ax _ e
     exact av _<|aR<|AE h6 λbe a6 h7=>xA R a6<|mM R<|Zh<|ZE h7 (AI [(i16 0),(i16 1)]) wk
    refine AK R<|AG R<|AK R<|mM R<|AE aw λT O h8=>xI BK R O<|sQ R (BL R Jd iL)<|xV (.str T.Value) BO R<|sQ R (D7 R iL iL)<|aZ<|cI R h8 (λh9=>?_) λh9=>?_
    .exact Ah R<|mM R<|mM R<|xI BK R O<|xB ((Cp T)) E3 R<|sS R (CA 50 R BK (f:=AH.row) (l:=([T]:List AH)) ⟨R,⟨_,iL,R⟩,Za⟩ R (λ_=>R) R)<|AE h9 λay I az=>sS R (DN R BK iL R (.inr<|.inl ⟨_,_,iL,R⟩) I)<|mA R<|Zh<|M _ _ wk<|J4 _ (AI [((l 1)+1),((l 1)+2)]) (Zf az).symm
    exact Zc<|M _ _ wk<|J4 _ (AI [(l 0),(l 1)]) (Zf h9).symm
   exact Zm<|al _ _ wk<|J3 _ (AI [(l 0),(l 1)])<|xH aq h5
  refine C0 (λ(A:List AH) (x5:Int) i8=>⟨[(1,qa c),(5,qa A),(23,rL c),(24,rI x5)],[],(i8 0),54⟩) (AI [(i5 0)]) a1 wk ?_
  intro A x5 i8 v2 b0 b1
  have a7:QI c A x5=some v2:=b0;unfold QI at a7
  refine aU<|xS R<|Ar λb2=>cI R a7 (λU=>?_) λU=>?_
  .refine Zc<|b2 _<|aT λb3=>Zg<|AK R<|AG R<|Ah R<|mM R<|mM R<|AE U λa8 aa b4=>xI BK R aa<|xB ((Cp a8)) E3 R<|AE b4 λab V b5=>sS R (Dz (r:=qa ab) (caps:=[]) (bs:=[qa A,.agg<|Cp a8]) R iL R ⟨.inl ⟨iL,R⟩,.inl ⟨iL,R⟩,Za⟩ λ_=>Xm<|V)<|AG R<|b3 _<|aF [1,5,23,24] ?_
   exact aR<|AE b5 λbf ac b6=>xA R ac<|mM R<|Zh<|ZE b6 (AI [(i8 0)]) wk
  exact Zm<|aj _ _ wk<|J2 _ (AI [(i8 0)])<|xH b1 U
 refine C0 (λ(B:List AH) (x2:Int) i3=>⟨[(0,qa l1),(1,qa c),(5,qa B),(11,rL l1),(12,rI x2)],[],(i3 0),54⟩) (AI [n0]) a0 ((by exact AZ.cv ⟨jL,jL,.inl<|.inr<|.inr ⟨R,R⟩,jL,jL,Za⟩ Za nL)) ?_
 intro B x2 i3 v3 b7 b8
 have ad:Pr l1 B x2=some v3:=b7;unfold Pr at ad
 refine aU<|xS R<|Ar λb9=>cI R ad (λX=>?_) λX=>?_
 .refine Zc<|b9 _<|aT λba=>Zg<|AK R<|AG R<|Ah R<|mM R<|mM R<|AE X λae af bb=>xI BK R af<|xB ((Cp ae)) E3 R<|AE bb λZ J bc=>sS R (Dz (r:=qa Z) (caps:=[]) (bs:=[qa B,.agg<|Cp ae]) R iL R ⟨.inl ⟨iL,R⟩,.inl ⟨iL,R⟩,Za⟩ λ_=>Xm<|J)<|AG R<|ba _<|aF [0,1,5,11,12] ?_
  exact aR<|AE bc λbg ag bd=>xA R ag<|mM R<|Zh<|ZE bd (AI [(i3 0)]) wk
 exact Zm<|ah _ _ wk<|J1 _ (AI [(i3 0)])<|xH b8 X
theorem kf{w i a r}(h:MV w i a=some r):AY prog 159 [qg w,rI i,rI a] (rB r):=by
 unfold MV at h
 refine mF func159 ntmps159 R λn0=>aU<|AG R<|aS λK2 c2 B=>AK R<|xL BV R<|AE h λZ C h1=>xA R C<|mM R<|aZ<|Zg<|BU h1 λo1 m E q=>?_
 have J1:∀(u2:Unit) (i5:NN),o1=.nrm u2->K2 ⟨[],[],(i5 0),27⟩:=by
  intro u2 i5 e
  have h2:=E _ e
  exact c2 _<|zB h2 R id
 refine C0 (λ(j:Int) (F:Int) A=>⟨[(0,qg w),(1,rI j),(2,rI a),(10,rI Z),(11,rI F)],[],(A 0),27⟩) (AI [n0]) m wk ?_
 intro j F A v1 I l
 have h3:Gw w a Z j F=some v1:=I;unfold Gw at h3
 refine aU<|xS R<|Ar λc6=>cI R h3 (λJ=>?_) λJ=>?_
 .refine Zc<|c6 _<|aT λc7=>Zg<|aT λc8=>AK R<|mM R<|xQ R<|aZ<|cI R J (λM=>?_) λM=>?_
  .exact zB (q _<|xH l M) R id
  refine Zc<|c8 _<|AK R<|mM R<|AE M λi6 O h6=>cL (Pz<|O) R<|AG R<|aT λT=>AK R<|xS R<|aZ<|cI R h6 (λU=>?_) λU=>?_
  .exact zB (q _<|xH l U) R id
  refine Zc<|T _<|aF [0,2,7,10,11] ?_
  exact Ah R<|mM R<|AE U λx5 V h8=>xI BV R V<|sQ R (BL R MU iL)<|xV (.int .i64 x5.Parent) AJ R<|AG R<|c7 _<|aR<|AE h8 λx6 X h9=>xA R X<|mM R<|Zh<|ZE h9 (AI [(A 0)]) wk
 exact Zm<|B _ _ wk<|J1 _ (AI [(A 0)])<|xH l J
theorem pU{I r}(h:NM I=some r):AY prog 114 [qf I] (.tup [qg r.1,qg r.2]):=by
 unfold NM at h
 refine mF func114 ntmps114 R λn0=>aU<|mA R<|AG R<|aU<|mA R<|AG R<|aS λK3 c3 b0=>AK R<|xL FQ R<|mM R<|aZ<|Zg<|Gj h λo1 an b1=>?_
 have J1:∀(q:List AC) (l:List AC) (V:NN),o1=(q,l)->K3 ⟨[(4,.own 5004<|V 0),(5,.own 5005<|V 1)],(LQ (V 0) q (V 1) l),(V 2),121⟩:=by
  intro q l V e
  have h1:=b1 _ _ e
  refine c3 _<|aS λK5 c5 b2=>AK R<|sQ R (H1 R BV.slice iL R)<|mM R<|aZ<|Zg<|Bb h1 λo2 ao b3=>?_
  have J2:∀(J:List AC) (a8:NN),o2=J->K5 ⟨[(4,.own 5004<|a8 0),(5,.own 5005<|V 1)],(LQ (a8 0) J (V 1) l),(a8 1),121⟩:=by
   intro J a8 e
   have h2:=b3 _ e
   exact c5 _<|AK R<|mM R<|mA R<|AG R<|Zj<|EI (P:=prog) (λ(r:(List AC) × (List AC))=>qg r.1) (λ(r:(List AC) × (List AC))=>qg r.2) h2 iL (.t<|.one<|.own R)<|.t<|.one<|.own R
  refine C0 (λ(x5:Int) (M:List AC) i8=>⟨[(4,.own 5004<|i8 0),(5,.own 5005<|V 1),(96,rL q),(97,rI x5)],(LQ (i8 0) M (V 1) l),(i8 1),121⟩) (AI [(V 0),(V 2)]) ao wk ?_
  intro x5 M i8 v1 b4 b5
  have h3:J8 q l x5 M=some v1:=b4;unfold J8 at h3
  refine aU<|xS R<|Ar λc9=>cI R h3 (λh4=>?_) λh4=>?_
  .refine Zc<|c9 _<|aS λb6 b7 ab=>Zg<|Bb h4 λp1 b8 b9=>?_
   have J3:∀(O:List AC) (Z:NN),p1=O->b6 ⟨[(4,.own 5004<|Z 0),(5,.own 5005<|V 1),(96,rL q),(97,rI x5)],(LQ (Z 0) O (V 1) l),(Z 1),121⟩:=by
    intro O Z e
    have h5:=b9 _ e
    exact b7 _<|aR<|AE h5 λx7 ba h6=>xA R ba<|mM R<|Zh<|ZE h6 (AI [(Z 0),(Z 1)]) wk
   refine AK R<|AG R<|AK R<|mM R<|mM R<|AE b8 λx8 aa h7=>sQ R (EE R BV.slice iL R iL λ_=>aa)<|sQ R (CO (ob:=.arr _ _ _ _) R Ef iL fR R)<|sQ R (KO (d:=.int .i64 x8.Item) R AJ iL fR (λ_=>aa) R)<|AE h7 λk1 bb h8=>cL (Pz<|bb) R<|AG R<|aT λbc=>aG [4,5,10,11,96,97] [5004,5005] ?_
   refine Ah R<|sQ R (DE R iL iL)<|aZ<|bc _<|cI R h8 (λh9=>?_) λh9=>?_
   .exact Ah R<|mM R<|mM R<|mM R<|AE h9 λx9 aq bd=>sQ R (EE R BV.slice iL R iL λ_=>aq)<|sQ R (CO (ob:=.arr _ _ _ _) R Kk iL fR R)<|sQ R (KO (d:=.sl<|x9.Attrs.map AH.row) R Cq iL fR (λ_=>aq) R)<|sQ R (EE R BV.slice iL R iL λ_=>aa)<|sQ R (CO (ob:=.arr _ _ _ _) R Kk iL fR R)<|Zk R R (Ow (v:=(AC.mk x8.Item x8.Parent x8.Place x9.Attrs)) R Ls iL R aa iL R R R R)<|Zh<|ab _ _ wk<|J3 _ (AI [(i8 0),(i8 1)]) (Zf bd).symm
   exact Zc<|ab _ _ wk<|J3 _ (AI [(i8 0),(i8 1)]) (Zf h9).symm
  exact Zm<|b2 _ _ wk<|J2 _ (AI [(i8 0),(i8 1)])<|xH b5 h4
 refine IE (λ(x2:Int) (w:List AC) (B:List AC) m=>⟨[(0,qf I),(4,.own 5004<|m 0),(5,.own 5005<|m 1),(13,rL I),(14,rI x2)],(LQ (m 0) w (m 1) B),(m 2),121⟩) (AI [n0,(n0+1),(n0+2)]) an (Zn (Zn (HC 4 5004 133 4 (by decide) R)<|by exact AZ.cv (e':=[(0,qf I),(2,cZ),(3,cZ),(4,.own 5004 n0),(5,cZ),(12,qf I),(13,rL I),(14,rI 0)]) (h':=[aX 5004 n0 133 4<|([]:List AC).map AC.row]) ⟨jL,jL,jL,jL,jL,jL,jL,jL,Za⟩ ⟨.inl R,Za⟩ nL)<|Zn (Zn (HC 5 5005 133 4 (by decide) R)<|by exact AZ.cv (e':=[(0,qf I),(2,cZ),(3,cZ),(4,.own 5004 n0),(5,.own 5005<|n0+1),(12,qf I),(13,rL I),(14,rI 0)]) (h':=(LQ n0 ([]:List AC) (n0+1) ([]:List AC))) ⟨jL,jL,jL,jL,jL,jL,jL,jL,Za⟩ ⟨.inl R,.inl R,Za⟩ nL) wk) ?_
 intro x2 w B m v2 be bf
 have ar:Jc I x2 w B=some v2:=be;unfold Jc at ar
 refine aU<|xS R<|Ar λbg=>cI R ar (λaf=>?_) λaf=>?_
 .refine Zc<|bg _<|aS λbh bi a6=>Zg<|Gj af λp2 bj bk=>?_
  have J4:∀(E:List AC) (T:List AC) (U:NN),p2=(E,T)->bh ⟨[(0,qf I),(4,.own 5004<|U 0),(5,.own 5005<|U 1),(13,rL I),(14,rI x2)],(LQ (U 0) E (U 1) T),(U 2),121⟩:=by
   intro E T U e
   have bl:=bk _ _ e
   exact bi _<|aR<|AE bl λck au bm=>xA R au<|mM R<|Zh<|FL.mk bm (AI [(U 0),(U 1),(U 2)]) wk
  refine AK R<|AG R<|AK R<|mM R<|AE bj λj av bn=>xI FQ R av<|xB ((CV j)) IK R<|sS R (BT (cs:=TE) 7 R Te R R)<|Zk R R (BF (ds:=(CV j)) R RI iL R iL R R R R)<|Ar λbo=>aU<|lF F2 AJ R R<|xQ R<|aZ<|cI R bn (λag=>?_) λag=>?_
  .refine aT λbp=>aG [0,4,5,7,13,14] [7,5004,5005] ?_
   refine Ah R<|lF Fb AJ R R<|AE ag λk2 bq br=>cL (Pz<|bq) R<|AG R<|bp _<|aS λbs bt ac=>AK R<|xS R<|aZ<|Gj br λp3 aw bu=>?_
   have J5:∀(k3:Int) (C:List AC) (A:NN),p3=(k3,C)->bs ⟨[(0,qf I),(4,.own 5004<|m 0),(5,.own 5005<|A 0),(7,pT 7<|m 2),(8,rI k3),(13,rL I),(14,rI x2)],(Uj (m 2) j (m 0) w (A 0) C),(A 1),121⟩:=by
    intro k3 C A e
    have bv:=bu _ _ e
    refine bt _<|aT λbw=>?_
    refine Xa [0,1] [2,3,4,5,6,7,8,9,10,11] [12] 13 BP (by kernel_rfl) R R R R R ?_
    refine Fj.move R R R R<|Fj.move R R R R<|Fj.nil<|AF.step R R R (AM R iL)<|AF.step R R R (AM R iL)<|AE bv λa0 X bx=>AF.step R R R (EE R BV.slice iL R iL λ_=>X)<|AF.step R R R (CO (ob:=.arr _ _ _ _) R Kk iL fR R)<|AF.step R R R (KO (d:=.sl<|a0.Attrs.map AH.row) R Cq iL fR (λ_=>X) R)<|AF.step R R R (fB R Mt iL fR R)<|AF.step R R R (Ab (a:=rS j.Name) R BO iL R R)<|AF.step R R R (fB R JE iL fR R)<|AF.step R R R (Ab (a:=rS j.Value) R BO iL R R) ?_
    refine AF.step R R R (Ch R TA (q:=[(0,_),(1,_)]) (by exact⟨R,R,R,iL,R,R,R,iL,Za⟩) (cs:=[rS j.Name,rS j.Value])<|by rfl) ?_
    refine AF.nil<|AA.step R R R (dI 50 R BK (f:=AH.row) (l:=([(AH.mk j.Name j.Value)]:List AH)) ⟨R,⟨_,iL,R⟩,Za⟩ R (λ_=>R) R)<|AA.nil ?_
    refine AN.weak (by exact AZ.frz (e':=[(0,qf I),(4,.own 5004<|m 0),(5,.own 5005<|A 0),(7,pT 7<|m 2),(8,rI k3),(13,rL I),(14,rI x2),(38,.own 5005<|A 0),(39,rI k3),(40,.own 5005<|A 0),(41,rI k3),(42,.ptr 5005 (A 0) k3.toNat 0),(43,.ptr 5005 (A 0) k3.toNat 3),(44,qa a0.Attrs),(45,.ptr 7 (m 2) 0 6),(46,rS j.Name),(47,.ptr 7 (m 2) 0 7),(48,rS j.Value),(49,.agg [rS j.Name,rS j.Value]),(50,.r<|.sl<|[(AH.mk j.Name j.Value)].map AH.row)]) (h':=(Uj (m 2) j (m 0) w (A 0) C)) 50 R ⟨jL,jL,jL,jL,jL,jL,jL,jL,jL,jL,jL,jL,jL,jL,jL,jL,jL,jL,jL,.inl<|.inr<|.inr ⟨R,R⟩,Za⟩ ⟨R,.inl R,R,.inl R,R,.inl R,Za⟩) ?_
    exact AE bx λr1 bz c0=>sS R (Dz (r:=qa r1) (caps:=[]) (bs:=[qa a0.Attrs,.r<|.sl<|[(AH.mk j.Name j.Value)].map AH.row]) R iL R ⟨.inl ⟨iL,R⟩,.inl ⟨iL,R⟩,Za⟩ λ_=>pm<|bz)<|sQ R (EE R BV.slice iL R iL λ_=>X)<|sQ R (CO (ob:=.arr _ _ _ _) R Kk iL fR R)<|Zk R R (Ow (v:=(AC.mk a0.Item a0.Parent a0.Place r1)) R Ls iL R X iL R R R R)<|aZ<|bw _<|Zm<|a6 _ _ wk<|J4 _ _ (AI [(m 0),(A 0),((A 1)+1)]) (Zf c0).symm
   refine aC R (λah=>?_) λah=>?_
   .have ai:=D2 ah aw
    refine AK R<|sQ R (H1 R BV.slice iL R)<|AG R<|Ah R<|lF Fb AJ R R ?_
    refine sQ R (Ch R RA (q:=[(0,_)]) (by exact⟨R,R,R,iL,Za⟩) (cs:=[rI j.Item,rI 0,.r<|.str [],cZ])<|by rfl) ?_
    exact sS R (CA 36 R BV (f:=AC.row) (l:=([(AC.mk j.Item 0 [] [])]:List AC)) ⟨R,⟨_,iL,R⟩,Za⟩ R (λ_=>R) R)<|AE ai λaz a7 c1=>sS R (DN R BV iL R (.inr<|.inl ⟨_,_,iL,R⟩) a7)<|mA R<|Zh<|ac _ _ wk<|J5 _ _ (AI [((m 2)+2),((m 2)+3)]) (Zf c1).symm
   .have ai:=Dw ah aw
    exact Zc<|ac _ _ wk<|J5 _ _ (AI [(m 1),((m 2)+1)]) (Zf ai).symm
  refine Zc<|bo _<|aT λc2=>aT λc4=>aG [0,4,5,7,13,14] [7,5004,5005] ?_
  refine aR<|lF Gx AJ R R<|lF Fb AJ R R<|xQ R<|mM R<|vF Gx AJ R R<|vQ R (Bd R (iR R) iL)<|vQ R (AM R<|iR R)<|wQ R (AM R iL)<|wQ R (fB R Gx iL fR R)<|wQ R (Ab (a:=rI j.Parent) R AJ (iR R) R R)<|wQ R (fB R Fb iL fR R)<|wQ R (Ab (a:=rI j.Item) R AJ (iR R) R R)<|AE ag λr2 c6 c7=>AN.stepW (.two R R R) R R (Db (r:=rB r2) (caps:=[]) (bs:=[qg w,rI j.Parent,rI j.Item]) R iL R ⟨⟨_,(iR R),.one<|.own R⟩,⟨_,(iR R),.d R⟩,⟨_,(iR R),.d R⟩,Za⟩ (λhg=>kf<|Af c6 hg) R)<|vQ R (BZ R (iR R)<|iR R)<|xO R<|aZ<|c4 _<|cI R c7 (λaj=>?_) λaj=>?_
  .exact Zm<|a6 _ _ wk<|J4 _ _ (AI [(m 0),(m 1),((m 2)+1)]) (Zf aj).symm
  refine Zc<|c2 _<|AK R<|lF Fb AJ R R<|AE aj λk4 c8 ca=>cL (Pz<|c8) R<|AG R<|aS λcb cc ad=>aT λcd=>aG [0,4,5,7,9,13,14] [7,5004,5005] ?_
  refine Ah R<|xS R<|aZ<|cd _<|Gj ca λp4 ax cf=>?_
  have J6:∀(k5:Int) (F:List AC) (a1:NN),p4=(k5,F)->cb ⟨[(0,qf I),(4,.own 5004<|a1 0),(5,.own 5005<|m 1),(7,pT 7<|m 2),(9,rI k5),(13,rL I),(14,rI x2)],(Uj (m 2) j (a1 0) F (m 1) B),(a1 1),121⟩:=by
   intro k5 F a1 e
   have cg:=cf _ _ e
   refine cc _<|Ah R<|mM R<|lF Fb AJ R R<|lF Gx AJ R R<|lF Nn BO R R ?_
   refine sQ R (Ch R RA (q:=[(0,_),(1,_),(2,_)]) (by exact⟨R,R,R,iL,R,R,R,iL,R,R,R,iL,Za⟩) (cs:=[rI j.Item,rI j.Parent,rS j.Place,cZ])<|by rfl) ?_
   exact AE cg λcl ae ch=>sQ R (EE R BV.slice iL R iL λ_=>ae)<|Zk R R (Ud (v:=(AC.mk j.Item j.Parent j.Place [])) R MP iL R ae iL R R R R)<|Zh<|a6 _ _ wk<|J4 _ _ (AI [(a1 0),(m 1),(a1 1)]) (Zf ch).symm
  refine aC R (λak=>?_) λak=>?_
  .have al:=D2 ak ax
   refine AK R<|sQ R (H1 R BV.slice iL R)<|AG R<|Ah R ?_
   refine sQ R (Ch R RA (q:=[]) (by exact Za) (cs:=M8)<|by rfl) ?_
   exact sS R (CA 82 R BV (f:=AC.row) (l:=([(AC.mk 0 0 [] [])]:List AC)) ⟨R,⟨_,iL,R⟩,Za⟩ R (λ_=>R) R)<|AE al λay a2 cj=>sS R (DN R BV iL R (.inr<|.inl ⟨_,_,iL,R⟩) a2)<|mA R<|Zh<|ad _ _ wk<|J6 _ _ (AI [((m 2)+2),((m 2)+3)]) (Zf cj).symm
  .have al:=Dw ak ax
   exact Zc<|ad _ _ wk<|J6 _ _ (AI [(m 0),((m 2)+1)]) (Zf al).symm
 exact Zm<|b0 _ _ wk<|J1 _ _ (AI [(m 0),(m 1),(m 2)])<|xH bf af
end Go.Proofs.YtcgleifameckmaaGreatDoor.Al
