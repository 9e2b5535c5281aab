/- Walks, as printed. -/
import Derived.Test.YtmogkkigacadpaaGreatDoorPL2
import Derived.Test.YtmogkkigacadpaaGreatDoorProg
set_option linter.all false
set_option maxHeartbeats 4000000
set_option maxRecDepth 20000
set_option linter.unusedVariables false
namespace Go.Proofs.YtmogkkigacadpaaGreatDoor.Al
open Go.Proofs Go.Proofs.Tryz
@[reducible] noncomputable def CB t:=(prog.info? t).map (λi=>(i.zero,i.size,i.bytes))
theorem BY:prog.follows .mixedOrders=true:=by kernel_rfl
theorem Ng:CB 103=some (some<|.agg #[.int .i64 0,.int .i64 0,.string ⟨#[]⟩,.slice none 0 0],4,56):=by kernel_rfl
theorem N1:CB 123=some (some<|.agg #[.string ⟨#[]⟩,.string ⟨#[]⟩],2,32):=by kernel_rfl
theorem Oq:CB 129=some (some<|.agg #[.int .i64 0,.int .i64 0,.int .i64 0,.int .i64 0,.int .i64 0,.string ⟨#[]⟩,.string ⟨#[]⟩,.string ⟨#[]⟩],8,88):=by kernel_rfl
theorem RC:CB 146=some (some<|.map none,1,8):=by kernel_rfl
theorem Uo:CB 147=some (some<|.map none,1,8):=by kernel_rfl
theorem UN:CB 148=some (some<|.map none,1,8):=by kernel_rfl
theorem YE:CB 150=some (some<|.agg #[.map none,.map none],2,16):=by kernel_rfl
theorem gc:CB 151=some (some<|.pointer none,1,8):=by kernel_rfl
theorem SW:CB 152=some (some<|.nilFunc,1,8):=by kernel_rfl
theorem O1:CB 204=some (some<|.agg #[.int .u8 0,.int .u8 0],2,2):=by kernel_rfl
theorem Qi:CB 22=some (some<|.slice none 0 0,1,24):=by kernel_rfl
theorem Pe:CB 24=some (some<|.agg #[.slice none 0 0],1,24):=by kernel_rfl
theorem Sp:CB 26=some (some<|.slice none 0 0,1,24):=by kernel_rfl
theorem Co:CB 3=some (some<|.int .i64 0,1,8):=by kernel_rfl
theorem R3:CB 38=some (some<|.agg #[.int .i64 0,.int .i64 0,.bool false],3,24):=by kernel_rfl
theorem Jt:CB 39=some (some<|.slice none 0 0,1,24):=by kernel_rfl
theorem OY:CB 4=some (some<|.bool false,1,1):=by kernel_rfl
theorem SM:CB 40=some (some<|.slice none 0 0,1,24):=by kernel_rfl
theorem RB:CB 41=some (some<|.slice none 0 0,1,24):=by kernel_rfl
theorem R0:CB 42=some (some<|.slice none 0 0,1,24):=by kernel_rfl
theorem Nb:CB 44=some (some<|.agg #[.int .i64 0,.int .i64 0,.slice none 0 0,.slice none 0 0],4,64):=by kernel_rfl
theorem R7:CB 45=some (some<|.slice none 0 0,1,24):=by kernel_rfl
theorem Li:CB 47=some (some<|.agg #[.int .i64 0,.int .i64 0,.slice none 0 0,.slice none 0 0,.int .i64 0,.int .i64 0,.slice none 0 0,.slice none 0 0,.slice none 0 0],9,152):=by kernel_rfl
theorem Oy:CB 5=some (some<|.int .u8 0,1,1):=by kernel_rfl
theorem Ku:CB 60=some (some<|.agg #[.int .i64 0,.int .i64 0,.slice none 0 0],3,40):=by kernel_rfl
theorem Vz:CB 66=some (some<|.agg #[.int .i64 0,.int .i64 0,.bool false],3,24):=by kernel_rfl
theorem Re:CB 67=some (some<|.nilFunc,1,8):=by kernel_rfl
theorem SI:CB 68=some (some<|.map none,1,8):=by kernel_rfl
theorem QE:CB 84=some (some<|.agg #[.int .i64 0,.int .i64 0,.string ⟨#[]⟩,.int .i64 0,.slice none 0 0],5,64):=by kernel_rfl
theorem Ly:CB 86=some (some<|.agg #[.int .i64 0,.int .i64 0,.int .i64 0,.int .i64 0],4,32):=by kernel_rfl
theorem Ih:CB 9=some (some<|.string ⟨#[]⟩,1,16):=by kernel_rfl
theorem Qx:CB 97=some (some<|.slice none 0 0,1,24):=by kernel_rfl
theorem MB:Be prog 103 (.agg #[.int .i64 0,.int .i64 0,.string ⟨#[]⟩,.slice none 0 0]):=Be.of Ng
theorem Wh:Be prog 123 (.agg #[.string ⟨#[]⟩,.string ⟨#[]⟩]):=Be.of N1
theorem PL:Be prog 129 (.agg #[.int .i64 0,.int .i64 0,.int .i64 0,.int .i64 0,.int .i64 0,.string ⟨#[]⟩,.string ⟨#[]⟩,.string ⟨#[]⟩]):=Be.of Oq
theorem ZN:Be prog 146 (.map none):=Be.of RC
theorem fC:Be prog 151 (.pointer none):=Be.of gc
theorem fh:Be prog 152 (.nilFunc):=Be.of SW
theorem bI:Be prog 204 (.agg #[.int .u8 0,.int .u8 0]):=Be.of O1
theorem Ij:Be prog 24 (.agg #[.slice none 0 0]):=Be.of Pe
theorem iZ:Be prog 26 (.slice none 0 0):=Be.of Sp
theorem Sb:Be prog 39 (.slice none 0 0):=Be.of Jt
theorem Ou:Be prog 4 (.bool false):=Be.of OY
theorem Ye:Be prog 44 (.agg #[.int .i64 0,.int .i64 0,.slice none 0 0,.slice none 0 0]):=Be.of Nb
theorem HJ:Be prog 47 (.agg #[.int .i64 0,.int .i64 0,.slice none 0 0,.slice none 0 0,.int .i64 0,.int .i64 0,.slice none 0 0,.slice none 0 0,.slice none 0 0]):=Be.of Li
theorem NA:Be prog 60 (.agg #[.int .i64 0,.int .i64 0,.slice none 0 0]):=Be.of Ku
theorem iK:Be prog 67 (.nilFunc):=Be.of Re
theorem Sr:Be prog 68 (.map none):=Be.of SI
theorem Hx:Be prog 84 (.agg #[.int .i64 0,.int .i64 0,.string ⟨#[]⟩,.int .i64 0,.slice none 0 0]):=Be.of QE
theorem Hq:Be prog 86 (.agg #[.int .i64 0,.int .i64 0,.int .i64 0,.int .i64 0]):=Be.of Ly
theorem Ol:Be prog 97 (.slice none 0 0):=Be.of Qx
theorem dM:prog.underlying 117=some (.interface<|prog.methodsAt 117):=by kernel_rfl
theorem GE:Bd prog 103 4:=Bd.of underlying103 rfl Ng
theorem D5:Bd prog 123 2:=Bd.of underlying123 rfl N1
theorem GG:Bd prog 129 8:=Bd.of underlying129 rfl Oq
theorem ek:Bd prog 204 2:=Bd.of underlying204 rfl O1
theorem CG:Bd prog 24 1:=Bd.of underlying24 rfl Pe
theorem bO:Bd prog 38 3:=Bd.of underlying38 rfl R3
theorem Gb:Bd prog 44 4:=Bd.of underlying44 rfl Nb
theorem Cs:Bd prog 47 9:=Bd.of underlying47 rfl Li
theorem Hc:Bd prog 60 3:=Bd.of underlying60 rfl Ku
theorem jP:Bd prog 66 3:=Bd.of underlying66 rfl Vz
theorem EO:Bd prog 84 5:=Bd.of underlying84 rfl QE
theorem Cp:Bd prog 86 4:=Bd.of underlying86 rfl Ly
theorem dm:Gl 2=some (Fl.flatMap<|Ad .u8):=by kernel_rfl
theorem fi:Gl 3=some (Od.flatMap Hi.row):=by kernel_rfl
theorem QH:Cz prog 103 [(0,1),(1,1),(2,1),(3,1)] [.int .i64 0,.int .i64 0,.string ⟨#[]⟩,.slice none 0 0]:=Cz.of underlying103 (λw=>by kernel_rfl) Ng
theorem Pk:Cz prog 123 [(0,1),(1,1)] [.string ⟨#[]⟩,.string ⟨#[]⟩]:=Cz.of underlying123 (λw=>by kernel_rfl) N1
theorem ec:Cz prog 150 [(0,1),(1,1)] [.map none,.map none]:=Cz.of underlying150 (λw=>by kernel_rfl) YE
theorem P3:Cz prog 24 [(0,1)] [.slice none 0 0]:=Cz.of underlying24 (λw=>by kernel_rfl) Pe
theorem PE:Cz prog 38 [(0,1),(1,1),(2,1)] [.int .i64 0,.int .i64 0,.bool false]:=Cz.of underlying38 (λw=>by kernel_rfl) R3
theorem dW:Cz prog 44 [(0,1),(1,1),(2,1),(3,1)] [.int .i64 0,.int .i64 0,.slice none 0 0,.slice none 0 0]:=Cz.of underlying44 (λw=>by kernel_rfl) Nb
theorem P4:Cz prog 47 [(0,1),(1,1),(2,1),(3,1),(4,4),(8,1)] [.int .i64 0,.int .i64 0,.slice none 0 0,.slice none 0 0,.int .i64 0,.int .i64 0,.slice none 0 0,.slice none 0 0,.slice none 0 0]:=Cz.of underlying47 (λw=>by kernel_rfl) Li
theorem NT:Cz prog 60 [(0,1),(1,1),(2,1)] [.int .i64 0,.int .i64 0,.slice none 0 0]:=Cz.of underlying60 (λw=>by kernel_rfl) Ku
theorem O2:Cz prog 66 [(0,1),(1,1),(2,1)] [.int .i64 0,.int .i64 0,.bool false]:=Cz.of underlying66 (λw=>by kernel_rfl) Vz
theorem Wp:Cz prog 86 [(0,1),(1,1),(2,1),(3,1)] [.int .i64 0,.int .i64 0,.int .i64 0,.int .i64 0]:=Cz.of underlying86 (λw=>by kernel_rfl) Ly
theorem TY:Gs prog 123 [some .string,some .string]:=Gs.of underlying123 (by kernel_rfl) (by kernel_rfl)<|by exact⟨rfl,rfl,underlying9,rfl,rfl,underlying9,trivial⟩
theorem eX:Gs prog 129 [some<|.int .i64,some<|.int .i64,some<|.int .i64,some<|.int .i64,some<|.int .i64,some .string,some .string,some .string]:=Gs.of underlying129 (by kernel_rfl) (by kernel_rfl)<|by exact⟨rfl,rfl,underlying3,rfl,rfl,underlying3,rfl,rfl,underlying3,rfl,rfl,underlying3,rfl,rfl,underlying3,rfl,rfl,underlying9,rfl,rfl,underlying9,rfl,rfl,underlying9,trivial⟩
theorem WY:Gs prog 86 [some<|.int .i64,some<|.int .i64,some<|.int .i64,some<|.int .i64]:=Gs.of underlying86 (by kernel_rfl) (by kernel_rfl)<|by exact⟨rfl,rfl,underlying3,rfl,rfl,underlying3,rfl,rfl,underlying3,rfl,rfl,underlying3,trivial⟩
theorem EG:Ap prog 103 0 0:=Ap.of underlying103 rfl rfl Co<|by decide
theorem LQ:Ap prog 103 1 1:=Ap.of underlying103 rfl rfl Co<|by decide
theorem Hj:Ap prog 103 2 2:=Ap.of underlying103 rfl rfl Ih<|by decide
theorem Jp:Ap prog 103 3 3:=Ap.of underlying103 rfl rfl Jt<|by decide
theorem EN:Ap prog 123 0 0:=Ap.of underlying123 rfl rfl Ih<|by decide
theorem II:Ap prog 123 1 1:=Ap.of underlying123 rfl rfl Ih<|by decide
theorem HC:Ap prog 129 0 0:=Ap.of underlying129 rfl rfl Co<|by decide
theorem Jv:Ap prog 129 1 1:=Ap.of underlying129 rfl rfl Co<|by decide
theorem FO:Ap prog 129 2 2:=Ap.of underlying129 rfl rfl Co<|by decide
theorem Ex:Ap prog 129 3 3:=Ap.of underlying129 rfl rfl Co<|by decide
theorem Fy:Ap prog 129 4 4:=Ap.of underlying129 rfl rfl Co<|by decide
theorem Kv:Ap prog 129 5 5:=Ap.of underlying129 rfl rfl Ih<|by decide
theorem Kf:Ap prog 129 6 6:=Ap.of underlying129 rfl rfl Ih<|by decide
theorem Ii:Ap prog 129 7 7:=Ap.of underlying129 rfl rfl Ih<|by decide
theorem SO:Ap prog 150 0 0:=Ap.of underlying150 rfl rfl Uo<|by decide
theorem Sx:Ap prog 150 1 1:=Ap.of underlying150 rfl rfl UN<|by decide
theorem eu:Ap prog 204 0 0:=Ap.of underlying204 rfl rfl Oy<|by decide
theorem jJ:Ap prog 204 1 1:=Ap.of underlying204 rfl rfl Oy<|by decide
theorem Bi:Ap prog 24 0 0:=Ap.of underlying24 rfl rfl Qi<|by decide
theorem LJ:Ap prog 38 0 0:=Ap.of underlying38 rfl rfl Co<|by decide
theorem So:Ap prog 38 2 2:=Ap.of underlying38 rfl rfl OY<|by decide
theorem Fc:Ap prog 44 0 0:=Ap.of underlying44 rfl rfl Co<|by decide
theorem Fp:Ap prog 44 1 1:=Ap.of underlying44 rfl rfl Co<|by decide
theorem Df:Ap prog 44 2 2:=Ap.of underlying44 rfl rfl RB<|by decide
theorem Dk:Ap prog 44 3 3:=Ap.of underlying44 rfl rfl R0<|by decide
theorem Cn:Ap prog 47 0 0:=Ap.of underlying47 rfl rfl Co<|by decide
theorem CO:Ap prog 47 1 1:=Ap.of underlying47 rfl rfl Co<|by decide
theorem Lj:Ap prog 47 2 2:=Ap.of underlying47 rfl rfl Jt<|by decide
theorem ET:Ap prog 47 3 3:=Ap.of underlying47 rfl rfl SM<|by decide
theorem Ds:Ap prog 47 4 4:=Ap.of underlying47 rfl rfl Nb<|by decide
theorem FX:Ap prog 47 5 8:=Ap.of underlying47 rfl rfl R7<|by decide
theorem Fh:Ap prog 60 0 0:=Ap.of underlying60 rfl rfl Co<|by decide
theorem DU:Ap prog 60 1 1:=Ap.of underlying60 rfl rfl Co<|by decide
theorem Nf:Ap prog 60 2 2:=Ap.of underlying60 rfl rfl Jt<|by decide
theorem Jf:Ap prog 66 0 0:=Ap.of underlying66 rfl rfl Co<|by decide
theorem Sa:Ap prog 66 2 2:=Ap.of underlying66 rfl rfl OY<|by decide
theorem EP:Ap prog 84 0 0:=Ap.of underlying84 rfl rfl Co<|by decide
theorem Ef:Ap prog 84 1 1:=Ap.of underlying84 rfl rfl Co<|by decide
theorem Gy:Ap prog 84 2 2:=Ap.of underlying84 rfl rfl Ih<|by decide
theorem Dj:Ap prog 84 3 3:=Ap.of underlying84 rfl rfl Co<|by decide
theorem FY:Ap prog 84 4 4:=Ap.of underlying84 rfl rfl Jt<|by decide
theorem CY:Ap prog 86 0 0:=Ap.of underlying86 rfl rfl Co<|by decide
theorem DB:Ap prog 86 1 1:=Ap.of underlying86 rfl rfl Co<|by decide
theorem GR:Ap prog 86 2 2:=Ap.of underlying86 rfl rfl Co<|by decide
theorem F4:Ap prog 86 3 3:=Ap.of underlying86 rfl rfl Co<|by decide
theorem BH:Bl prog 22 47 9 152:=Bl.of underlying22 Li rfl rfl<|by decide
theorem B0:Bl prog 26 3 1 8:=Bl.of underlying26 Co rfl rfl<|by decide
theorem OO:Bl prog 35 38 3 24:=Bl.of underlying35 R3 rfl rfl<|by decide
theorem A8:Bl prog 39 123 2 32:=Bl.of underlying39 N1 rfl rfl<|by decide
theorem Bx:Bl prog 40 60 3 40:=Bl.of underlying40 Ku rfl rfl<|by decide
theorem Bt:Bl prog 41 84 5 64:=Bl.of underlying41 QE rfl rfl<|by decide
theorem CQ:Bl prog 42 86 4 32:=Bl.of underlying42 Ly rfl rfl<|by decide
theorem Da:Bl prog 45 129 8 88:=Bl.of underlying45 Oq rfl rfl<|by decide
theorem BM:Bl prog 97 103 4 56:=Bl.of underlying97 Ng rfl rfl<|by decide
theorem UH:Gj prog 47 [.int .i64 0,.int .i64 0,.sl [],.sl [],.int .i64 0,.int .i64 0,.sl [],.sl [],.sl []]:=Gj.of Li rfl
theorem YZ:Gj prog 60 [.int .i64 0,.int .i64 0,.sl []]:=Gj.of Ku rfl
theorem QN:BO prog 146:=BO.of underlying146 rfl RC
theorem QX:BO prog 147:=BO.of underlying147 rfl Uo
theorem RL:BO prog 148:=BO.of underlying148 rfl UN
theorem VS:BO prog 152:=BO.of underlying152 rfl SW
theorem Bk:BO prog 22:=BO.of underlying22 rfl Qi
theorem dH:BO prog 26:=BO.of underlying26 rfl Sp
theorem AI:BO prog 3:=BO.of underlying3 rfl Co
theorem CP:BO prog 39:=BO.of underlying39 rfl Jt
theorem Kz:BO prog 4:=BO.of underlying4 rfl OY
theorem Ea:BO prog 40:=BO.of underlying40 rfl SM
theorem Dr:BO prog 41:=BO.of underlying41 rfl RB
theorem Dx:BO prog 42:=BO.of underlying42 rfl R0
theorem GL:BO prog 45:=BO.of underlying45 rfl R7
theorem Qw:BO prog 5:=BO.of underlying5 rfl Oy
theorem Lr:BO prog 67:=BO.of underlying67 rfl Re
theorem KH:BO prog 68:=BO.of underlying68 rfl SI
theorem BB:BO prog 9:=BO.of underlying9 rfl Ih
theorem Rt:BO prog 97:=BO.of underlying97 rfl Qx
theorem Yt:RY prog 202 256 5 1:=⟨underlying202,Cv Oy⟩
theorem YP:RY prog 205 16 204 2:=⟨underlying205,Cv O1⟩
theorem Kg:∃i,prog.info? 103=some i∧i.size=4:=Cv Ng
theorem We:∃i,prog.info? 123=some i∧i.size=2:=Cv N1
theorem P7:∃i,prog.info? 129=some i∧i.size=8:=Cv Oq
theorem XN:∃i,prog.info? 146=some i∧i.size=1:=Cv RC
theorem lg:∃i,prog.info? 152=some i∧i.size=1:=Cv SW
theorem iO:∃i,prog.info? 204=some i∧i.size=2:=Cv O1
theorem WS:∃i,prog.info? 22=some i∧i.size=1:=Cv Qi
theorem Hz:∃i,prog.info? 24=some i∧i.size=1:=Cv Pe
theorem Z5:∃i,prog.info? 26=some i∧i.size=1:=Cv Sp
theorem JK:∃i,prog.info? 39=some i∧i.size=1:=Cv Jt
theorem Yb:∃i,prog.info? 40=some i∧i.size=1:=Cv SM
theorem ft:∃i,prog.info? 41=some i∧i.size=1:=Cv RB
theorem iP:∃i,prog.info? 42=some i∧i.size=1:=Cv R0
theorem Ux:∃i,prog.info? 44=some i∧i.size=4:=Cv Nb
theorem fM:∃i,prog.info? 45=some i∧i.size=1:=Cv R7
theorem GS:∃i,prog.info? 47=some i∧i.size=9:=Cv Li
theorem KV:∃i,prog.info? 60=some i∧i.size=3:=Cv Ku
theorem jo:∃i,prog.info? 67=some i∧i.size=1:=Cv Re
theorem SE:∃i,prog.info? 68=some i∧i.size=1:=Cv SI
theorem Hw:∃i,prog.info? 84=some i∧i.size=5:=Cv QE
theorem GM:∃i,prog.info? 86=some i∧i.size=4:=Cv Ly
theorem TB:∃i,prog.info? 97=some i∧i.size=1:=Cv Qx
@[reducible] def qa(l:List AK):AV:=.r<|.sl<|l.map AK.row
@[reducible] def qb(l:List AG):AV:=.r<|.sl<|l.map AG.row
@[reducible] def qc(l:List Ak):AV:=.r<|.sl<|l.map Ak.row
@[reducible] def qd(l:List Aj):AV:=.r<|.sl<|l.map Aj.row
@[reducible] def qe(l:List AS):AV:=.r<|.sl<|l.map AS.row
@[reducible] def qf(l:List At):AV:=.r<|.sl<|l.map At.row
@[reducible] def qg(l:List AC):AV:=.r<|.sl<|l.map AC.row
@[reducible] def qh(l:List AY):AV:=.r<|.sl<|l.map AY.row
set_option linter.defProp false
@[reducible] def Rr:List AV:=[rI<|1,rI<|0,.cst<|.slice none 0 0,.r<|.sl<|[(AS.mk 0 2 [])].map AS.row,rI<|0,rI<|0,.cst<|.slice none 0 0,.cst<|.slice none 0 0,.cst<|.slice none 0 0]
@[reducible] def FF:List AV:=[rI<|0,rI<|0,.cst<|.slice none 0 0,.cst<|.slice none 0 0,rI<|0,rI<|0,.cst<|.slice none 0 0,.cst<|.slice none 0 0,.cst<|.slice none 0 0]
@[reducible] def Gc(x:AK):List AV:=[.agg [rI<|x.ID,rI<|x.Kind,qb x.Attrs,qe x.Flow,rI<|x.Grid.Rows,rI<|x.Grid.Cols,qc x.Grid.Cells,qd x.Grid.Merges,qf x.Draw]]
@[reducible] def dn(x:At):List AV:=[.agg [rI<|x.Clock,rI<|x.Site,rI<|x.Kind,rI<|x.Item,rI<|x.Parent,.r<|.str x.Place,.r<|.str x.Name,.r<|.str x.Value]]
@[reducible] def Ax(x:AK):List AV:=[rI<|x.ID,rI<|x.Kind,qb x.Attrs,qe x.Flow,rI<|x.Grid.Rows,rI<|x.Grid.Cols,qc x.Grid.Cells,qd x.Grid.Merges,qf x.Draw]
@[reducible] def BW(x:At):List AV:=[rI<|x.Clock,rI<|x.Site,rI<|x.Kind,rI<|x.Item,rI<|x.Parent,.r<|.str x.Place,.r<|.str x.Name,.r<|.str x.Value]
@[reducible] def OS:List AV:=[rI<|0,rI<|0,rI<|0,rI<|0,rI<|0,.r<|.str [],.r<|.str [],.r<|.str []]
@[reducible] def UC(x:Ak):List AV:=[.agg [rI<|x.Row,rI<|x.Col,.r<|.str x.Text,rI<|x.Ref,qb x.Attrs]]
@[reducible] def BR(x:Ak):List AV:=[rI<|x.Row,rI<|x.Col,.r<|.str x.Text,rI<|x.Ref,qb x.Attrs]
@[reducible] def Ox:List AV:=[rI<|0,rI<|0,.cst<|.slice none 0 0,.cst<|.slice none 0 0]
@[reducible] def HO:List AV:=[rI<|0,rI<|0,.r<|.str [],rI<|0,.cst<|.slice none 0 0]
@[reducible] def B6(x:AC):List AV:=[rI<|x.Item,rI<|x.Parent,.r<|.str x.Place,qb x.Attrs]
@[reducible] def Qt(x:Av):List AV:=[.agg [rI<|x.Rows,rI<|x.Cols,qc x.Cells,qd x.Merges]]
@[reducible] def LO:List AV:=[rI<|0,rI<|0,.r<|.str [],.cst<|.slice none 0 0]
@[reducible] def By(x:Av):List AV:=[rI<|x.Rows,rI<|x.Cols,qc x.Cells,qd x.Merges]
@[reducible] def A3(x:Aj):List AV:=[rI<|x.Row,rI<|x.Col,rI<|x.H,rI<|x.W]
@[reducible] def VH(x:AS):List AV:=[.agg [rI<|x.Char,rI<|x.Ref,qb x.Attrs]]
@[reducible] def Et(x:Af):List AV:=[rI<|x.id,rI<|x.parent,rB<|x.visible]
@[reducible] def Ek(x:AY):List AV:=[rI<|x.ID,rI<|x.Parent,rB<|x.Visible]
@[reducible] def Nn:List AV:=[rI<|10,rI<|0,.cst<|.slice none 0 0]
@[reducible] def Mg:List AV:=[rI<|0,rI<|2,.cst<|.slice none 0 0]
@[reducible] def Mf:List AV:=[rI<|0,rI<|0,.cst<|.slice none 0 0]
@[reducible] def B3(x:AG):List AV:=[.r<|.str x.Name,.r<|.str x.Value]
@[reducible] def B9(x:AS):List AV:=[rI<|x.Char,rI<|x.Ref,qb x.Attrs]
@[reducible] def FC:List AV:=[rI<|0,rI<|0,rI<|0,rI<|0]
@[reducible] def mx{T r:Int}{x:Exit}{s:St}{j:ResultVar}:=@Cf Int prog T r x s j λr=>rI r
@[reducible] def mu{T r:Bool}{x:Exit}{s:St}{j:ResultVar}:=@Cf Bool prog T r x s j λr=>rB r
@[reducible] def yI:=@VT prog
@[reducible] def yB:=@S9 prog
@[reducible] def Za:=@trivial
@[reducible] def Zc:=@AW.skip
@[reducible] def Ze:=@AW.block
@[reducible] def Zf:=@nh
@[reducible] def Zh:=@AO.nil
@[reducible] def Zi:=@AW.ret
@[reducible] def Zk:=@mf
@[reducible] def Zm:=@AW.exit
@[reducible] def Zo:=@oy
@[reducible] def Zt:=@PK.mk
@[reducible] def Zu:=@mQ
@[reducible] def Zw:=@ma
@[reducible] def Zx:=@Am.trans
@[reducible] def Zy:=@NV.mk
@[reducible] def ZA:=@ml
@[reducible] def ZF:=@Oo.mk
@[reducible] def ZG:=@AF.step
@[reducible] def R:=@rfl
theorem Uf{r}(h:PQ=some r):AX prog 18 [] (.agg [qa r.Nodes]):=by
 unfold PQ at h
 refine mF func18 ntmps18 R λj=>aU<|sS R (BD (cs:=[cZ]) 0 R Ij R R)<|aZ<|aT λl=>aR ?_
 refine sQ R (B7 R NT (q:=[(1,_)]) (by exact⟨R,R,R,iL,Za⟩) (cs:=Mg)<|by rfl) ?_
 refine sS R (Bu 2 R Bx (f:=AS.row) (l:=([(AS.mk 0 2 [])]:List AS)) ⟨R,⟨_,iL,R⟩,Za⟩ R (λ_=>R) R) ?_
 refine sQ R (B7 R P4 (q:=[(0,_),(1,_),(3,_)]) (by exact⟨R,R,R,iL,R,R,R,iL,R,R,R,iL,Za⟩) (cs:=[rI 1,rI 0,cZ,.own 2<|j+1,rI 0,rI 0,cZ,cZ,cZ])<|by rfl) ?_
 refine sQ R (B7 R NT (q:=[(0,_)]) (by exact⟨R,R,R,iL,Za⟩) (cs:=Nn)<|by rfl) ?_
 refine sS R (Bu 5 R Bx (f:=AS.row) (l:=([(AS.mk 10 0 [])]:List AS)) ⟨R,⟨_,iL,R⟩,Za⟩ R (λ_=>R) R) ?_
 refine sQ R (B7 R P4 (q:=[(0,_),(1,_),(3,_)]) (by exact⟨R,R,R,iL,R,R,R,iL,R,R,R,iL,Za⟩) (cs:=[rI 2,rI 1,cZ,.own 5<|j+2,rI 0,rI 0,cZ,cZ,cZ])<|by rfl) ?_
 refine AO.weak (by exact Am.frz (e':=[(0,.ptr 0 j 0 0),(1,.agg Mg),(2,.r<|.sl<|[(AS.mk 0 2 [])].map AS.row),(3,.agg Rr),(4,.agg Nn),(5,.own 5<|j+2),(6,.agg [rI 2,rI 1,cZ,.own 5<|j+2,rI 0,rI 0,cZ,cZ,cZ])]) (h':=[(0,some<|.box j 24 [cZ]),(5,some<|.arr (j+2) 60 3<|[(AS.mk 10 0 [])].map AS.row)]) 2 R ⟨jL,jL,.inl<|.inr<|.inr ⟨R,R⟩,.inr ⟨_,_,R,R,⟨.inl R,.inl R,.inl R,.inr<|.inr ⟨R,R⟩,.inl R,.inl R,.inl R,.inl R,.inl R,Za⟩⟩,jL,jL,jL,Za⟩ ⟨R,.inl R,R,.inl R,Za⟩) ?_
 refine AO.weak (by exact Am.frz (e':=[(0,.ptr 0 j 0 0),(1,.agg Mg),(2,.r<|.sl<|[(AS.mk 0 2 [])].map AS.row),(3,.agg Rr),(4,.agg Nn),(5,.r<|.sl<|[(AS.mk 10 0 [])].map AS.row),(6,.agg [rI 2,rI 1,cZ,.r<|.sl<|[(AS.mk 10 0 [])].map AS.row,rI 0,rI 0,cZ,cZ,cZ])]) (h':=[(0,some<|.box j 24 [cZ])]) 5 R ⟨jL,jL,jL,jL,jL,.inl<|.inr<|.inr ⟨R,R⟩,.inr ⟨_,_,R,R,⟨.inl R,.inl R,.inl R,.inr<|.inr ⟨R,R⟩,.inl R,.inl R,.inl R,.inl R,.inl R,Za⟩⟩,Za⟩ ⟨R,.inl R,Za⟩) ?_
 refine sS R (Bu 7 R BH (f:=AK.row) (l:=([(AK.mk 1 0 [] [(AS.mk 0 2 [])] (Av.mk 0 0 [] []) []),(AK.mk 2 1 [] [(AS.mk 10 0 [])] (Av.mk 0 0 [] []) [])]:List AK)) ⟨R,⟨_,iL,R⟩,R,⟨_,iL,R⟩,Za⟩ R (λ_=>R) R) ?_
 refine sQ R (B7 R P3 (q:=[(0,_)]) (by exact⟨R,R,R,iL,Za⟩) (cs:=[.own 7<|j+3])<|by rfl) ?_
 refine Zk R R (A0 (ds:=[.own 7<|j+3]) R Hz iL R iL R R R R)<|oZ l ?_
 exact Zi<|Cf (P:=prog) (λ(r:AM)=>.agg [qa r.Nodes]) h iL<|.a CG R R R<|.agg<|by exact⟨.own R,Za⟩
theorem T0{j r}(h:LZ j=some r):AX prog 130 [rS j] (rB r):=by
 unfold LZ at h
 refine mF func130 ntmps130 R λn0=>aU<|mA R<|aZ<|aT λC2=>aU<|mM R<|sQ R (E5 R iL iL)<|mM R<|vM R<|vQ R (DT R underlying9<|iR R)<|vQ R (BU R (iR R) iL)<|xO R<|mM R<|vM R<|AE h λa0 l h1=>vQ R (CM R underlying9 (iR R) iL<|Ae l)<|vQ R (B1 R (iR R) iL)<|xO R<|mM R<|vM R<|AE h1 λa1 m h2=>vQ R (CM R underlying9 (iR R) iL<|Ae m)<|vQ R (BU R (iR R) iL)<|xO R<|aZ<|cI R h2 (λB=>?_) λB=>?_
 ·exact zB B R id
 refine Zc<|C2 _<|aS λK5 C5 C=>aT λC6=>aF [0] ?_
 refine aR<|mM R<|sQ R (DT R underlying9 iL)<|mM R<|aZ<|C6 _<|Ze<|BK B λo1 q E F=>?_
 have J1:∀(X:Unit) (Z:NN),o1=.nrm X→K5 ⟨[],[],(Z 0),53⟩:=by
  intro X Z e
  have h4:=E _ e
  exact C5 _<|zB h4 R id
 refine Zw (λ(I:Int) A=>⟨[(0,rS j),(23,rL j),(24,rI I)],[],(A 0),53⟩) (AH [n0]) q wk ?_
 intro I A v1 J w
 have h5:Lb j I=some v1:=J;unfold Lb at h5
 refine aU<|xS R<|aZ<|aT λC9=>cI R h5 (λM=>?_) λM=>?_
 ·refine Zc<|C9 _<|aT λO=>Ze<|aU<|mM R<|mA R<|aZ<|aU<|mM R<|mM R<|AE M λc1 T h7=>sQ R (CM R underlying9 iL iL λ_=>T)<|mA R<|aZ<|aU<|mM R<|xS R<|mM R<|vM R<|vQ R (BU R (iR R) iL)<|xO R<|mM R<|vM R<|vQ R (B1 R (iR R) iL)<|vQ R (AN R<|iR R)<|wQ R (AN R iL)<|wQ R (BU R (iR R) iL)<|vQ R (Cm R (iR R)<|iR R)<|xN R<|mM R<|vM R<|vQ R (DV R (iR R) iL)<|xN R<|mM R<|vM R<|vQ R (DV R (iR R) iL)<|xN R<|aZ<|cI R h7 (λU=>?_) λU=>?_
  ·exact zB (F _<|xH w U) R id
  refine Zc<|O _<|aF [0,23,24] ?_
  exact aR<|AE U λx4 V h9=>xA R V<|mM R<|Zh<|Zt h9 (AH [(A 0)]) wk
 exact Zm<|C _ _ wk<|J1 _ (AH [(A 0)])<|xH w M
theorem Wy{l r}(h:LC l=some r):AX prog 131 [rS l] (rB r):=by
 unfold LC at h
 refine mF func131 ntmps131 R λZ=>aU<|mA R<|aZ<|aT λc2=>aU<|mM R<|sQ R (E5 R iL iL)<|mM R<|vM R<|vQ R (DT R underlying9<|iR R)<|vQ R (BU R (iR R) iL)<|xO R<|aZ<|cI R h (λA=>?_) λA=>?_
 ·exact zB A R id
 refine Zc<|c2 _<|aS λK5 c5 B=>aU<|mM R<|sQ R (DT R underlying9 iL)<|mM R<|aZ<|Ze<|BK A λo1 m C E=>?_
 have J1:∀(U:Unit) (V:NN),o1=.nrm U→K5 ⟨[],[],(V 0),27⟩:=by
  intro U V e
  have h2:=C _ e
  exact c5 _<|zB h2 R id
 refine Zw (λ(F:Int) w=>⟨[(0,rS l),(12,rL l),(13,rI F)],[],(w 0),27⟩) (AH [Z]) m wk ?_
 intro F w v1 I q
 have X:My l F=some v1:=I;unfold My at X
 refine aU<|xS R<|aZ<|aT λc9=>cI R X (λJ=>?_) λJ=>?_
 ·refine Zc<|c9 _<|aT λM=>Ze<|aU<|mM R<|mA R<|aZ<|aU<|mM R<|mM R<|AE J λa0 j h5=>sQ R (CM R underlying9 iL iL λ_=>j)<|xS R<|mM R<|vM R<|vM R<|vQ R (CM R underlying9 (iR R) (iR R) λ_=>j)<|vQ R (BU R (iR R) iL)<|xO R<|aZ<|cI R h5 (λO=>?_) λO=>?_
  ·exact zB (E _<|xH q O) R id
  refine Zc<|M _<|aF [0,12,13] ?_
  exact aR<|AE O λx4 T h7=>xA R T<|mM R<|Zh<|Zt h7 (AH [(w 0)]) wk
 exact Zm<|B _ _ wk<|J1 _ (AH [(w 0)])<|xH q J
theorem YD{q b r}(h:L6 q b=some r):AX prog 100 [qb q,rB b] (rI r):=by
 unfold L6 at h
 refine mF func100 ntmps100 R λn0=>aU<|mA R<|aZ<|aS λK2 c2 C=>aU<|mM R<|xL A8 R<|mM R<|aZ<|Ze<|BK h λo1 w E l=>?_
 have J1:∀(u2:Unit) (i5:NN),o1=.nrm u2→K2 ⟨[],[],(i5 0),48⟩:=by
  intro u2 i5 e
  have h1:=E _ e
  exact c2 _<|zI h1 R id
 refine Zw (λ(F:Int) A=>⟨[(0,qb q),(1,rB b),(7,qb q),(8,rL q),(9,rI F)],[],(A 0),48⟩) (AH [n0]) w wk ?_
 intro F A v1 I j
 have h2:LE q b F=some v1:=I;unfold LE at h2
 refine aU<|xS R<|aZ<|aT λc6=>cI R h2 (λJ=>?_) λJ=>?_
 ·refine Zc<|c6 _<|aT λc7=>Ze<|aU<|mM R<|AE J λB M h4=>xI A8 R M<|xB ((B3 B)) D5 R<|sS R (BD (cs:=[.r<|.str [],.r<|.str []]) 6 R Wh R R)<|mA R<|Zk R R (A0 (ds:=(B3 B)) R We iL R iL R R R R)<|aZ<|Ze<|aU<|lF EN BB R R<|AE h4 λr1 O h5=>cL (T0<|O) R<|sQ R (A6 R iL)<|mA R<|aZ<|cI R h5 (λT=>?_) λT=>?_
  ·exact zI (l _<|xH j T) R id
  refine aT λU=>aG [0,1,5,6,7,8,9] [6] ?_
  refine aR<|lF II BB R R<|AE T λr2 V h7=>cL (Wy<|V) R<|sQ R (A6 R iL)<|mM R<|vM R<|vQ R (AN R<|iR R)<|wQ R (fB R II iL fR R)<|wQ R (Ab (a:=rS B.Value) R BB (iR R) R R)<|wQ R (E5 R (iR R) iL)<|vQ R (Bb R (iR R)<|iR R)<|vQ R (A6 R<|iR R)<|xN R<|mA R<|aZ<|U _<|cI R h7 (λX=>?_) λX=>?_
  ·exact zI (l _<|xH j X) R id
  refine aT λZ=>?_
  refine ZA BY (by kernel_rfl) ?_
  refine qP R (AN R iL)<|qP R (BU R iL iL)<|qP R (AN R iL)<|qO R (fB R EN iL fR R)<|qO R (Ab (a:=rS B.Name) R BB (iR R) R R)<|qO R (AN R iL)<|qO R (AN R iL)<|AE X λx5 a0 h9=>qO R (CJ R (iR R) iL<|Ae a0)<|AE h9 λx6 a1 a2=>qO R (BA R A8.slice (iR R) (iR R) (λ_=>R)<|Ae a1)<|qO R (BJ R EN<|iR R)<|qO R (Bs (d:=.str x6.Name) R BB (iR R) R)<|qO R (Ya R (iR R)<|iR R)<|qP R (Bb R iL<|iR R)<|qP R (EI R iL)<|AQ.nil<|Z _<|cI R a2 (λm=>?_) λm=>?_
  ·exact zI (l _<|xH j m) R id
  refine Zc<|c7 _<|aF [0,1,7,8,9] ?_
  exact aR<|AE m λx7 a6 a7=>xA R a6<|mM R<|Zh<|Zt a7 (AH [((A 0)+1)]) wk
 exact Zm<|C _ _ wk<|J1 _ (AH [(A 0)])<|xH j J
theorem Sz{l r}(h:IK l=some r):AX prog 67 [qb l] (rI r):=by
 unfold IK at h
 exact mF func67 ntmps67 R λq=>aU<|mA R<|aZ<|aU<|mM R<|AE h λw j m=>cL (YD<|j) R<|mA R<|aZ<|Zi<|yI m R
theorem Uc{k r}(h:Fv k=some r):AX prog 68 [rI k] (rB r):=by
 unfold Fv at h
 exact mF func68 ntmps68 R λj=>aU<|mA R<|aZ<|aU<|mM R<|xQ R<|mM R<|vM R<|vQ R (A5 R (iR R) iL)<|xO R<|mM R<|vM R<|vQ R (A5 R (iR R) iL)<|xO R<|mM R<|vM R<|vQ R (A5 R (iR R) iL)<|xO R<|mA R<|aZ<|Zi<|yB h R
theorem fQ{k r}(h:GH k=some r):AX prog 69 [rI k] (rB r):=by
 unfold GH at h
 exact mF func69 ntmps69 R λj=>aU<|mA R<|aZ<|aU<|mM R<|xQ R<|mM R<|vM R<|vQ R (A5 R (iR R) iL)<|xO R<|mA R<|aZ<|Zi<|yB h R
theorem XS{k r}(h:FG k=some r):AX prog 70 [rI k] (rB r):=by
 unfold FG at h
 exact mF func70 ntmps70 R λj=>aU<|mA R<|aZ<|aU<|mM R<|xQ R<|mM R<|vM R<|vQ R (A5 R (iR R) iL)<|xO R<|mA R<|aZ<|Zi<|yB h R
theorem cD{s a r}(h:Lq s a=some r):AX prog 101 [qd s,qd a] (rB r):=by
 unfold Lq at h
 refine mF func101 ntmps101 R λn0=>aU<|mA R<|aZ<|aT λc2=>aU<|mM R<|xL CQ R<|mM R<|xL CQ R<|xU R<|aZ<|cI R h (λq=>?_) λq=>?_
 ·exact zB q R id
 refine Zc<|c2 _<|aS λK5 c5 w=>aU<|mM R<|xL CQ R<|mM R<|aZ<|Ze<|BK q λo1 j A B=>?_
 have J1:∀(V:Unit) (X:NN),o1=.nrm V→K5 ⟨[],[],(X 0),26⟩:=by
  intro V X e
  have h2:=A _ e
  exact c5 _<|zB h2 R id
 refine Zw (λ(C:Int) m=>⟨[(0,qd s),(1,qd a),(12,rL s),(13,rI C)],[],(m 0),26⟩) (AH [n0]) j wk ?_
 intro C m v1 E l
 have Z:Nk s a C=some v1:=E;unfold Nk at Z
 refine aU<|xS R<|aZ<|aT λc9=>cI R Z (λF=>?_) λF=>?_
 ·refine Zc<|c9 _<|aT λI=>Ze<|aU<|mM R<|mA R<|aZ<|aT λJ=>?_
  refine ZA BY (by kernel_rfl) ?_
  refine qP R (AN R iL)<|qP R (AN R iL)<|AE F λx4 M h5=>qP R (BA R CQ.slice iL iL (λ_=>R) λ_=>M)<|qP R (CV (cs:=(A3 x4)) R Cp iL R R)<|qP R (AN R iL)<|qP R (AN R iL)<|AE h5 λx5 O h6=>qP R (BA R CQ.slice iL iL (λ_=>R) λ_=>O)<|qP R (CV (cs:=(A3 x5)) R Cp iL R R)<|qP R (M3 R WY iL iL R)<|AQ.nil<|J _<|cI R h6 (λT=>?_) λT=>?_
  ·exact zB (B _<|xH l T) R id
  refine Zc<|I _<|aF [0,1,12,13] ?_
  exact aR<|AE T λx6 U h8=>xA R U<|mM R<|Zh<|Zt h8 (AH [(m 0)]) wk
 exact Zm<|w _ _ wk<|J1 _ (AH [(m 0)])<|xH l F
theorem Xa{j q r}(h:Jb j q=some r):AX prog 132 [qb j,qb q] (rB r):=by
 unfold Jb at h
 refine mF func132 ntmps132 R λn0=>aU<|mA R<|aZ<|aT λc2=>aU<|mM R<|xL A8 R<|mM R<|xL A8 R<|xU R<|aZ<|cI R h (λA=>?_) λA=>?_
 ·exact zB A R id
 refine Zc<|c2 _<|aS λK5 c5 B=>aU<|mM R<|xL A8 R<|mM R<|aZ<|Ze<|BK A λo1 l C E=>?_
 have J1:∀(Z:Unit) (i5:NN),o1=.nrm Z→K5 ⟨[],[],(i5 0),26⟩:=by
  intro Z i5 e
  have h2:=C _ e
  exact c5 _<|zB h2 R id
 refine Zw (λ(F:Int) w=>⟨[(0,qb j),(1,qb q),(12,rL j),(13,rI F)],[],(w 0),26⟩) (AH [n0]) l wk ?_
 intro F w v1 I m
 have h3:M7 j q F=some v1:=I;unfold M7 at h3
 refine aU<|xS R<|aZ<|aT λc9=>cI R h3 (λJ=>?_) λJ=>?_
 ·refine Zc<|c9 _<|aT λM=>Ze<|aU<|mM R<|mA R<|aZ<|aT λO=>?_
  refine ZA BY (by kernel_rfl) ?_
  refine qP R (AN R iL)<|qP R (AN R iL)<|AE J λx4 T h5=>qP R (BA R A8.slice iL iL (λ_=>R) λ_=>T)<|qP R (CV (cs:=(B3 x4)) R D5 iL R R)<|qP R (AN R iL)<|qP R (AN R iL)<|AE h5 λx5 U h6=>qP R (BA R A8.slice iL iL (λ_=>R) λ_=>U)<|qP R (CV (cs:=(B3 x5)) R D5 iL R R)<|qP R (M3 R TY iL iL R)<|AQ.nil<|O _<|cI R h6 (λV=>?_) λV=>?_
  ·exact zB (E _<|xH m V) R id
  refine Zc<|M _<|aF [0,1,12,13] ?_
  exact aR<|AE V λx6 X h8=>xA R X<|mM R<|Zh<|Zt h8 (AH [(w 0)]) wk
 exact Zm<|B _ _ wk<|J1 _ (AH [(w 0)])<|xH m J
theorem co{j l r}(h:Md j l=some r):AX prog 103 [.agg<|BR j,.agg<|BR l] (rB r):=by
 unfold Md at h
 exact mF func103 ntmps103 R λA=>aU<|sS R (A4 (cs:=(BR j)) 2 R iL R R)<|sS R (A4 (cs:=(BR l)) 3 R iL R R)<|mA R<|aZ<|aT λq=>aR<|lF EP AI R R<|lF EP AI R R<|xQ R<|mM R<|vF Ef AI R R<|vF Ef AI R R<|vQ R (A5 R (iR R)<|iR R)<|xN R<|mM R<|vF Gy BB R R<|vF Gy BB R R<|vQ R (E5 R (iR R)<|iR R)<|xN R<|mM R<|vF Dj AI R R<|vF Dj AI R R<|vQ R (A5 R (iR R)<|iR R)<|xN R<|mM R<|vF FY CP R R<|vF FY CP R R<|AE h λB m w=>vL (λhg=>Xa<|Ae m hg) R<|xN R<|mA R<|aZ<|q _<|Zi<|yB w R
theorem iI{s a r}(h:Mc s a=some r):AX prog 102 [qc s,qc a,.fn 103 []] (rB r):=by
 unfold Mc at h
 refine mF func102 ntmps102 R λn0=>aU<|mA R<|aZ<|aT λc2=>aU<|mM R<|xL Bt R<|mM R<|xL Bt R<|xU R<|aZ<|cI R h (λq=>?_) λq=>?_
 ·exact zB q R id
 refine Zc<|c2 _<|aS λK5 c5 w=>aU<|mM R<|xL Bt R<|mM R<|aZ<|Ze<|BK q λo1 j A B=>?_
 have J1:∀(X:Unit) (Z:NN),o1=.nrm X→K5 ⟨[],[],(Z 0),32⟩:=by
  intro X Z e
  have h2:=A _ e
  exact c5 _<|zB h2 R id
 refine Zw (λ(C:Int) m=>⟨[(1,qc a),(2,.fn 103 []),(15,qc s),(16,rL s),(17,rI C)],[],(m 0),32⟩) (AH [n0]) j wk ?_
 intro C m v1 E l
 have h3:Nv s a C=some v1:=E;unfold Nv at h3
 refine aU<|xS R<|aZ<|aT λc9=>cI R h3 (λF=>?_) λF=>?_
 ·refine Zc<|c9 _<|aT λI=>Ze<|aU<|mM R<|AE F λx4 J h5=>xI Bt R J<|xB ((BR x4)) EO R<|sS R (BD (cs:=HO) 8 R Hx R R)<|mA R<|Zk R R (A0 (ds:=(BR x4)) R Hw iL R iL R R R R)<|aZ<|aU<|mM R<|mM R<|AE h5 λx5 M h6=>xI Bt R M<|xB ((BR x5)) EO R<|sS R (BD (cs:=HO) 9 R Hx R R)<|Zk R R (A0 (ds:=(BR x5)) R Hw iL R iL R R R R)<|aZ<|aT λO=>aG [1,2,8,9,15,16,17] [8,9] ?_
  refine aR<|mM R<|xC EO R<|xC EO R<|AE h6 λr1 T h7=>cL (co<|T) R<|sQ R (A6 R iL)<|aZ<|O _<|cI R h7 (λU=>?_) λU=>?_
  ·exact zB (B _<|xH l U) R id
  exact Zc<|I _<|aR<|AE U λx6 V h9=>xA R V<|mM R<|Zh<|Zt h9 (AH [((m 0)+2)]) wk
 exact Zm<|w _ _ wk<|J1 _ (AH [(m 0)])<|xH l F
theorem fd{j l r}(h:Jh j l=some r):AX prog 71 [.agg<|By j,.agg<|By l] (rB r):=by
 unfold Jh at h
 exact mF func71 ntmps71 R λC=>aU<|sS R (A4 (cs:=(By j)) 2 R iL R R)<|sS R (A4 (cs:=(By l)) 3 R iL R R)<|mA R<|aZ<|aU<|lF Fc AI R R<|lF Fc AI R R<|xQ R<|mM R<|vF Fp AI R R<|vF Fp AI R R<|vQ R (A5 R (iR R)<|iR R)<|xN R<|mM R<|vF Dk Dx R R<|vF Dk Dx R R<|AE h λE m w=>vL (λhg=>cD<|Ae m hg) R<|xN R<|mM R<|vF Df Dr R R<|vF Df Dr R R<|AE w λA q B=>AO.stepW (.one R R R) R R (EJ (r:=rB A) (caps:=[]) (bs:=[qc j.Cells,qc l.Cells,.fn 103 []]) R iL R ⟨⟨_,(iR R),.d R⟩,⟨_,(iR R),.d R⟩,⟨_,iL,.one<|.closed (.fn 103 []) R⟩,Za⟩ (λhg=>iI<|Ae q hg) R)<|xN R<|mA R<|aZ<|Zi<|yB B R
theorem Qv{k r}(h:Fx k=some r):AX prog 72 [rI k] (rB r):=by
 unfold Fx at h
 exact mF func72 ntmps72 R λj=>aU<|mA R<|aZ<|aU<|mM R<|xQ R<|mM R<|vM R<|vQ R (A5 R (iR R) iL)<|xO R<|mM R<|vM R<|vQ R (A5 R (iR R) iL)<|xO R<|mA R<|aZ<|Zi<|yB h R
theorem V1{j r}(h:J7 j=some r):AX prog 133 [rI j] (rB r):=by
 unfold J7 at h
 exact mF func133 ntmps133 R λl=>aU<|mA R<|aZ<|aU<|mM R<|xQ R<|mM R<|vM R<|vQ R (A5 R (iR R) iL)<|xO R<|mM R<|vM R<|vQ R (Cd R (iR R) iL)<|vQ R (AN R<|iR R)<|wQ R (AN R iL)<|wQ R (B1 R (iR R) iL)<|vQ R (Bb R (iR R)<|iR R)<|xO R<|mM R<|vM R<|vQ R (Cd R (iR R) iL)<|vQ R (AN R<|iR R)<|wQ R (AN R iL)<|wQ R (B1 R (iR R) iL)<|vQ R (Bb R (iR R)<|iR R)<|xO R<|mM R<|vM R<|vQ R (BU R (iR R) iL)<|vQ R (AN R<|iR R)<|wQ R (AN R iL)<|wQ R (En R (iR R) iL)<|vQ R (Bb R (iR R)<|iR R)<|xO R<|mA R<|aZ<|Zi<|yB h R
theorem Z9{l r}(h:Nq l=some r):AX prog 104 (VH l) (rI r):=by
 unfold Nq at h
 refine mF func104 ntmps104 R λw=>aU<|sS R (A4 (cs:=(B9 l)) 1 R iL R R)<|mA R<|aZ<|aT λT=>Ze<|aU<|lF Fh AI R R<|xU R<|lF DU AI R R<|xU R<|sQ R (em R underlying4 iL iL)<|mA R<|aZ<|cI R h (λA=>?_) λA=>?_
 ·exact zI A R id
 refine aS λU V m=>aT λX=>aG [1] [1] ?_
 refine aR<|lF DU AI R R<|xQ R<|mM R<|vF Fh AI R R<|AE A λr1 B Z=>vL (λhg=>V1<|Ae B hg) R<|vQ R (A6 R<|iR R)<|xN R<|mA R<|aZ<|X _<|BP Z λp1 q C=>?_
 have M:∀(E:Bool) (O:NN),p1=E→U ⟨[(1,.ptr 1 w 0 0),(11,rB E)],[(1,some<|.box w 60<|B9 l)],(O 0),37⟩:=by
  intro E O e
  have h3:=C _ e
  refine V _<|cI R h3 (λF=>?_) λF=>?_
  ·exact zI F R id
  exact Zc<|T _<|aU<|lF Nf CP R R<|AE F λr2 I h5=>cL (Sz<|I) R<|mA R<|aZ<|Zi<|yI h5 R
 refine aC R (λj=>?_) λj=>?_
 ·have J:=Dz j q
  exact Zc<|m _ _ wk<|M _ (AH [(w+1)]) (Zf J).symm
 ·have J:=D6 j q
  refine aG [1] [1] ?_
  exact aR<|lF DU AI R R<|xU R<|mM R<|vF DU AI R R<|vQ R (B1 R (iR R) iL)<|vQ R (AN R<|iR R)<|wQ R (fB R DU iL fR R)<|wQ R (Ab (a:=rI l.Ref) R AI (iR R) R R)<|wQ R (BU R (iR R) iL)<|vQ R (Cm R (iR R)<|iR R)<|xN R<|mA R<|Zh<|m _ _ wk<|M _ (AH [(w+1)]) (Zf J).symm
theorem gM{j a r}(h:Ft j a=some r):AX prog 73 [qe j,rB a] (rI r):=by
 unfold Ft at h
 refine mF func73 ntmps73 R λn0=>aU<|mA R<|aZ<|aS λK2 c2 B=>aU<|mM R<|xL Bx R<|mM R<|aZ<|Ze<|BK h λo1 q C w=>?_
 have J1:∀(u2:Unit) (i5:NN),o1=.nrm u2→K2 ⟨[(0,qe j),(1,rB a)],[],(i5 0),43⟩:=by
  intro u2 i5 e
  have h1:=C _ e
  refine c2 _<|aT λc4=>aU<|mM R<|mM R<|vM R<|vQ R (DP R Bx.slice<|iR R)<|vQ R (A5 R (iR R) iL)<|vQ R (AN R<|iR R)<|wQ R (AN R iL)<|wQ R (AN R iL)<|wQ R (DP R Bx.slice<|iR R)<|AE h1 λx4 E h2=>wQ R (CJ R (iR R) iL<|Ae E)<|AE h2 λx5 F h3=>wQ R (BA R Bx.slice (iR R) (iR R) (λ_=>R)<|Ae F)<|wQ R (BJ R Fh<|iR R)<|wQ R (Bs (d:=.int .i64 x5.Char) R AI (iR R) R)<|wQ R (DV R (iR R) iL)<|vQ R (Cm R (iR R)<|iR R)<|xN R<|aZ<|cI R h3 (λI=>?_) λI=>?_
  ·exact zI I R id
  exact Zc<|c4 _<|zI I R id
 refine Zw (λ(J:Int) A=>⟨[(0,qe j),(1,rB a),(8,qe j),(9,rL j),(10,rI J)],[],(A 0),43⟩) (AH [n0]) q wk ?_
 intro J A v1 M l
 have h5:Jy j a J=some v1:=M;unfold Jy at h5
 refine aU<|xS R<|aZ<|aT λc9=>cI R h5 (λO=>?_) λO=>?_
 ·refine Zc<|c9 _<|aT λT=>Ze<|aU<|AE O λx6 U h7=>xI Bx R U<|xB ((B9 x6)) Hc R<|sS R (BD (cs:=Mf) 6 R NA R R)<|Zk R R (A0 (ds:=(B9 x6)) R KV iL R iL R R R R)<|aZ<|aT λV=>aU<|xC Hc R<|AE h7 λe1 X h8=>cL (Z9<|X) R<|mA R<|aZ<|aU<|mM R<|xU R<|aZ<|cI R h8 (λZ=>?_) λZ=>?_
  ·refine aT λa0=>aF [7] ?_
   exact aR<|mM R<|mA R<|aZ<|a0 _<|Zi<|yI (w _<|xH l Z) R
  refine Zc<|V _<|aU<|mM R<|sQ R (A6 R iL)<|mM R<|vF DU AI R R<|vQ R (A5 R (iR R) iL)<|xN R<|aZ<|cI R Z (λm=>?_) λm=>?_
  ·exact zI (w _<|xH l m) R id
  refine Zc<|T _<|aF [0,1,8,9,10] ?_
  exact aR<|AE m λx7 a1 a2=>xA R a1<|mM R<|Zh<|Zt a2 (AH [((A 0)+1)]) wk
 exact Zm<|B _ _ wk<|J1 _ (AH [(A 0)])<|xH l O
theorem ZP{s1 r}(h:NW s1=some r):AX prog 174 [rS s1] (.tup [.r<|.int .i32 r.1,rI r.2]):=by
 unfold NW at h
 refine mF func174 ntmps174 R λn0=>aU<|mA R<|mA R<|aZ<|aU<|mM R<|sQ R (DT R underlying9 iL)<|mA R<|aZ<|aT λc3=>aU<|mM R<|xS R<|aZ<|cI R h (λE=>?_) λE=>?_
 ·exact aU<|mA R<|mA R<|aZ<|Zi<|Cy (P:=prog) (λ(r:Int × Int)=>.r<|.int .i32 r.1) (λ(r:Int × Int)=>rI r.2) E iL (.t<|.d R)<|.t<|.d R
 refine Zc<|c3 _<|aU<|mM R<|AE E λag j h2=>sQ R (CM R underlying9 iL iL λ_=>j)<|mA R<|aZ<|aT λc7=>aR<|mM R<|AE h2 λx1 F h3=>?_
 refine sQ R (Wi (f:=(Ad .u8)) (l:=Fl) R Yt dm (by kernel_rfl) iL (λ_=>R) (by decide) λ_=>F) ?_
 refine xV (.int .u8 x1) Qw R<|mA R<|aZ<|c7 _<|aT λc8=>aT λc9=>aF [0,4,5,6] ?_
 refine aR<|mM R<|sQ R (Cd R iL iL)<|aZ<|c9 _<|cI R h3 (λI=>?_) λI=>?_
 ·refine aU<|mM R<|sQ R (Dw R underlying5 underlying21 iL)<|sQ R (IZ (b:=31) R iL iL)<|sQ R (Pc (b:=31) R iL iL)<|mA R<|aZ<|aT λJ=>aF [0,7] ?_
  exact aR<|mM R<|sQ R (CM R underlying9 iL iL λ_=>j)<|sQ R (Dw R underlying5 underlying21 iL)<|mM R<|sQ R (jD R iL iL)<|mM R<|sQ R (Fq R iL iL)<|sQ R (JE R iL iL)<|mA R<|mA R<|aZ<|J _<|Zi<|Cy (P:=prog) (λ(r:Int × Int)=>.r<|.int .i32 r.1) (λ(r:Int × Int)=>rI r.2) I iL (.t<|.d R)<|.t<|.d R
 refine Zc<|c8 _<|aU<|mM R<|sQ R (Fq R iL iL)<|sQ R (Dw R underlying5 underlying3 iL)<|mA R<|aZ<|aT λM=>aR<|mM R<|sQ R (Pc (b:=4) R iL iL)<|AE I λC O h5=>?_
 refine sQ R (Wi (f:=Hi.row) (l:=Od) R YP fi (by kernel_rfl) iL (λ_=>R) (by decide) λ_=>O) ?_
 refine xB ([.r<|.int .u8 C.lo,.r<|.int .u8 C.hi]) ek R<|sS R (BD (cs:=[.r<|.int .u8 0,.r<|.int .u8 0]) 9 R bI R R)<|Zk R R (A0 (ds:=[.r<|.int .u8 C.lo,.r<|.int .u8 C.hi]) R iO iL R iL R R R R)<|aZ<|M _<|aT λT=>aT λU=>aG [0,4,5,8,9] [9] ?_
 refine aR<|mM R<|mM R<|xS R<|aZ<|U _<|cI R h5 (λV=>?_) λV=>?_
 ·exact aU<|mA R<|mA R<|aZ<|Zi<|Cy (P:=prog) (λ(r:Int × Int)=>.r<|.int .i32 r.1) (λ(r:Int × Int)=>rI r.2) V iL (.t<|.d R)<|.t<|.d R
 refine Zc<|T _<|aU<|mM R<|AE V λah w h7=>sQ R (CM R underlying9 iL iL λ_=>w)<|mA R<|aZ<|aT λX=>aU<|mM R<|lF eu Qw R R<|xS R<|mM R<|vF jJ Qw R R<|vM R<|vQ R (B1 R (iR R)<|iR R)<|xO R<|aZ<|cI R h7 (λZ=>?_) λZ=>?_
 ·refine aT λa0=>aF [] ?_
  exact aR<|mA R<|mA R<|aZ<|a0 _<|Zi<|Cy (P:=prog) (λ(r:Int × Int)=>.r<|.int .i32 r.1) (λ(r:Int × Int)=>rI r.2) Z iL (.t<|.d R)<|.t<|.d R
 refine Zc<|X _<|aT λa1=>aT λa2=>aF [0,5,8,10] ?_
 refine aR<|mM R<|sQ R (En R iL iL)<|aZ<|a2 _<|cI R Z (λh9=>?_) λh9=>?_
 ·exact aU<|mM R<|sQ R (Fq R iL iL)<|sQ R (Dw R underlying5 underlying21 iL)<|sQ R (IZ (b:=6) R iL iL)<|mM R<|sQ R (Fq R iL iL)<|sQ R (Dw R underlying5 underlying21 iL)<|sQ R (JE R iL iL)<|mA R<|mA R<|aZ<|Zi<|Cy (P:=prog) (λ(r:Int × Int)=>.r<|.int .i32 r.1) (λ(r:Int × Int)=>rI r.2) h9 iL (.t<|.d R)<|.t<|.d R
 refine Zc<|a1 _<|aU<|mM R<|AE h9 λai A a6=>sQ R (CM R underlying9 iL iL λ_=>A)<|mA R<|aZ<|aT λa7=>aU<|mM R<|xS R<|mM R<|vM R<|vQ R (B1 R iL<|iR R)<|xO R<|aZ<|cI R a6 (λl=>?_) λl=>?_
 ·refine aT λa8=>aF [] ?_
  exact aR<|mA R<|mA R<|aZ<|a8 _<|Zi<|Cy (P:=prog) (λ(r:Int × Int)=>.r<|.int .i32 r.1) (λ(r:Int × Int)=>rI r.2) l iL (.t<|.d R)<|.t<|.d R
 refine Zc<|a7 _<|aT λaa=>aT λab=>aF [0,5,8,10,11] ?_
 refine aR<|mM R<|sQ R (En R iL iL)<|aZ<|ab _<|cI R l (λm=>?_) λm=>?_
 ·exact aU<|mM R<|sQ R (Fq R iL iL)<|sQ R (Dw R underlying5 underlying21 iL)<|sQ R (IZ (b:=12) R iL iL)<|mM R<|sQ R (Fq R iL iL)<|sQ R (Dw R underlying5 underlying21 iL)<|sQ R (IZ (b:=6) R iL iL)<|sQ R (JE R iL iL)<|mM R<|sQ R (Fq R iL iL)<|sQ R (Dw R underlying5 underlying21 iL)<|sQ R (JE R iL iL)<|mA R<|mA R<|aZ<|Zi<|Cy (P:=prog) (λ(r:Int × Int)=>.r<|.int .i32 r.1) (λ(r:Int × Int)=>rI r.2) m iL (.t<|.d R)<|.t<|.d R
 refine Zc<|aa _<|aU<|mM R<|AE m λaj B ac=>sQ R (CM R underlying9 iL iL λ_=>B)<|mA R<|aZ<|aT λad=>aU<|mM R<|xS R<|mM R<|vM R<|vQ R (B1 R iL<|iR R)<|xO R<|aZ<|cI R ac (λq=>?_) λq=>?_
 ·refine aT λae=>aF [] ?_
  exact aR<|mA R<|mA R<|aZ<|ae _<|Zi<|Cy (P:=prog) (λ(r:Int × Int)=>.r<|.int .i32 r.1) (λ(r:Int × Int)=>rI r.2) q iL (.t<|.d R)<|.t<|.d R
 refine Zc<|ad _<|aT λaf=>aF [5,10,11,12] ?_
 exact aR<|mM R<|sQ R (Fq R iL iL)<|sQ R (Dw R underlying5 underlying21 iL)<|sQ R (IZ (b:=18) R iL iL)<|mM R<|sQ R (Fq R iL iL)<|sQ R (Dw R underlying5 underlying21 iL)<|sQ R (IZ (b:=12) R iL iL)<|sQ R (JE R iL iL)<|mM R<|sQ R (Fq R iL iL)<|sQ R (Dw R underlying5 underlying21 iL)<|sQ R (IZ (b:=6) R iL iL)<|sQ R (JE R iL iL)<|mM R<|sQ R (Fq R iL iL)<|sQ R (Dw R underlying5 underlying21 iL)<|sQ R (JE R iL iL)<|mA R<|mA R<|aZ<|af _<|Zi<|Cy (P:=prog) (λ(r:Int × Int)=>.r<|.int .i32 r.1) (λ(r:Int × Int)=>rI r.2) q iL (.t<|.d R)<|.t<|.d R
theorem jz{w r}(h:L9 w=some r):AX prog 153 [rS w] (.tup [.r<|.int .i32 r.1,rI r.2]):=by
 unfold L9 at h
 refine mF func153 ntmps153 R λM=>aU<|mA R<|mA R<|aZ<|aT λA=>aU<|mM R<|sQ R (D2 R iL iL)<|mM R<|vM R<|AE h λB j C=>vQ R (CM R underlying9 (iR R) iL<|Ae j)<|vQ R (B1 R (iR R) iL)<|xN R<|aZ<|cI R C (λm=>?_) λm=>?_
 ·refine aT λE=>aF [0] ?_
  exact aR<|mM R<|AE m λF l I=>sQ R (CM R underlying9 iL iL λ_=>l)<|sQ R (Dw R underlying5 underlying21 iL)<|mA R<|mA R<|aZ<|E _<|Zi<|Cy (P:=prog) (λ(r:Int × Int)=>.r<|.int .i32 r.1) (λ(r:Int × Int)=>rI r.2) I iL (.t<|.d R)<|.t<|.d R
 refine aF [0] ?_
 exact aR<|mM R<|Eu m λO T q J=>cL (ZP<|q) R<|mM R<|xX R<|xX R<|mA R<|mA R<|aZ<|A _<|Zi<|Cy (P:=prog) (λ(r:Int × Int)=>.r<|.int .i32 r.1) (λ(r:Int × Int)=>rI r.2) J iL (.t<|.d R)<|.t<|.d R
theorem dF{O r}(h:Ls O=some r):AX prog 134 [rS O] (rB r):=by
 unfold Ls at h
 refine mF func134 ntmps134 R λX=>aU<|mA R<|aZ<|aS λZ c2 q=>Ze<|BK h λo1 j w A=>?_
 have J1:∀(T:Unit) (U:NN),o1=.nrm T→Z ⟨[],[],(U 0),31⟩:=by
  intro T U e
  have h1:=w _ e
  exact c2 _<|zB h1 R id
 refine Zw (λ(B:List UInt8) m=>⟨[(0,rS B)],[],(m 0),31⟩) (AH [X]) j wk ?_
 intro B m v1 C l
 have V:Es B=some v1:=C;unfold Es at V
 refine aT λc4=>aU<|mM R<|sQ R (D2 R iL iL)<|aZ<|cI R V (λE=>?_) λE=>?_
 ·refine Zc<|c4 _<|Ze<|aU<|mM R<|Eu E λr1 r2 F h4=>cL (jz<|F) R<|mM R<|xX R<|xX R<|mA R<|mA R<|aZ<|aT λc7=>aU<|mM R<|xQ R<|mM R<|vM R<|vQ R (A5 R (iR R) iL)<|xN R<|mM R<|vM R<|vQ R (A5 R (iR R) iL)<|xO R<|mM R<|vM R<|vQ R (Dw R underlying21 underlying3<|iR R)<|AE h4 λr3 I h5=>vL (λhg=>V1<|Ae I hg) R<|vQ R (A6 R<|iR R)<|xO R<|aZ<|cI R h5 (λJ=>?_) λJ=>?_
  ·exact zB (A _<|xH l J) R id
  refine Zc<|c7 _<|aF [0,4] ?_
  refine aR<|mM R<|mM R<|AE J λs5 M h7=>?_
  refine sQ R (ZX R underlying9 iL (by exact⟨_,iL⟩) (by exact R) λ_=>M) ?_
  exact mA R<|Zh<|Zt h7 (AH [(m 0)]) wk
 exact Zm<|q _ _ wk<|J1 _ (AH [(m 0)])<|xH l E
theorem bG{j r}(h:NX j=some r):AX prog 135 (UC j) (rB r):=by
 unfold NX at h
 exact mF func135 ntmps135 R λl=>aU<|sS R (A4 (cs:=(BR j)) 1 R iL R R)<|mA R<|aZ<|aU<|lF Gy BB R R<|sQ R (E5 R iL iL)<|mM R<|vF Dj AI R R<|vQ R (A5 R (iR R) iL)<|xN R<|mM R<|vF FY CP R R<|vQ R (DP R A8.slice<|iR R)<|vQ R (A5 R (iR R) iL)<|xN R<|mA R<|aZ<|Zi<|yB h R
theorem Th{j r}(h:Kx j=some r):AX prog 144 [rI j] (rB r):=by
 unfold Kx at h
 exact mF func144 ntmps144 R λl=>aU<|mA R<|aZ<|aU<|mM R<|mM R<|xU R<|mA R<|aZ<|Zi<|yB h R
theorem J9{O T r}(h:Fm O T=some r):AX prog 119 [rI O,rI T] (rI r):=by
 unfold Fm at h
 refine mF func119 ntmps119 R λn0=>aU<|mA R<|aZ<|aU<|mM R<|AE h λm j U=>cL (Th<|j) R<|mA R<|aZ<|aU<|mM R<|AE U λq l V=>cL (Th<|l) R<|mA R<|aZ<|aT λX=>aU<|mM R<|aZ<|cI R V (λw=>?_) λw=>?_
 ·refine aT λZ=>aT λc7=>aF [6] ?_
  refine aR<|mM R<|aZ<|c7 _<|cI R w (λA=>?_) λA=>?_
  ·exact zI A R id
  exact Zc<|Z _<|zI A R id
 refine Zc<|X _<|aT λB=>aU<|mM R<|aZ<|cI R w (λC=>?_) λC=>?_
 ·exact zI C R id
 refine Zc<|B _<|aT λE=>aT λF=>aF [0,1] ?_
 refine aR<|mM R<|mM R<|xS R<|aZ<|F _<|cI R C (λI=>?_) λI=>?_
 ·exact zI I R id
 refine Zc<|E _<|aT λJ=>aU<|mM R<|mM R<|sQ R (BU R iL iL)<|aZ<|cI R I (λM=>?_) λM=>?_
 ·exact zI M R id
 exact Zc<|J _<|zI M R id
theorem Sm{v r}(h:G4 v=some r):AX prog 117 [.r<|.sl<|v.map<|Ad .i64] (rI r):=by
 unfold G4 at h
 refine mF func117 ntmps117 R λV=>aU<|mA R<|aZ<|aU<|mA R<|aZ<|aS λX Z q=>aU<|mM R<|xL B0 R<|mM R<|aZ<|Ze<|BK h λo1 j w A=>?_
 have J1:∀(O:Unit) (T:NN),o1=.nrm O→X ⟨[(3,rI 0)],[],(T 0),18⟩:=by
  intro O T e
  have h1:=w _ e
  exact Z _<|aU<|mM R<|mA R<|aZ<|Zi<|yI h1 R
 refine Zw (λ(B:Int) m=>⟨[(3,rI 0),(6,.r<|.sl<|v.map<|Ad .i64),(7,rL v),(8,rI B)],[],(m 0),18⟩) (AH [V]) j wk ?_
 intro B m v1 C l
 have U:De v B=some v1:=C;unfold De at U
 refine aU<|xS R<|aZ<|aT λc7=>cI R U (λE=>?_) λE=>?_
 ·refine Zc<|c7 _<|aT λc8=>Ze<|aU<|AE E λx4 F h4=>xI B0 R F<|xV (.int .i64 x4) AI R<|mA R<|aZ<|aU<|mM R<|mM R<|xU R<|aZ<|cI R h4 (λI=>?_) λI=>?_
  ·refine aT λJ=>aF [5] ?_
   exact aR<|mM R<|mA R<|aZ<|J _<|Zi<|yI (A _<|xH l I) R
  exact Zc<|c8 _<|aR<|AE I λx5 M h6=>xA R M<|mM R<|Zh<|Zt h6 (AH [(m 0)]) wk
 exact Zm<|q _ _ wk<|J1 _ (AH [(m 0)])<|xH l E
theorem kx{l m r}(h:KY l m=some r):AX prog 136 [.agg<|BR l,.agg<|BR m] (rI r):=by
 unfold KY at h
 refine mF func136 ntmps136 R λj=>aU<|sS R (A4 (cs:=(BR l)) 2 R iL R R)<|sS R (A4 (cs:=(BR m)) 3 R iL R R)<|mA R<|aZ<|aT λC=>AE h λq w E=>?_
 refine rP 9 [pO 5<|.ptr 2 j 0 0,pO 6<|rI l.Row,pO 7<|.ptr 3 (j+1) 0 0,pO 8<|rI m.Row,pO 9<|rI q,pO 10<|.ptr 2 j 0 1,pO 11<|rI l.Col,pO 12<|.ptr 3 (j+1) 0 1,pO 13<|rI m.Col] BY R (by exact⟨oB [(2,.ptr 2 j 0 0)] [(2,some<|.box j 84<|BR l)]<|fB R EP (.inl R) (λ_=>R) R,oB [(5,.ptr 2 j 0 0)] [(2,some<|.box j 84<|BR l)]<|Ab (a:=rI l.Row) R AI (.inl R) R R,oB [(3,.ptr 3 (j+1) 0 0)] [(3,some<|.box (j+1) 84<|BR m)]<|fB R EP (.inl R) (λ_=>R) R,oB [(7,.ptr 3 (j+1) 0 0)] [(3,some<|.box (j+1) 84<|BR m)]<|Ab (a:=rI m.Row) R AI (.inl R) R R,oD (λ_=>[(6,rI l.Row),(8,rI m.Row)]) (λ_=>[]) λF e O n=>EJ (r:=rI q) (caps:=[]) (bs:=[rI l.Row,rI m.Row]) R (.inl R) R ⟨⟨_,(.inl R),.d R⟩,⟨_,(.inl R),.d R⟩,Za⟩ (λ_=>J9<|w) R,oB [(2,.ptr 2 j 0 0)] [(2,some<|.box j 84<|BR l)]<|fB R Ef (.inl R) (λ_=>R) R,oB [(10,.ptr 2 j 0 1)] [(2,some<|.box j 84<|BR l)]<|Ab (a:=rI l.Col) R AI (.inl R) R R,oB [(3,.ptr 3 (j+1) 0 0)] [(3,some<|.box (j+1) 84<|BR m)]<|fB R Ef (.inl R) (λ_=>R) R,oB [(12,.ptr 3 (j+1) 0 1)] [(3,some<|.box (j+1) 84<|BR m)]<|Ab (a:=rI m.Col) R AI (.inl R) R R,Za⟩) λF T=>?_
 refine Bg [0,1,2,3,4,5,6,7,8,9,10,11,12,13] [2,3] ?_
 exact AE E λI A J=>cL (J9<|A) R<|sS R (Bu 15 R B0 (f:=(Ad .i64)) (l:=([q,I]:List Int)) ⟨R,⟨_,iL,R⟩,R,⟨_,iL,R⟩,Za⟩ R (λ_=>R) R)<|AE J λU B M=>cL (Sm<|B) R<|mA R<|aZ<|C _<|Zi<|yI M R
theorem db{C a c n r}(h:Nx C a c n=some r):AX prog 105 [qc C,rI a,rI c,rB n] (rI r):=by
 unfold Nx at h
 refine mF func105 ntmps105 R λn0=>aU<|mA R<|aZ<|aS λK2 c2 I=>aU<|mM R<|xL Bt R<|mM R<|aZ<|Ze<|BK h λo1 E J l=>?_
 have J1:∀(u2:Unit) (i5:NN),o1=.nrm u2→K2 ⟨[],[],(i5 0),79⟩:=by
  intro u2 i5 e
  have h1:=J _ e
  exact c2 _<|zI h1 R id
 refine Zw (λ(M:Int) F=>⟨[(0,qc C),(1,rI a),(2,rI c),(3,rB n),(12,qc C),(13,rL C),(14,rI M)],[],(F 0),79⟩) (AH [n0]) E wk ?_
 intro M F v1 O j
 have h2:N4 C a c n M=some v1:=O;unfold N4 at h2
 refine aU<|xS R<|aZ<|aT λc6=>cI R h2 (λT=>?_) λT=>?_
 ·refine Zc<|c6 _<|aT λc7=>Ze<|aU<|mM R<|AE T λm U h4=>xI Bt R U<|xB ((BR m)) EO R<|sS R (BD (cs:=HO) 10 R Hx R R)<|mA R<|Zk R R (A0 (ds:=(BR m)) R Hw iL R iL R R R R)<|aZ<|aT λc9=>Ze<|aU<|lF EP AI R R<|xS R<|mM R<|vF EP AI R R<|vM R<|vQ R (Cd R (iR R)<|iR R)<|xO R<|mM R<|vF Ef AI R R<|vQ R (B1 R (iR R) iL)<|xO R<|mM R<|vF Ef AI R R<|vM R<|vQ R (Cd R (iR R)<|iR R)<|xO R<|mA R<|aZ<|cI R h4 (λV=>?_) λV=>?_
  ·exact zI (l _<|xH j V) R id
  refine aT λX=>aG [0,1,2,3,9,10,12,13,14] [10] ?_
  refine aR<|lF Dj AI R R<|xS R<|mM R<|vF Dj AI R R<|vQ R (BU R (iR R) iL)<|xO R<|mA R<|aZ<|X _<|cI R V (λZ=>?_) λZ=>?_
  ·exact zI (l _<|xH j Z) R id
  refine aU<|lF Gy BB R R<|AE Z λr1 a0 h7=>cL (dF<|a0) R<|sQ R (A6 R iL)<|mA R<|aZ<|cI R h7 (λh8=>?_) λh8=>?_
  ·exact zI (l _<|xH j h8) R id
  refine Zc<|c9 _<|aT λa1=>aT λa2=>aG [0,1,2,3,9,10,12,13,14] [10] ?_
  refine aR<|lF FY CP R R<|AE h8 λe1 a6 h9=>cL (Sz<|a6) R<|mA R<|aZ<|a2 _<|aU<|mM R<|xU R<|aZ<|cI R h9 (λq=>?_) λq=>?_
  ·refine aT λa7=>aF [11] ?_
   exact aR<|mM R<|mA R<|aZ<|a7 _<|Zi<|yI (l _<|xH j q) R
  refine Zc<|a1 _<|aT λa8=>aU<|xC EO R<|AE q λr2 aa ab=>cL (bG<|aa) R<|mM R<|vM R<|vQ R (A6 R<|iR R)<|xN R<|aZ<|cI R ab (λw=>?_) λw=>?_
  ·exact zI (l _<|xH j w) R id
  refine Zc<|a8 _<|aT λac=>aG [0,1,2,3,9,10,12,13,14] [10] ?_
  refine ZA BY (by kernel_rfl) ?_
  refine qP R (AN R iL)<|qP R (BU R iL iL)<|qP R (AN R iL)<|qO R (AN R iL)<|qO R (AN R iL)<|AE w λx5 ad ae=>qO R (CJ R (iR R) iL<|Ae ad)<|AE ae λA af ag=>qO R (BA R Bt.slice (iR R) (iR R) (λ_=>R)<|Ae af)<|qO R (CV (cs:=(BR A)) R EO (iR R) R R)<|qO R (EK R EO iL R R)<|AE ag λr3 ah ai=>OL (.one R R R) R R (r:=rI r3) (caps:=[]) (bs:=[.agg<|BR A,.agg<|BR m]) R iL R ⟨⟨_,(iR R),.g (cs:=[.int .i64 A.Row,.int .i64 A.Col,.str A.Text,.int .i64 A.Ref,.sl<|A.Attrs.map AG.row]) R R⟩,⟨_,(iR R),.g (cs:=[.int .i64 m.Row,.int .i64 m.Col,.str m.Text,.int .i64 m.Ref,.sl<|m.Attrs.map AG.row]) R R⟩,Za⟩ (λhg=>kx<|Ae ah hg) R<|qO R (Cd R (iR R) iL)<|qP R (Bb R iL<|iR R)<|AQ.nil<|ac _<|cI R ai (λB=>?_) λB=>?_
  ·exact zI (l _<|xH j B) R id
  exact Zc<|c7 _<|aR<|AE B λx7 aj ak=>xA R aj<|mM R<|Zh<|Zt ak (AH [((F 0)+1)]) wk
 exact Zm<|I _ _ wk<|J1 _ (AH [(F 0)])<|xH j T
theorem bV{j a c r}(h:M4 j a c=some r):AX prog 106 [.agg<|A3 j,rI a,rI c] (rB r):=by
 unfold M4 at h
 refine mF func106 ntmps106 R λA=>aU<|sS R (A4 (cs:=(A3 j)) 3 R iL R R)<|mA R<|aZ<|aU<|lF CY AI R R<|sQ R (Cd R iL iL)<|mM R<|vF DB AI R R<|vQ R (Cd R (iR R) iL)<|xN R<|mM R<|vF GR AI R R<|vQ R (Cd R (iR R) iL)<|xN R<|mM R<|vF F4 AI R R<|vQ R (Cd R (iR R) iL)<|xN R<|mM R<|vF CY AI R R<|vM R<|vQ R (B1 R (iR R)<|iR R)<|xN R<|mM R<|vF DB AI R R<|vM R<|vQ R (B1 R (iR R)<|iR R)<|xN R<|mM R<|vF GR AI R R<|vM R<|vF CY AI R R<|AE h λB l q=>vQ R (CJ R (iR R) (iR R)<|Ae l)<|vQ R (En R (iR R)<|iR R)<|xN R<|mM R<|vF F4 AI R R<|vM R<|vF DB AI R R<|AE q λC m w=>vQ R (CJ R (iR R) (iR R)<|Ae m)<|vQ R (En R (iR R)<|iR R)<|xN R<|mA R<|aZ ?_
 exact Zi<|yB w R
theorem iW{j l r}(h:M9 j l=some r):AX prog 107 [.agg<|A3 j,.agg<|A3 l] (rB r):=by
 unfold M9 at h
 exact mF func107 ntmps107 R λm=>aU<|sS R (A4 (cs:=(A3 j)) 2 R iL R R)<|sS R (A4 (cs:=(A3 l)) 3 R iL R R)<|mA R<|aZ<|aU<|lF CY AI R R<|lF CY AI R R<|xS R<|mM R<|vF CY AI R R<|vF CY AI R R<|vQ R (A5 R (iR R)<|iR R)<|vQ R (AN R<|iR R)<|wQ R (fB R DB iL fR R)<|wQ R (Ab (a:=rI j.Col) R AI (iR R) R R)<|wQ R (fB R DB iL fR R)<|wQ R (Ab (a:=rI l.Col) R AI (iR R) R R)<|wQ R (B1 R (iR R)<|iR R)<|vQ R (Bb R (iR R)<|iR R)<|xO R<|mA R<|aZ<|Zi<|yB h R
theorem YC{j l r}(h:OC j l=some r):AX prog 110 [.agg<|A3 j,.agg<|A3 l] (rB r):=by
 unfold OC at h
 exact mF func110 ntmps110 R λI=>aU<|sS R (A4 (cs:=(A3 j)) 2 R iL R R)<|sS R (A4 (cs:=(A3 l)) 3 R iL R R)<|mA R<|aZ<|aU<|lF CY AI R R<|lF CY AI R R<|lF GR AI R R<|AE h λJ m B=>xA R m<|xS R<|mM R<|vF CY AI R R<|vF CY AI R R<|vF GR AI R R<|AE B λM q C=>vQ R (JY R (iR R) (iR R)<|Ae q)<|vQ R (B1 R (iR R)<|iR R)<|xN R<|mM R<|vF DB AI R R<|vF DB AI R R<|vF F4 AI R R<|AE C λO w E=>vQ R (JY R (iR R) (iR R)<|Ae w)<|vQ R (B1 R (iR R)<|iR R)<|xN R<|mM R<|vF DB AI R R<|vF DB AI R R<|vF F4 AI R R<|AE E λT A F=>vQ R (JY R (iR R) (iR R)<|Ae A)<|vQ R (B1 R (iR R)<|iR R)<|xN R<|mA R<|aZ<|Zi<|yB F R
theorem fP{l:Aj}{m:Aj}{r:Bool}{j:Nat}(h:OM l m=some r):A9 prog 109 1 [.agg<|A3 m,.ptr 1000 j 0 0] [(1000,some<|.box j 86<|A3 l)] (λq h'=>∃(i:Nat→Nat),q=rB r∧h'=[(1000,some<|.box j 86<|A3 l)]):=by
 unfold OM at h
 refine EB func109 R R ntmps109 (Zo R) λB=>aU<|sS R (A4 (cs:=(A3 m)) 2 R iL R R)<|mA R<|aZ<|aU<|xC Cp R<|xC Cp R<|AE h λA w C=>cL (YC<|w) R<|mA R<|aZ ?_
 exact Zi<|Zy (s':=⟨[(3,rB A)],[(1000,some<|.box j 86<|A3 l)],(B+1),7⟩) wk<|CI (λ(r:Bool) q h'=>∃(i:Nat→Nat),q=rB r∧h'=[(1000,some<|.box j 86<|A3 l)]) C<|by exact⟨rB A,[(1000,some<|.box j 86<|A3 l)],R,⟨.inr R,Za⟩,R,R,AH [],R,R⟩
theorem iC{l:Aj}{m:List Aj}{r:Int}{j:Nat}(h:QJ l m=some r):A9 prog 137 1 [qd m,.fn 109 [.ptr 1000 j 0 0]] [(1000,some<|.box j 86<|A3 l)] (λq h'=>∃(i:Nat→Nat),q=rI r∧h'=[(1000,some<|.box j 86<|A3 l)]):=by
 unfold QJ at h
 refine EB func137 R R ntmps137 (Zo R) λn0=>aU<|mA R<|aZ<|aS λK2 c2 C=>aU<|mM R<|xL CQ R<|mM R<|aZ<|Ze<|BK h λo1 w E F=>?_
 have J1:∀(u2:Unit) (I:NN),o1=.nrm u2→K2 ⟨[],[(1000,some<|.box j 86<|A3 l)],(I 0),19⟩:=by
  intro u2 I e
  have h1:=E _ e
  refine c2 _<|aU<|mA R<|aZ ?_
  exact Zi<|Zy (s':=⟨[(4,rI<|(-1))],[(1000,some<|.box j 86<|A3 l)],(I 0),19⟩) wk<|CI (λ(r:Int) q h'=>∃(i:Nat→Nat),q=rI r∧h'=[(1000,some<|.box j 86<|A3 l)]) h1<|by exact⟨rI<|(-1),[(1000,some<|.box j 86<|A3 l)],R,⟨.inr R,Za⟩,R,R,AH [],R,R⟩
 refine Zw (λ(A:Int) J=>⟨[(0,qd m),(1,.fn 109 [.ptr 1000 j 0 0]),(7,rL m),(8,rI A)],[(1000,some<|.box j 86<|A3 l)],(J 0),19⟩) (AH [n0]) w wk ?_
 intro A J v1 M B
 have h2:N2 l m A=some v1:=M;unfold N2 at h2
 refine aU<|xS R<|aZ<|aT λc6=>cI R h2 (λO=>?_) λO=>?_
 ·refine Zc<|c6 _<|aT λc7=>Ze<|aU<|mM R<|mA R<|aZ<|aT λc9=>aR<|mM R<|mM R<|mM R<|AE O λx4 T h4=>xI CQ R T<|xB ((A3 x4)) Cp R<|AE h4 λr1 U h5=>?_
  refine Zu [1000] (hc:=[(1000,some<|.box j 86<|A3 l)]) (bs:=[.agg<|A3 x4]) (caps:=[.ptr 1000 j 0 0]) R R R R iL R ⟨.inl ⟨iL,R⟩,Za⟩ ⟨R,R,R,Za⟩ (by decide) (fP U) ?_
  intro i6 n1
  refine Bg [0,1,5,7,8,9,10,11,12,13,14,15,16] [1000] ?_
  refine aZ<|c9 _<|cI R h5 (λV=>?_) λV=>?_
  ·refine aT λX=>aG [5] [1000] ?_
   refine aR<|mM R<|mA R<|oZ X ?_
   exact Zi<|Zy (s':=⟨[(4,rI A)],[(1000,some<|.box j 86<|A3 l)],n1,19⟩) wk<|CI (λ(r:Int) q h'=>∃(i:Nat→Nat),q=rI r∧h'=[(1000,some<|.box j 86<|A3 l)]) (F _<|xH B V)<|by exact⟨rI A,[(1000,some<|.box j 86<|A3 l)],R,⟨.inr R,Za⟩,R,R,AH [],R,R⟩
  refine Zc<|c7 _<|aG [0,1,7,8] [1000] ?_
  exact aR<|AE V λx5 Z h7=>xA R Z<|mM R<|Zh<|Zt h7 (AH [n1]) wk
 exact Zm<|C _ _ wk<|J1 _ (AH [(J 0)])<|xH B O
theorem bK{l:Aj}{m:List Aj}{r:Bool}{j:Nat}(h:KW l m=some r):A9 prog 108 1 [qd m,.fn 109 [.ptr 1000 j 0 0]] [(1000,some<|.box j 86<|A3 l)] (λq h'=>∃(i:Nat→Nat),q=rB r∧h'=[(1000,some<|.box j 86<|A3 l)]):=by
 unfold KW at h
 refine EB func108 R R ntmps108 (Zo R) λF=>aU<|mA R<|aZ<|aT λB=>aR<|mM R<|mM R<|AE h λA w C=>?_
 refine Zu [1000] (hc:=[(1000,some<|.box j 86<|A3 l)]) (bs:=[qd m,.fn 109 [.ptr 1000 j 0 0]]) (caps:=[]) R R R R iL R ⟨.inl ⟨iL,R⟩,.inl ⟨iL,R⟩,Za⟩ ⟨R,R,R,Za⟩ (by decide) (iC w) ?_
 intro I E
 refine Bg [0,1,4,5,6,7] [1000] ?_
 refine sQ R (Cd R iL iL)<|mA R<|oZ B ?_
 exact Zi<|Zy (s':=⟨[(4,rB<|(decide<|0≤A))],[(1000,some<|.box j 86<|A3 l)],E,9⟩) wk<|CI (λ(r:Bool) q h'=>∃(i:Nat→Nat),q=rB r∧h'=[(1000,some<|.box j 86<|A3 l)]) C<|by exact⟨rB<|(decide<|0≤A),[(1000,some<|.box j 86<|A3 l)],R,⟨.inr R,Za⟩,R,R,AH [],R,R⟩
theorem gm{m r}(h:Lx m=some r):AX prog 74 (Qt m) (rI r):=by
 unfold Lx at h
 refine mF func74 ntmps74 R λI=>aU<|sS R (A4 (cs:=(By m)) 1 R iL R R)<|mA R<|aZ<|aT λc2=>aU<|lF Fc AI R R<|xS R<|mM R<|vF Fc AI R R<|vQ R (BU R (iR R) iL)<|xO R<|mM R<|vF Fp AI R R<|vQ R (B1 R (iR R) iL)<|xO R<|mM R<|vF Fp AI R R<|vQ R (BU R (iR R) iL)<|xO R<|aZ<|cI R h (λJ=>?_) λJ=>?_
 ·exact zI J R id
 refine Zc<|c2 _<|aT λc5=>aT λc6=>aG [1] [1] ?_
 refine aR<|lF Df Dr R R<|lF Fc AI R R<|lF Fp AI R R<|AE J λe1 M h2=>cL (db<|M) R<|mA R<|aZ<|c6 _<|aU<|mM R<|xU R<|aZ<|cI R h2 (λO=>?_) λO=>?_
 ·refine aT λc8=>aF [3] ?_
  exact aR<|mM R<|mA R<|aZ<|c8 _<|Zi<|yI O R
 refine Zc<|c5 _<|aS λK9 c9 T=>aT λU=>aG [1] [1] ?_
 refine aR<|lF Dk Dx R R<|xL CQ R<|mM R<|aZ<|U _<|Ze<|BK O λo1 F V l=>?_
 have J1:∀(u2:Unit) (i5:NN),o1=.nrm u2→K9 ⟨[],[],(i5 0),81⟩:=by
  intro u2 i5 e
  have h4:=V _ e
  exact c9 _<|zI h4 R id
 refine Zw (λ(X:Int) C=>⟨[(1,.ptr 1 I 0 0),(35,qd m.Merges),(36,rL m.Merges),(37,rI X)],[(1,some<|.box I 44<|By m)],(C 0),81⟩) (AH [(I+1)]) F wk ?_
 intro X C v1 Z j
 have h5:NL m X=some v1:=Z;unfold NL at h5
 refine aU<|xS R<|aZ<|aT λa0=>cI R h5 (λh6=>?_) λh6=>?_
 ·refine Zc<|a0 _<|aT λa1=>Ze<|aU<|mM R<|AE h6 λq a2 h7=>xI CQ R a2<|xB ((A3 q)) Cp R<|sS R (BD (cs:=FC) 5 R Hq R R)<|mA R<|Zk R R (A0 (ds:=(A3 q)) R GM iL R iL R R R R)<|aZ<|Ze<|aU<|xC Cp R<|lF Fc AI R R<|lF Fp AI R R<|AE h7 λr1 a6 h8=>cL (bV<|a6) R<|sQ R (A6 R iL)<|mA R<|aZ<|cI R h8 (λh9=>?_) λh9=>?_
  ·exact zI (l _<|xH j h9) R id
  refine aT λa7=>aG [1,4,5,35,36,37] [1,5] ?_
  refine aR<|lF GR AI R R<|xQ R<|mM R<|vF F4 AI R R<|vQ R (A5 R (iR R) iL)<|xN R<|mA R<|aZ<|a7 _<|cI R h9 (λw=>?_) λw=>?_
  ·exact zI (l _<|xH j w) R id
  refine aT λa8=>?_
  refine ZA BY (by kernel_rfl) ?_
  refine qP R (AN R iL)<|qP R (BU R iL iL)<|qP R (AN R iL)<|qO R (fB R Dk iL fR R)<|qO R (Ab (a:=qd m.Merges) R Dx (iR R) R R)<|qO R (AN R iL)<|AE w λx5 aa ab=>qO R (CJ R (iR R) iL<|Ae aa)<|AE ab λE ac ad=>qO R (BA R CQ.slice (iR R) (iR R) (λ_=>R)<|Ae ac)<|qO R (CV (cs:=(A3 E)) R Cp (iR R) R R)<|qO R (EK R Cp iL R R)<|AE ad λr2 ae af=>OL (.one R R R) R R (r:=rB r2) (caps:=[]) (bs:=[.agg<|A3 E,.agg<|A3 q]) R iL R ⟨⟨_,(iR R),.g (cs:=[.int .i64 E.Row,.int .i64 E.Col,.int .i64 E.H,.int .i64 E.W]) R R⟩,⟨_,(iR R),.g (cs:=[.int .i64 q.Row,.int .i64 q.Col,.int .i64 q.H,.int .i64 q.W]) R R⟩,Za⟩ (λhg=>iW<|Ae ae hg) R<|qO R (A6 R<|iR R)<|qP R (Bb R iL<|iR R)<|qP R (EI R iL)<|AQ.nil<|a8 _<|cI R af (λA=>?_) λA=>?_
  ·exact zI (l _<|xH j A) R id
  refine aT λag=>aG [1,4,5,35,36,37] [1,5] ?_
  refine aR<|lF Dk Dx R R<|mM R<|AE A λl1 ah ai=>?_
  refine sQ R (RU R CQ.slice iL (by exact R) (by exact⟨_,iL⟩) (λ_=>R) λ_=>ah) ?_
  refine sQ R (Km (bs:=[.ptr 5 (C 0) 0 0]) R<|by exact⟨iL,Za⟩) ?_
  refine AE ai λr3 aj ak=>?_
  refine Zu [5] (hc:=[(1000,some<|.box (C 0) 86<|A3 q)]) (bs:=[qd l1,.fn 109 [.ptr 1000 (C 0) 0 0]]) (caps:=[]) R R R R iL R ⟨.inl ⟨iL,R⟩,.inl ⟨iL,R⟩,Za⟩ ⟨R,R,R,Za⟩ (by decide) (bK aj) ?_
  intro i6 n1
  refine Bg [1,4,5,35,36,37,74,75,76,77,78,79] [1,5] ?_
  refine mA R<|aZ<|ag _<|cI R ak (λB=>?_) λB=>?_
  ·exact zI (l _<|xH j B) R id
  refine Zc<|a1 _<|aG [1,35,36,37] [1] ?_
  exact aR<|AE B λx7 al an=>xA R al<|mM R<|Zh<|Zt an (AH [n1]) wk
 exact Zm<|T _ _ wk<|J1 _ (AH [(C 0)])<|xH j h6
theorem XT{k j r}(h:Lo k j=some r):AX prog 75 [rI k,qc j] (rI r):=by
 unfold Lo at h
 refine mF func75 ntmps75 R λX=>aU<|mA R<|aZ<|aS λZ c2 A=>aU<|mM R<|xL Bt R<|mM R<|aZ<|Ze<|BK h λo1 l B C=>?_
 have J1:∀(T:Unit) (U:NN),o1=.nrm T→Z ⟨[],[],(U 0),36⟩:=by
  intro T U e
  have h1:=B _ e
  exact c2 _<|zI h1 R id
 refine Zw (λ(E:Int) q=>⟨[(0,rI k),(7,qc j),(8,rL j),(9,rI E)],[],(q 0),36⟩) (AH [X]) l wk ?_
 intro E q v1 F m
 have V:L7 k j E=some v1:=F;unfold L7 at V
 refine aU<|xS R<|aZ<|aT λc6=>cI R V (λI=>?_) λI=>?_
 ·refine Zc<|c6 _<|aT λc7=>Ze<|aU<|AE I λw J h4=>xI Bt R J<|xB ((BR w)) EO R<|sS R (BD (cs:=HO) 6 R Hx R R)<|Zk R R (A0 (ds:=(BR w)) R Hw iL R iL R R R R)<|aZ<|aU<|mM R<|xQ R<|mM R<|vF Gy BB R R<|vQ R (D2 R (iR R) iL)<|vQ R (AN R<|iR R)<|wQ R (fB R FY iL fR R)<|wQ R (Ab (a:=qb w.Attrs) R CP (iR R) R R)<|wQ R (DP R A8.slice<|iR R)<|wQ R (BU R (iR R) iL)<|vQ R (Cm R (iR R)<|iR R)<|xN R<|mM R<|vM R<|vQ R (A5 R (iR R) iL)<|vQ R (AN R<|iR R)<|wQ R (fB R Dj iL fR R)<|wQ R (Ab (a:=rI w.Ref) R AI (iR R) R R)<|wQ R (DV R (iR R) iL)<|vQ R (Bb R (iR R)<|iR R)<|xO R<|aZ<|cI R h4 (λM=>?_) λM=>?_
  ·exact zI (C _<|xH m M) R id
  refine Zc<|c7 _<|aF [0,7,8,9] ?_
  exact aR<|AE M λx5 O h6=>xA R O<|mM R<|Zh<|Zt h6 (AH [((q 0)+1)]) wk
 exact Zm<|A _ _ wk<|J1 _ (AH [(q 0)])<|xH m I
theorem kc{l r}(h:Je l=some r):AX prog 138 [rS l] (rB r):=by
 unfold Je at h
 refine mF func138 ntmps138 R λn0=>aU<|mA R<|aZ<|aT λc2=>aU<|mM R<|sQ R (E5 R iL iL)<|mM R<|vM R<|vQ R (DT R underlying9<|iR R)<|vQ R (BU R (iR R) iL)<|xO R<|mM R<|vM R<|vM R<|vQ R (DT R underlying9<|iR R)<|AE h λx1 B h1=>vQ R (CJ R (iR R) iL<|Ae B)<|AE h1 λa0 m h2=>vQ R (CM R underlying9 (iR R) (iR R)<|Ae m)<|vQ R (A5 R (iR R) iL)<|xO R<|aZ<|cI R h2 (λC=>?_) λC=>?_
 ·exact zB C R id
 refine Zc<|c2 _<|aS λK5 c5 E=>aT λc6=>aF [0] ?_
 refine aR<|mM R<|sQ R (DT R underlying9 iL)<|mM R<|aZ<|c6 _<|Ze<|BK C λo1 q F I=>?_
 have J1:∀(X:Unit) (Z:NN),o1=.nrm X→K5 ⟨[],[],(Z 0),35⟩:=by
  intro X Z e
  have h4:=F _ e
  exact c5 _<|zB h4 R id
 refine Zw (λ(J:Int) A=>⟨[(0,rS l),(20,rL l),(21,rI J)],[],(A 0),35⟩) (AH [n0]) q wk ?_
 intro J A v1 M w
 have h5:I6 l J=some v1:=M;unfold I6 at h5
 refine aU<|xS R<|aZ<|aT λc9=>cI R h5 (λO=>?_) λO=>?_
 ·refine Zc<|c9 _<|aT λT=>Ze<|aU<|mM R<|mA R<|aZ<|aU<|mM R<|mM R<|AE O λa1 j h7=>sQ R (CM R underlying9 iL iL λ_=>j)<|xS R<|mM R<|vM R<|vM R<|vQ R (CM R underlying9 (iR R) (iR R) λ_=>j)<|vQ R (BU R (iR R) iL)<|xO R<|aZ<|cI R h7 (λU=>?_) λU=>?_
  ·exact zB (I _<|xH w U) R id
  refine Zc<|T _<|aF [0,20,21] ?_
  exact aR<|AE U λx5 V h9=>xA R V<|mM R<|Zh<|Zt h9 (AH [(A 0)]) wk
 exact Zm<|E _ _ wk<|J1 _ (AH [(A 0)])<|xH w O
theorem Zp{j r}(h:Iu j=some r):AX prog 111 (dn j) (rI r):=by
 unfold Iu at h
 refine mF func111 ntmps111 R λC=>aU<|sS R (A4 (cs:=(BW j)) 1 R iL R R)<|mA R<|aZ<|aT λc2=>Ze<|aU<|lF FO AI R R<|xU R<|mM R<|vF FO AI R R<|vQ R (DV R (iR R) iL)<|xN R<|mA R<|aZ<|cI R h (λM=>?_) λM=>?_
 ·exact zI M R id
 refine aT λc5=>aG [1] [1] ?_
 refine aR<|lF HC AI R R<|xS R<|mM R<|vF HC AI R R<|vQ R (BU R (iR R) iL)<|xO R<|mM R<|vF Jv AI R R<|vQ R (B1 R (iR R) iL)<|xO R<|mM R<|vF Jv AI R R<|vQ R (BU R (iR R) iL)<|xO R<|mM R<|vF Ex AI R R<|vQ R (B1 R (iR R) iL)<|xO R<|mM R<|vF Ex AI R R<|vQ R (BU R (iR R) iL)<|xO R<|mA R<|aZ<|c5 _<|cI R M (λO=>?_) λO=>?_
 ·exact zI O R id
 refine aS λK7 c7 E=>aT λc8=>aG [1] [1] ?_
 refine aR<|lF FO AI R R<|xQ R<|mM R<|vF Kf BB R R<|vQ R (D2 R (iR R) iL)<|vQ R (AN R<|iR R)<|wQ R (fB R Ii iL fR R)<|wQ R (Ab (a:=rS j.Value) R BB (iR R) R R)<|wQ R (D2 R (iR R) iL)<|vQ R (Cm R (iR R)<|iR R)<|xN R<|mA R<|aZ<|c8 _<|BP O λp1 F T=>?_
 have J1:∀(U:Bool) (J:NN),p1=U→K7 ⟨[(1,.ptr 1 C 0 0),(41,rB U)],[(1,some<|.box C 129<|BW j)],(J 0),116⟩:=by
  intro U J e
  have h3:=T _ e
  refine c7 _<|cI R h3 (λV=>?_) λV=>?_
  ·exact zI V R id
  refine aU<|lF FO AI R R<|xQ R<|mM R<|vF Fy AI R R<|vQ R (B1 R (iR R) iL)<|vQ R (AN R<|iR R)<|wQ R (fB R Fy iL fR R)<|wQ R (Ab (a:=rI j.Parent) R AI (iR R) R R)<|wQ R (BU R (iR R) iL)<|vQ R (Cm R (iR R)<|iR R)<|xN R<|mA R<|aZ<|cI R V (λX=>?_) λX=>?_
  ·exact zI X R id
  refine aS λZ a0 l=>aT λa1=>aG [1] [1] ?_
  refine aR<|lF FO AI R R<|xQ R<|mM R<|vF Kv BB R R<|AE X λr1 a2 h6=>vL (λhg=>kc<|Ae a2 hg) R<|vQ R (A6 R<|iR R)<|xN R<|mA R<|aZ<|a1 _<|BP h6 λp2 I a6=>?_
  have J2:∀(x2:Bool) (i2:NN),p2=x2→Z ⟨[(1,.ptr 1 C 0 0),(82,rB x2)],[(1,some<|.box C 129<|BW j)],(i2 0),116⟩:=by
   intro x2 i2 e
   have h7:=a6 _ e
   refine a0 _<|cI R h7 (λh8=>?_) λh8=>?_
   ·exact zI h8 R id
   refine aU<|lF FO AI R R<|xQ R<|mM R<|vF Ii BB R R<|vQ R (D2 R (iR R) iL)<|xN R<|mM R<|vF Ii BB R R<|AE h8 λr2 a7 h9=>vL (λhg=>Wy<|Ae a7 hg) R<|vQ R (A6 R<|iR R)<|xN R<|mA R<|aZ<|cI R h9 (λm=>?_) λm=>?_
   ·exact zI m R id
   exact Zc<|c2 _<|zI m R id
  refine aC R (λq=>?_) λq=>?_
  ·have w:=Dz q I
   exact Zc<|l _ _ wk<|J2 _ (AH [(J 0)]) (Zf w).symm
  ·have w:=D6 q I
   refine aG [1] [1] ?_
   exact aR<|lF FO AI R R<|xQ R<|mM R<|vF Kf BB R R<|AE w λr3 a8 aa=>vL (λhg=>T0<|Ae a8 hg) R<|vQ R (A6 R<|iR R)<|xN R<|mA R<|Zh<|l _ _ wk<|J2 _ (AH [(J 0)]) (Zf aa).symm
 refine aC R (λA=>?_) λA=>?_
 ·have B:=Dz A F
  exact Zc<|E _ _ wk<|J1 _ (AH [(C+1)]) (Zf B).symm
 ·have B:=D6 A F
  refine aG [1] [1] ?_
  exact aR<|lF FO AI R R<|xQ R<|mM R<|vF Fy AI R R<|vQ R (DV R (iR R) iL)<|vQ R (AN R<|iR R)<|wQ R (fB R Kv iL fR R)<|wQ R (Ab (a:=rS j.Place) R BB (iR R) R R)<|wQ R (D2 R (iR R) iL)<|vQ R (Cm R (iR R)<|iR R)<|xN R<|mA R<|Zh<|E _ _ wk<|J1 _ (AH [(C+1)]) (Zf B).symm
theorem cQ{l m r}(h:JJ l m=some r):AX prog 112 [.agg<|BW l,.agg<|BW m] (rI r):=by
 unfold JJ at h
 refine mF func112 ntmps112 R λj=>aU<|sS R (A4 (cs:=(BW l)) 2 R iL R R)<|sS R (A4 (cs:=(BW m)) 3 R iL R R)<|mA R<|aZ<|aT λC=>AE h λq w E=>?_
 refine rP 9 [pO 5<|.ptr 2 j 0 0,pO 6<|rI l.Clock,pO 7<|.ptr 3 (j+1) 0 0,pO 8<|rI m.Clock,pO 9<|rI q,pO 10<|.ptr 2 j 0 1,pO 11<|rI l.Site,pO 12<|.ptr 3 (j+1) 0 1,pO 13<|rI m.Site] BY R (by exact⟨oB [(2,.ptr 2 j 0 0)] [(2,some<|.box j 129<|BW l)]<|fB R HC (.inl R) (λ_=>R) R,oB [(5,.ptr 2 j 0 0)] [(2,some<|.box j 129<|BW l)]<|Ab (a:=rI l.Clock) R AI (.inl R) R R,oB [(3,.ptr 3 (j+1) 0 0)] [(3,some<|.box (j+1) 129<|BW m)]<|fB R HC (.inl R) (λ_=>R) R,oB [(7,.ptr 3 (j+1) 0 0)] [(3,some<|.box (j+1) 129<|BW m)]<|Ab (a:=rI m.Clock) R AI (.inl R) R R,oD (λ_=>[(6,rI l.Clock),(8,rI m.Clock)]) (λ_=>[]) λF e O n=>EJ (r:=rI q) (caps:=[]) (bs:=[rI l.Clock,rI m.Clock]) R (.inl R) R ⟨⟨_,(.inl R),.d R⟩,⟨_,(.inl R),.d R⟩,Za⟩ (λ_=>J9<|w) R,oB [(2,.ptr 2 j 0 0)] [(2,some<|.box j 129<|BW l)]<|fB R Jv (.inl R) (λ_=>R) R,oB [(10,.ptr 2 j 0 1)] [(2,some<|.box j 129<|BW l)]<|Ab (a:=rI l.Site) R AI (.inl R) R R,oB [(3,.ptr 3 (j+1) 0 0)] [(3,some<|.box (j+1) 129<|BW m)]<|fB R Jv (.inl R) (λ_=>R) R,oB [(12,.ptr 3 (j+1) 0 1)] [(3,some<|.box (j+1) 129<|BW m)]<|Ab (a:=rI m.Site) R AI (.inl R) R R,Za⟩) λF T=>?_
 refine Bg [0,1,2,3,4,5,6,7,8,9,10,11,12,13] [2,3] ?_
 exact AE E λI A J=>cL (J9<|A) R<|sS R (Bu 15 R B0 (f:=(Ad .i64)) (l:=([q,I]:List Int)) ⟨R,⟨_,iL,R⟩,R,⟨_,iL,R⟩,Za⟩ R (λ_=>R) R)<|AE J λU B M=>cL (Sm<|B) R<|mA R<|aZ<|C _<|Zi<|yI M R
theorem Xp{w r}(h:JZ w=some r):AX prog 76 [qf w] (rI r):=by
 unfold JZ at h
 refine mF func76 ntmps76 R λn0=>aU<|mA R<|aZ<|aS λK2 c2 E=>aU<|mM R<|xL Da R<|mM R<|aZ<|Ze<|BK h λo1 A F B=>?_
 have J1:∀(u2:Unit) (i5:NN),o1=.nrm u2→K2 ⟨[],[],(i5 0),31⟩:=by
  intro u2 i5 e
  have h1:=F _ e
  exact c2 _<|zI h1 R id
 refine Zw (λ(I:Int) C=>⟨[(0,qf w),(6,qf w),(7,rL w),(8,rI I)],[],(C 0),31⟩) (AH [n0]) A wk ?_
 intro I C v1 J m
 have h2:Iw w I=some v1:=J;unfold Iw at h2
 refine aU<|xS R<|aZ<|aT λc6=>cI R h2 (λM=>?_) λM=>?_
 ·refine Zc<|c6 _<|aT λc7=>Ze<|aU<|mM R<|AE M λj O h4=>xI Da R O<|xB ((BW j)) GG R<|sS R (BD (cs:=OS) 4 R PL R R)<|mA R<|Zk R R (A0 (ds:=(BW j)) R P7 iL R iL R R R R)<|aZ<|aT λc9=>aU<|xC GG R<|AE h4 λe1 T h5=>cL (Zp<|T) R<|mA R<|aZ<|aU<|mM R<|xU R<|aZ<|cI R h5 (λU=>?_) λU=>?_
  ·refine aT λV=>aF [5] ?_
   exact aR<|mM R<|mA R<|aZ<|V _<|Zi<|yI (B _<|xH m U) R
  refine Zc<|c9 _<|aT λX=>aG [0,3,4,6,7,8] [4] ?_
  refine ZA BY (by kernel_rfl) ?_
  refine qP R (AN R iL)<|qP R (BU R iL iL)<|qP R (AN R iL)<|qO R (AN R iL)<|qO R (AN R iL)<|AE U λx5 Z h7=>qO R (CJ R (iR R) iL<|Ae Z)<|AE h7 λl a0 h8=>qO R (BA R Da.slice (iR R) (iR R) (λ_=>R)<|Ae a0)<|qO R (CV (cs:=(BW l)) R GG (iR R) R R)<|qO R (EK R GG iL R R)<|AE h8 λr1 a1 h9=>OL (.one R R R) R R (r:=rI r1) (caps:=[]) (bs:=[.agg<|BW l,.agg<|BW j]) R iL R ⟨⟨_,(iR R),.g (cs:=[.int .i64 l.Clock,.int .i64 l.Site,.int .i64 l.Kind,.int .i64 l.Item,.int .i64 l.Parent,.str l.Place,.str l.Name,.str l.Value]) R R⟩,⟨_,(iR R),.g (cs:=[.int .i64 j.Clock,.int .i64 j.Site,.int .i64 j.Kind,.int .i64 j.Item,.int .i64 j.Parent,.str j.Place,.str j.Name,.str j.Value]) R R⟩,Za⟩ (λhg=>cQ<|Ae a1 hg) R<|qO R (Cd R (iR R) iL)<|qP R (Bb R iL<|iR R)<|AQ.nil<|X _<|cI R h9 (λq=>?_) λq=>?_
  ·exact zI (B _<|xH m q) R id
  exact Zc<|c7 _<|aR<|AE q λx7 a2 a6=>xA R a2<|mM R<|Zh<|Zt a6 (AH [((C 0)+1)]) wk
 exact Zm<|E _ _ wk<|J1 _ (AH [(C 0)])<|xH m M
theorem Xb{n1 r}(h:Cr n1=some r):AX prog 36 (Gc n1) (rI r):=by
 unfold Cr at h
 refine mF func36 ntmps36 R λA=>aU<|sS R (A4 (cs:=(Ax n1)) 1 R iL R R)<|mA R<|aZ<|aT λc2=>Ze<|aU<|lF Cn AI R R<|xS R<|mM R<|vF Cn AI R R<|vQ R (BU R (iR R) iL)<|xO R<|mA R<|aZ<|cI R h (λV=>?_) λV=>?_
 ·exact zI V R id
 refine aT λc5=>aG [1] [1] ?_
 refine aR<|lF CO AI R R<|xS R<|mM R<|vF CO AI R R<|vQ R (Cd R (iR R) iL)<|xO R<|mM R<|vF Cn AI R R<|vQ R (A5 R (iR R) iL)<|vF CO AI R R<|vQ R (A5 R (iR R) iL)<|vQ R (gY R underlying4 (iR R)<|iR R)<|xO R<|mA R<|aZ<|c5 _<|cI R V (λX=>?_) λX=>?_
 ·exact zI X R id
 refine Zc<|c2 _<|aT λc7=>aT λc8=>aG [1] [1] ?_
 refine aR<|lF Lj CP R R<|AE X λe1 Z h3=>cL (Sz<|Z) R<|mA R<|aZ<|c8 _<|aU<|mM R<|xU R<|aZ<|cI R h3 (λh4=>?_) λh4=>?_
 ·exact aU<|mM R<|mA R<|aZ<|Zi<|yI h4 R
 refine Zc<|c7 _<|aT λa0=>?_
 refine ZA BY (by kernel_rfl) ?_
 refine qP R (fB R CO iL fR R)<|qP R (Ab (a:=rI n1.Kind) R AI iL R R)<|AE h4 λl O h5=>AQ.stepC R R R (r:=rB l) (caps:=[]) (bs:=[rI n1.Kind]) R iL R ⟨⟨_,iL,.d R⟩,Za⟩ (λ_=>Uc<|O) R<|qP R (AN R iL)<|qO R (fB R CO iL fR R)<|qO R (Ab (a:=rI n1.Kind) R AI (iR R) R R)<|AE h5 λm a1 h6=>OL (.one R R R) R R (r:=rB m) (caps:=[]) (bs:=[rI n1.Kind]) R iL R ⟨⟨_,(iR R),.d R⟩,Za⟩ (λhg=>fQ<|Ae a1 hg) R<|qP R (Cm R iL<|iR R)<|qP R (fB R CO iL fR R)<|qP R (Ab (a:=rI n1.Kind) R AI iL R R)<|AE h6 λj B h7=>AQ.stepC R R R (r:=rB j) (caps:=[]) (bs:=[rI n1.Kind]) R iL R ⟨⟨_,iL,.d R⟩,Za⟩ (λ_=>XS<|B) R<|qP R (EI R iL)<|qP R (EI R iL)<|AQ.nil<|a0 _<|aT λa2=>aS λa6 a7 C=>aG [1,4,5] [1] ?_
 refine aR<|mM R<|sQ R (A6 R iL)<|mM R<|vF ET Ea R R<|vQ R (DP R Bx.slice<|iR R)<|vQ R (BU R (iR R) iL)<|xN R<|mM R<|vM R<|vQ R (A6 R<|iR R)<|vQ R (AN R<|iR R)<|wQ R (fB R Ds iL fR R)<|wQ R (Hg (ds:=(By n1.Grid)) R Gb (iR R) R R R) ?_
 refine wQ R (B7 R dW (q:=[]) (by exact Za) (cs:=Ox)<|by rfl) ?_
 refine BP h7 λp1 T a8=>?_
 have J1:∀(x1:Bool) (i1:NN),p1=x1→a6 ⟨[(1,.ptr 1 A 0 0),(4,rB<|(l||m)),(5,rB j),(81,rB x1)],[(1,some<|.box A 47<|Ax n1)],(i1 0),107⟩:=by
  intro x1 i1 e
  have h8:=a8 _ e
  refine a7 _<|cI R h8 (λh9=>?_) λh9=>?_
  ·exact zI h9 R id
  refine Zc<|a2 _<|aT λaa=>Ze<|aU<|mM R<|mA R<|aZ<|cI R h9 (λF=>?_) λF=>?_
  ·refine aT λab=>?_
   refine ZA BY (by kernel_rfl) ?_
   exact qP R (fB R ET iL fR R)<|qP R (Ab (a:=qe n1.Flow) R Ea iL R R)<|qP R (fB R CO iL fR R)<|qP R (Ab (a:=rI n1.Kind) R AI iL R R)<|AQ.stepC R R R (r:=rB l) (caps:=[]) (bs:=[rI n1.Kind]) R iL R ⟨⟨_,iL,.d R⟩,Za⟩ (λ_=>Uc<|O) R<|AE F λr4 ac ad=>AQ.stepC R R R (r:=rI r4) (caps:=[]) (bs:=[qe n1.Flow,rB l]) R iL R ⟨⟨_,iL,.d R⟩,⟨_,iL,.d R⟩,Za⟩ (λ_=>gM<|ac) R<|qP R (EI R iL)<|AQ.nil<|ab _<|Zi<|yI ad R
  refine aU<|mM R<|mA R<|aZ<|cI R F (λI=>?_) λI=>?_
  ·refine aT λae=>aU<|sQ R (fB R Ds iL fR R)<|sQ R (Hg (ds:=(By n1.Grid)) R Gb iL R R R)<|AE I λe2 af ag=>cL (gm<|af) R<|mA R<|aZ<|aT λah=>aG [1,6] [1] ?_
   refine aR<|mM R<|xU R<|aZ<|ah _<|cI R ag (λJ=>?_) λJ=>?_
   ·exact aU<|mM R<|mA R<|aZ<|Zi<|yI J R
   exact Zc<|ae _<|aU<|lF CO AI R R<|sQ R (fB R Ds iL fR R)<|lF Df Dr R R<|AE J λr5 ai aj=>cL (XT<|ai) R<|mA R<|aZ<|Zi<|yI aj R
  exact Zc<|aa _<|aU<|lF FX GL R R<|AE I λr6 ak al=>cL (Xp<|ak) R<|mA R<|aZ<|Zi<|yI al R
 refine AO.split (((!(l||m))&&(0<(n1.Flow.length:Int)))==false) (λq=>?_) λq=>?_
 ·have E:=Dz q T
  refine AO.weak (by exact QU (e':=[(1,.ptr 1 A 0 0),(4,rB<|(l||m)),(5,rB j),(51,rB<|(l||m)),(52,rB<|(!(l||m))),(53,rB<|(!(l||m))),(58,rB<|((!(l||m))&&(0<(n1.Flow.length:Int)))),(59,rB<|((!(l||m))&&(0<(n1.Flow.length:Int)))),(60,rB j),(61,rB<|(!j)),(62,rB<|(!j)),(63,.whn ((!j)==true)<|.ptr 1 A 0 4),(64,.whn ((!j)==true)<|.agg<|By n1.Grid),(65,.whn ((!j)==true)<|.agg Ox)]) q ⟨.inl R,.inl R,.inl R,.inl R,.inl R,.inl R,.inl R,.inl R,.inr iL,.inr iL,.inr iL,.inr<|.inr<|.inl ⟨_,_,R,R⟩,.inr<|.inr<|.inl ⟨_,_,R,R⟩,.inr<|.inr<|.inl ⟨_,_,R,R⟩,Za⟩) ?_
  refine AO.split ((!j)==true) (λw=>?_) λw=>?_
  ·have M:=Dz w E
   refine AO.weak (by exact QU (e':=[(1,.ptr 1 A 0 0),(4,rB<|(l||m)),(5,rB j),(51,rB<|(l||m)),(52,rB<|(!(l||m))),(53,rB<|(!(l||m))),(58,rB<|((!(l||m))&&(0<(n1.Flow.length:Int)))),(59,rB<|((!(l||m))&&(0<(n1.Flow.length:Int)))),(60,rB j),(61,rB<|(!j)),(62,rB<|(!j)),(63,.ptr 1 A 0 4),(64,.agg<|By n1.Grid),(65,.agg Ox)]) w ⟨.inl R,.inl R,.inl R,.inl R,.inl R,.inl R,.inl R,.inl R,.inl R,.inl R,.inl R,.inr iL,.inr iL,.inr iL,Za⟩) ?_
   refine AO.weak (by exact Am.cv (e':=[(1,.ptr 1 A 0 0),(4,rB<|(l||m)),(5,rB j),(51,rB<|(l||m)),(52,rB<|(!(l||m))),(53,rB<|(!(l||m))),(58,rB<|((!(l||m))&&(0<(n1.Flow.length:Int)))),(59,rB<|((!(l||m))&&(0<(n1.Flow.length:Int)))),(60,rB j),(61,rB<|(!j)),(62,rB<|(!j)),(63,.ptr 1 A 0 4),(64,.agg<|By n1.Grid),(65,.agg [rI 0,rI 0,.r<|.sl [],.r<|.sl []])]) (h':=[(1,some<|.box A 47<|Ax n1)]) ⟨jL,jL,jL,jL,jL,jL,jL,jL,jL,jL,jL,jL,jL,.inr ⟨_,_,R,R,⟨.inl R,.inl R,.inr<|.inr ⟨R,R⟩,.inr<|.inr ⟨R,R⟩,Za⟩⟩,Za⟩ ⟨.inl R,Za⟩ nL) ?_
   exact AE M λr7 an ao=>G2 (.one R R R) w R R (EJ (r:=rB r7) (caps:=[]) (bs:=[.agg<|By n1.Grid,.agg [rI 0,rI 0,.r<|.sl [],.r<|.sl []]]) R (.inl R) R ⟨⟨_,(.inl R),.g (cs:=[.int .i64 n1.Grid.Rows,.int .i64 n1.Grid.Cols,.sl<|n1.Grid.Cells.map Ak.row,.sl<|n1.Grid.Merges.map Aj.row]) R R⟩,⟨_,(.inl R),.g (cs:=[.int .i64 0,.int .i64 0,.sl<|[].map Ak.row,.sl<|[].map Aj.row]) R R⟩,Za⟩ (λ_=>fd<|an) R)<|G2 (.one R R R) w R R (DN (A6 R<|.inl R) _)<|G2 (.one R R R) q R R (DN (Bb R (.inl R)<|.inl R) _)<|sQ R (Cm R iL iL)<|mM R<|vF CO AI R R<|AE ao λr8 aq ar=>vL (λhg=>Qv<|Ae aq hg) R<|vQ R (A6 R<|iR R)<|vQ R (AN R<|iR R)<|wQ R (fB R FX iL fR R)<|wQ R (Ab (a:=qf n1.Draw) R GL (iR R) R R)<|wQ R (DP R Da.slice<|iR R)<|wQ R (BU R (iR R) iL)<|vQ R (Bb R (iR R)<|iR R)<|xO R<|Zh<|C _ _ wk<|J1 _ (AH [(A+1)]) (Zf ar).symm
  ·have M:=D6 w E
   exact Fu (.one R R R) w R R<|Fu (.one R R R) w R R<|G2 (.one R R R) q R R (DN (Bb R (.inl R)<|iR R) _)<|sQ R (Cm R iL iL)<|mM R<|vF CO AI R R<|AE M λr9 au av=>vL (λhg=>Qv<|Ae au hg) R<|vQ R (A6 R<|iR R)<|vQ R (AN R<|iR R)<|wQ R (fB R FX iL fR R)<|wQ R (Ab (a:=qf n1.Draw) R GL (iR R) R R)<|wQ R (DP R Da.slice<|iR R)<|wQ R (BU R (iR R) iL)<|vQ R (Bb R (iR R)<|iR R)<|xO R<|Zh<|C _ _ wk<|J1 _ (AH [(A+1)]) (Zf av).symm
 ·have E:=D6 q T
  exact Fu (.two R R R) (T5 q) R R<|Fu (.two R R R) (T5 q) R R<|Fu (.one R R R) q R R<|xO R<|mM R<|vF CO AI R R<|AE E λax U aw=>vL (λhg=>Qv<|Ae U hg) R<|vQ R (A6 R<|iR R)<|vQ R (AN R<|iR R)<|wQ R (fB R FX iL fR R)<|wQ R (Ab (a:=qf n1.Draw) R GL (iR R) R R)<|wQ R (DP R Da.slice<|iR R)<|wQ R (BU R (iR R) iL)<|vQ R (Bb R (iR R)<|iR R)<|xO R<|Zh<|C _ _ wk<|J1 _ (AH [(A+1)]) (Zf aw).symm
theorem Zs{q r}(h:HH q=some r):AX prog 42 [qe q] (.r<|.sl<|r.map<|Ad .i64):=by
 unfold HH at h
 refine mF func42 ntmps42 R λF=>aU<|mA R<|aZ<|aU<|mA R<|aZ<|aS λK3 c3 M=>aU<|mM R<|xL Bx R<|mM R<|aZ<|Ze<|BP h λo1 C O=>?_
 have J1:∀(j:List Int) (I:NN),o1=j→K3 ⟨[(3,.own 5003<|I 0)],[(5003,some<|.arr (I 0) 3 1<|j.map<|Ad .i64)],(I 1),22⟩:=by
  intro j I e
  have h1:=O _ e
  exact c3 _<|aU<|mM R<|mA R<|aZ<|Zi<|Cf (P:=prog) (λ(r:(List Int))=>.r<|.sl<|r.map<|Ad .i64) h1 iL<|.t<|.one<|.own R
 refine CX (λ(J:Int) (l:List Int) w=>⟨[(3,.own 5003<|w 0),(6,qe q),(7,rL q),(8,rI J)],[(5003,some<|.arr (w 0) 3 1<|l.map<|Ad .i64)],(w 1),22⟩) (AH [F,(F+1)]) C (Zx (Zx (G0 3 5003 3 1 (by decide) R)<|by exact Am.cv (e':=[(0,qe q),(2,cZ),(3,.own 5003 F),(6,qe q),(7,rL q),(8,rI 0)]) (h':=[(5003,some<|.arr F 3 1<|([]:List Int).map<|Ad .i64)]) ⟨jL,jL,jL,jL,jL,jL,Za⟩ ⟨.inl R,Za⟩ nL) wk) ?_
 intro J l w v1 T U
 have h2:E4 q J l=some v1:=T;unfold E4 at h2
 refine aU<|xS R<|aZ<|aT λc7=>cI R h2 (λV=>?_) λV=>?_
 ·refine Zc<|c7 _<|aS λK8 c8 E=>Ze<|BP V λp1 X Z=>?_
  have J2:∀(m:List Int) (B:NN),p1=m→K8 ⟨[(3,.own 5003<|B 0),(6,qe q),(7,rL q),(8,rI J)],[(5003,some<|.arr (B 0) 3 1<|m.map<|Ad .i64)],(B 1),22⟩:=by
   intro m B e
   have h4:=Z _ e
   exact c8 _<|aR<|AE h4 λx4 a0 h5=>xA R a0<|mM R<|Zh<|ZF h5 (AH [(B 0),(B 1)]) wk
  refine aU<|AE X λx5 a1 h6=>xI Bx R a1<|xB ((B9 x5)) Hc R<|sS R (BD (cs:=Mf) 5 R NA R R)<|Zk R R (A0 (ds:=(B9 x5)) R KV iL R iL R R R R)<|aZ<|aU<|lF DU AI R R<|xU R<|aZ<|cI R h6 (λh7=>?_) λh7=>?_
  ·exact aR<|mM R<|lF DU AI R R<|sS R (Bu 18 R B0 (f:=(Ad .i64)) (l:=([x5.Ref]:List Int)) ⟨R,⟨_,iL,R⟩,Za⟩ R (λ_=>R) R)<|AE h7 λa2 A h8=>sS R (DL R B0 iL R (.inr<|.inl ⟨_,_,iL,R⟩) A)<|mA R<|Zh<|E _ _ wk<|J2 _ (AH [((w 1)+2),((w 1)+3)]) (Zf h8).symm
  exact Zc<|E _ _ wk<|J2 _ (AH [(w 0),((w 1)+1)]) (Zf h7).symm
 exact Zm<|M _ _ wk<|J1 _ (AH [(w 0),(w 1)])<|xH U V
theorem Yq{w r}(h:JA w=some r):A9 prog 42 1 [qe w] [] (λM h'=>∃(i:Nat→Nat),M=.own 1000 (i 0)∧h'=[(1000,some<|.arr (i 0) 3 1<|r.map<|Ad .i64)]):=by
 unfold JA at h
 refine EB func42 R R ntmps42 (Zo R) λI=>aU<|mA R<|aZ<|aU<|mA R<|aZ<|aS λK3 c3 O=>aU<|mM R<|xL Bx R<|mM R<|aZ<|Ze<|BP h λo1 E T=>?_
 have J1:∀(j:List Int) (l:NN),o1=j→K3 ⟨[(3,.own 5003<|l 0)],[(5003,some<|.arr (l 0) 3 1<|j.map<|Ad .i64)],(l 1),22⟩:=by
  intro j l e
  have h1:=T _ e
  refine c3 _<|aU<|mM R<|mA R<|aZ ?_
  exact Zi<|Zy (s':=⟨[(2,.own 1000<|l 1)],[(1000,some<|.arr (l 1) 3 1<|j.map<|Ad .i64)],((l 1)+1),22⟩) (Zx (Zx (Am.ren 2 5003 1000 R R R)<|by exact Am.cv (e':=[(2,.own 1000<|l 1)]) (h':=[(1000,some<|.arr (l 1) 3 1<|j.map<|Ad .i64)]) ⟨jL,Za⟩ ⟨.inl R,Za⟩ nL) wk)<|CI (λ(r:(List Int)) M h'=>∃(i:Nat→Nat),M=.own 1000 (i 0)∧h'=[(1000,some<|.arr (i 0) 3 1<|r.map<|Ad .i64)]) h1<|by exact⟨.own 1000<|l 1,[(1000,some<|.arr (l 1) 3 1<|j.map<|Ad .i64)],R,⟨.inr R,Za⟩,R,R,AH [(l 1)],R,R⟩
 refine CX (λ(J:Int) (m:List Int) A=>⟨[(3,.own 5003<|A 0),(6,qe w),(7,rL w),(8,rI J)],[(5003,some<|.arr (A 0) 3 1<|m.map<|Ad .i64)],(A 1),22⟩) (AH [I,(I+1)]) E (Zx (Zx (G0 3 5003 3 1 (by decide) R)<|by exact Am.cv (e':=[(0,qe w),(2,cZ),(3,.own 5003 I),(6,qe w),(7,rL w),(8,rI 0)]) (h':=[(5003,some<|.arr I 3 1<|([]:List Int).map<|Ad .i64)]) ⟨jL,jL,jL,jL,jL,jL,Za⟩ ⟨.inl R,Za⟩ nL) wk) ?_
 intro J m A v1 U V
 have h2:EX w J m=some v1:=U;unfold EX at h2
 refine aU<|xS R<|aZ<|aT λc7=>cI R h2 (λX=>?_) λX=>?_
 ·refine Zc<|c7 _<|aS λK8 c8 F=>Ze<|BP X λp1 Z a0=>?_
  have J2:∀(q:List Int) (C:NN),p1=q→K8 ⟨[(3,.own 5003<|C 0),(6,qe w),(7,rL w),(8,rI J)],[(5003,some<|.arr (C 0) 3 1<|q.map<|Ad .i64)],(C 1),22⟩:=by
   intro q C e
   have h4:=a0 _ e
   exact c8 _<|aR<|AE h4 λx4 a1 h5=>xA R a1<|mM R<|Zh<|ZF h5 (AH [(C 0),(C 1)]) wk
  refine aU<|AE Z λx5 a2 h6=>xI Bx R a2<|xB ((B9 x5)) Hc R<|sS R (BD (cs:=Mf) 5 R NA R R)<|Zk R R (A0 (ds:=(B9 x5)) R KV iL R iL R R R R)<|aZ<|aU<|lF DU AI R R<|xU R<|aZ<|cI R h6 (λh7=>?_) λh7=>?_
  ·exact aR<|mM R<|lF DU AI R R<|sS R (Bu 18 R B0 (f:=(Ad .i64)) (l:=([x5.Ref]:List Int)) ⟨R,⟨_,iL,R⟩,Za⟩ R (λ_=>R) R)<|AE h7 λa6 B h8=>sS R (DL R B0 iL R (.inr<|.inl ⟨_,_,iL,R⟩) B)<|mA R<|Zh<|F _ _ wk<|J2 _ (AH [((A 1)+2),((A 1)+3)]) (Zf h8).symm
  exact Zc<|F _ _ wk<|J2 _ (AH [(A 0),((A 1)+1)]) (Zf h7).symm
 exact Zm<|O _ _ wk<|J1 _ (AH [(A 0),(A 1)])<|xH V X
theorem lR{n1 r}(h:GT n1=some r):AX prog 38 (Gc n1) (.r<|.sl<|r.map<|Ad .i64):=by
 unfold GT at h
 refine mF func38 ntmps38 R λn0=>aU<|sS R (A4 (cs:=(Ax n1)) 1 R iL R R)<|mA R<|aZ<|aT λc2=>aR<|lF ET Ea R R<|AE h λw1 I h1=>?_
 refine Zu [8] (hc:=[]) (bs:=[qe n1.Flow]) (caps:=[]) R R R R iL R ⟨.inl ⟨iL,R⟩,Za⟩ Za (by decide) (Yq I) ?_
 intro i1 n2
 refine Bg [0,1,2,6,7,8] [1,8] ?_
 refine mA R<|aZ<|c2 _<|aS λK3 c3 J=>aU<|sQ R (fB R Ds iL fR R)<|lF Df Dr R R<|xL Bt R<|mM R<|aZ<|Ze<|BP h1 λo1 B M=>?_
 have J1:∀(j:List Int) (E:NN),o1=j→K3 ⟨[(3,.own 8<|E 0)],[(8,some<|.arr (E 0) 3 1<|j.map<|Ad .i64)],(E 1),27⟩:=by
  intro j E e
  have h2:=M _ e
  exact c3 _<|aU<|mM R<|mA R<|aZ<|Zi<|Cf (P:=prog) (λ(r:(List Int))=>.r<|.sl<|r.map<|Ad .i64) h2 iL<|.t<|.one<|.own R
 refine CX (λ(F:Int) (l:List Int) q=>⟨[(3,.own 8<|q 0),(11,qc n1.Grid.Cells),(12,rL n1.Grid.Cells),(13,rI F)],[(8,some<|.arr (q 0) 3 1<|l.map<|Ad .i64)],(q 1),27⟩) (AH [(i1 0),n2]) B wk ?_
 intro F l q v1 O T
 have h3:Dn n1 F l=some v1:=O;unfold Dn at h3
 refine aU<|xS R<|aZ<|aT λc7=>cI R h3 (λU=>?_) λU=>?_
 ·refine Zc<|c7 _<|aS λK8 c8 C=>Ze<|BP U λp1 V X=>?_
  have J2:∀(m:List Int) (A:NN),p1=m→K8 ⟨[(3,.own 8<|A 0),(11,qc n1.Grid.Cells),(12,rL n1.Grid.Cells),(13,rI F)],[(8,some<|.arr (A 0) 3 1<|m.map<|Ad .i64)],(A 1),27⟩:=by
   intro m A e
   have h5:=X _ e
   exact c8 _<|aR<|AE h5 λx4 Z h6=>xA R Z<|mM R<|Zh<|ZF h6 (AH [(A 0),(A 1)]) wk
  refine aU<|AE V λx5 a0 h7=>xI Bt R a0<|xB ((BR x5)) EO R<|sS R (BD (cs:=HO) 5 R Hx R R)<|Zk R R (A0 (ds:=(BR x5)) R Hw iL R iL R R R R)<|aZ<|aU<|lF Dj AI R R<|xU R<|aZ<|cI R h7 (λh8=>?_) λh8=>?_
  ·exact aR<|mM R<|lF Dj AI R R<|sS R (Bu 23 R B0 (f:=(Ad .i64)) (l:=([x5.Ref]:List Int)) ⟨R,⟨_,iL,R⟩,Za⟩ R (λ_=>R) R)<|AE h8 λa1 w h9=>sS R (DL R B0 iL R (.inr<|.inl ⟨_,_,iL,R⟩) w)<|mA R<|Zh<|C _ _ wk<|J2 _ (AH [((q 1)+2),((q 1)+3)]) (Zf h9).symm
  exact Zc<|C _ _ wk<|J2 _ (AH [(q 0),((q 1)+1)]) (Zf h8).symm
 exact Zm<|J _ _ wk<|J1 _ (AH [(q 0),(q 1)])<|xH T U
theorem U7{n1 i r}(h:Kw n1 i=some r):AX prog 80 [.agg<|Ax n1,rI i] (rI r):=by
 unfold Kw at h
 refine mF func80 ntmps80 R λq=>aU<|sS R (A4 (cs:=(Ax n1)) 2 R iL R R)<|mA R<|aZ<|aT λm=>Ze<|aU<|lF Cn AI R R<|mM R<|xS R<|mA R<|aZ<|cI R h (λj=>?_) λj=>?_
 ·exact zI j R id
 refine aU<|lF Cn AI R R<|mM R<|sQ R (BU R iL iL)<|mA R<|aZ<|cI R j (λl=>?_) λl=>?_
 ·exact zI l R id
 exact Zc<|m _<|zI l R id
theorem kb{l a r}(h:M8 l a=some r):AX prog 79 [qa l,rI a,.fn 80 []] (.tup [rI r.1,rB r.2]):=by
 unfold M8 at h
 refine mF func79 ntmps79 R λn0=>aU<|mA R<|mA R<|aZ<|aU<|mM R<|xL BH R<|mA R<|aZ<|aU<|mM R<|mA R<|mA R<|aZ<|aS λK4 c4 A=>Ze<|BP h λo1 m B=>?_
 have J1:∀(i8:Int) (i9:NN),o1=i8→K4 ⟨[(0,qa l),(1,rI a),(2,.fn 80 []),(8,rL l),(9,rI i8)],[],(i9 0),49⟩:=by
  intro i8 i9 e
  have h1:=B _ e
  exact c4 _<|aU<|mM R<|mM R<|mM R<|xS R<|mM R<|vM R<|vM R<|vM R<|AE h1 λj C h2=>vQ R (BA R BH.slice (iR R) (iR R) (λ_=>R)<|Ae C)<|vQ R (CV (cs:=(Ax j)) R Cs (iR R) R R)<|vM R<|AE h2 λr1 E h3=>AO.stepW (.one R R R) R R (EJ (r:=rI r1) (caps:=[]) (bs:=[.agg<|Ax j,rI a]) R (iR R) R ⟨⟨_,(iR R),.g (cs:=[.int .i64 j.ID,.int .i64 j.Kind,.sl<|j.Attrs.map AG.row,.sl<|j.Flow.map AS.row,.int .i64 j.Grid.Rows,.int .i64 j.Grid.Cols,.sl<|j.Grid.Cells.map Ak.row,.sl<|j.Grid.Merges.map Aj.row,.sl<|j.Draw.map At.row]) R R⟩,⟨_,(iR R),.d R⟩,Za⟩ (λhg=>U7<|Ae E hg) R)<|vQ R (A5 R (iR R) iL)<|xN R<|mA R<|mA R<|aZ<|Zi<|Cy (P:=prog) (λ(r:Int × Bool)=>rI r.1) (λ(r:Int × Bool)=>rB r.2) h3 iL (.t<|.d R)<|.t<|.d R
 refine CX (λ(F:Int) (I:Int) q=>⟨[(0,qa l),(1,rI a),(2,.fn 80 []),(8,rL l),(9,rI F),(10,rI I)],[],(q 0),49⟩) (AH [n0]) m wk ?_
 intro F I q v1 J M
 have h4:Em l a F I=some v1:=J;unfold Em at h4
 refine aT λc6=>aU<|mM R<|mM R<|xS R<|aZ<|cI R h4 (λO=>?_) λO=>?_
 ·refine Zc<|c6 _<|Ze<|aU<|mM R<|mM R<|AE O λx3 T h6=>xA R T<|sQ R (Dw R underlying3 underlying73 iL)<|sQ R (Pc (b:=1) R iL iL)<|sQ R (Dw R underlying73 underlying3 iL)<|mA R<|aZ<|aT λc9=>aF [0,1,2,8,9,10,11] ?_
  refine aR<|mM R<|mM R<|mM R<|AE h6 λx4 U h7=>xI BH R U<|xB ((Ax x4)) Cs R<|mM R<|AE h7 λr2 V h8=>cL (U7<|V) R<|xS R<|aZ<|c9 _<|cI R h8 (λX=>?_) λX=>?_
  ·refine aF [0,1,2,8,10,11] ?_
   exact aR<|mM R<|AE X λa0 w Z=>xA R w<|mA R<|Zh<|ZF Z (AH [(q 0)]) wk
  refine aF [0,1,2,8,9,11] ?_
  exact aR<|mM R<|mA R<|Zh<|ZF X (AH [(q 0)]) wk
 exact Zm<|A _ _ wk<|J1 _ (AH [(q 0)])<|xH M O
theorem R6{d1 i r}(h:E1 d1 i=some r):AX prog 41 [.agg [qa d1.Nodes],rI i] (.tup [rI r.1,rB r.2]):=by
 unfold E1 at h
 exact mF func41 ntmps41 R λw=>aU<|sS R (A4 (cs:=[qa d1.Nodes]) 2 R iL R R)<|mA R<|mA R<|aZ<|aU<|lF Bi Bk R R<|mM R<|Eu h λl m j q=>sS R (EJ (r:=.tup [rI l,rB m]) (caps:=[]) (bs:=[qa d1.Nodes,rI i,.fn 80 []]) R iL R ⟨⟨_,iL,.d R⟩,⟨_,iL,.d R⟩,⟨_,iL,.one<|.closed (.fn 80 []) R⟩,Za⟩ (λ_=>kb<|j) R)<|xX R<|xX R<|mA R<|mA R<|aZ<|Zi<|Cy (P:=prog) (λ(r:Int × Bool)=>rI r.1) (λ(r:Int × Bool)=>rB r.2) q iL (.t<|.d R)<|.t<|.d R
theorem ju{j v1 r}(h:NG j v1=some r):AX prog 62 [.r<|.sl<|j.map<|Ad .i64,rI v1] (rI r):=by
 unfold NG at h
 refine mF func62 ntmps62 R λX=>aU<|mA R<|aZ<|aS λZ c2 w=>aU<|mM R<|xL B0 R<|mM R<|aZ<|Ze<|BK h λo1 l A B=>?_
 have J1:∀(T:Unit) (U:NN),o1=.nrm T→Z ⟨[],[],(U 0),19⟩:=by
  intro T U e
  have h1:=A _ e
  exact c2 _<|zI h1 R id
 refine Zw (λ(C:Int) q=>⟨[(0,.r<|.sl<|j.map<|Ad .i64),(1,rI v1),(7,rL j),(8,rI C)],[],(q 0),19⟩) (AH [X]) l wk ?_
 intro C q v2 E m
 have V:H7 j v1 C=some v2:=E;unfold H7 at V
 refine aU<|xS R<|aZ<|aT λc6=>cI R V (λF=>?_) λF=>?_
 ·refine Zc<|c6 _<|aT λc7=>Ze<|aU<|mM R<|mA R<|aZ<|aU<|mM R<|mM R<|mM R<|AE F λx4 I h4=>xI B0 R I<|xV (.int .i64 x4) AI R<|xQ R<|aZ<|cI R h4 (λJ=>?_) λJ=>?_
  ·refine aT λM=>aF [5] ?_
   exact aR<|mM R<|mA R<|aZ<|M _<|Zi<|yI (B _<|xH m J) R
  refine Zc<|c7 _<|aF [0,1,7,8] ?_
  exact aR<|AE J λx5 O h6=>xA R O<|mM R<|Zh<|Zt h6 (AH [(q 0)]) wk
 exact Zm<|w _ _ wk<|J1 _ (AH [(q 0)])<|xH m F
theorem Wa{l v1 r}(h:IT l v1=some r):AX prog 34 [.r<|.sl<|l.map<|Ad .i64,rI v1] (rB r):=by
 unfold IT at h
 exact mF func34 ntmps34 R λq=>aU<|mA R<|aZ<|aU<|mM R<|mM R<|AE h λw j m=>cL (ju<|j) R<|sQ R (Cd R iL iL)<|mA R<|aZ<|Zi<|yB m R
theorem YA{p k r}(h:JB p k=some r):AX prog 77 [rI p,rI k] (rB r):=by
 unfold JB at h
 refine mF func77 ntmps77 R λC=>aU<|mA R<|aZ<|aU<|mA R<|aZ<|aS λK3 c3 j=>aU<|mM R<|aZ<|Ze<|BP h λp1 E J=>?_
 have l:∀(M:List Int) (i1:NN),p1=M→K3 ⟨[(1,rI k),(5,.r<|.sl<|M.map<|Ad .i64)],[],(i1 0),29⟩:=by
  intro M i1 e
  have h1:=J _ e
  exact c3 _<|aU<|mM R<|mM R<|AE h1 λr1 O h2=>cL (Wa<|O) R<|mA R<|aZ<|Zi<|yB h2 R
 refine aU<|xQ R<|mA R<|aZ<|aC R (λm=>?_) λm=>?_
 ·have T:=Dz m E
  refine aR<|sS R (Bu 9 R B0 (f:=(Ad .i64)) (l:=([1,6,7,10,11,12]:List Int)) ⟨R,⟨_,iL,R⟩,R,⟨_,iL,R⟩,R,⟨_,iL,R⟩,R,⟨_,iL,R⟩,R,⟨_,iL,R⟩,R,⟨_,iL,R⟩,Za⟩ R (λ_=>R) R)<|mA R<|Zh ?_
  exact j _ _ (Zx (by exact Am.frz (e':=[(0,rI p),(1,rI k),(4,rB false),(5,.r<|.sl<|[1,6,7,10,11,12].map<|Ad .i64),(6,rI p),(7,rB<|(decide<|p=0)),(8,rB<|(decide<|p=0)),(9,.r<|.sl<|[1,6,7,10,11,12].map<|Ad .i64)]) (h':=[]) 9 R ⟨jL,jL,jL,.inl<|.inr<|.inr ⟨R,R⟩,jL,jL,jL,.inl<|.inr<|.inr ⟨R,R⟩,Za⟩ Za) wk)<|l _ (AH [(C+1)]) (Zf T).symm
 ·have T:=D6 m E
  refine aU<|xQ R<|mA R<|aZ<|cI R T (λU=>?_) λU=>?_
  ·refine aR<|sS R (Bu 12 R B0 (f:=(Ad .i64)) (l:=([2,4,5,10]:List Int)) ⟨R,⟨_,iL,R⟩,R,⟨_,iL,R⟩,R,⟨_,iL,R⟩,R,⟨_,iL,R⟩,Za⟩ R (λ_=>R) R)<|mA R<|Zh ?_
   exact j _ _ (Zx (by exact Am.frz (e':=[(0,rI p),(1,rI k),(4,rB false),(5,.r<|.sl<|[2,4,5,10].map<|Ad .i64),(6,rI p),(7,rB<|(decide<|p=0)),(8,rB<|(decide<|p=0)),(10,rB<|(decide<|p=1)),(11,rB<|(decide<|p=1)),(12,.r<|.sl<|[2,4,5,10].map<|Ad .i64)]) (h':=[]) 12 R ⟨jL,jL,jL,.inl<|.inr<|.inr ⟨R,R⟩,jL,jL,jL,jL,jL,.inl<|.inr<|.inr ⟨R,R⟩,Za⟩ Za) wk)<|l _ (AH [(C+1)]) (Zf U).symm
  refine aU<|xQ R<|mA R<|aZ<|cI R U (λV=>?_) λV=>?_
  ·refine aF [1] ?_
   refine aR<|sS R (Bu 15 R B0 (f:=(Ad .i64)) (l:=([4,5,10]:List Int)) ⟨R,⟨_,iL,R⟩,R,⟨_,iL,R⟩,R,⟨_,iL,R⟩,Za⟩ R (λ_=>R) R)<|mA R<|Zh ?_
   exact j _ _ (Zx (by exact Am.frz (e':=[(1,rI k),(5,.r<|.sl<|[4,5,10].map<|Ad .i64),(15,.r<|.sl<|[4,5,10].map<|Ad .i64)]) (h':=[]) 15 R ⟨jL,.inl<|.inr<|.inr ⟨R,R⟩,.inl<|.inr<|.inr ⟨R,R⟩,Za⟩ Za) wk)<|l _ (AH [(C+1)]) (Zf V).symm
  refine aS λK9 c9 F=>aU<|xQ R<|mA R<|aZ<|BP V λp2 I X=>?_
  have J2:∀(A:Bool) (B:NN),p2=A→K9 ⟨[(1,rI k),(5,cZ),(6,rI p),(16,rB A)],[],(B 0),29⟩:=by
   intro A B e
   have h6:=X _ e
   refine c9 _<|cI R h6 (λZ=>?_) λZ=>?_
   ·refine aR<|sS R (Bu 19 R B0 (f:=(Ad .i64)) (l:=([5]:List Int)) ⟨R,⟨_,iL,R⟩,Za⟩ R (λ_=>R) R)<|mA R<|Zh ?_
    exact j _ _ (Zx (by exact Am.frz (e':=[(1,rI k),(5,.r<|.sl<|[5].map<|Ad .i64),(6,rI p),(16,rB A),(19,.r<|.sl<|[5].map<|Ad .i64)]) (h':=[]) 19 R ⟨jL,.inl<|.inr<|.inr ⟨R,R⟩,jL,jL,.inl<|.inr<|.inr ⟨R,R⟩,Za⟩ Za) wk)<|l _ (AH [((B 0)+1)]) (Zf Z).symm
   refine aU<|xQ R<|mA R<|aZ<|cI R Z (λh8=>?_) λh8=>?_
   ·refine aR<|sS R (Bu 22 R B0 (f:=(Ad .i64)) (l:=([3]:List Int)) ⟨R,⟨_,iL,R⟩,Za⟩ R (λ_=>R) R)<|mA R<|Zh ?_
    exact j _ _ (Zx (by exact Am.frz (e':=[(1,rI k),(5,.r<|.sl<|[3].map<|Ad .i64),(6,rI p),(16,rB A),(20,rB<|(decide<|p=2)),(21,rB<|(decide<|p=2)),(22,.r<|.sl<|[3].map<|Ad .i64)]) (h':=[]) 22 R ⟨jL,.inl<|.inr<|.inr ⟨R,R⟩,jL,jL,jL,jL,.inl<|.inr<|.inr ⟨R,R⟩,Za⟩ Za) wk)<|l _ (AH [((B 0)+1)]) (Zf h8).symm
   refine aU<|xQ R<|mA R<|aZ<|cI R h8 (λh9=>?_) λh9=>?_
   ·refine aR<|sS R (Bu 25 R B0 (f:=(Ad .i64)) (l:=([8,9]:List Int)) ⟨R,⟨_,iL,R⟩,R,⟨_,iL,R⟩,Za⟩ R (λ_=>R) R)<|mA R<|Zh ?_
    exact j _ _ (Zx (by exact Am.frz (e':=[(1,rI k),(5,.r<|.sl<|[8,9].map<|Ad .i64),(6,rI p),(16,rB A),(20,rB<|(decide<|p=2)),(21,rB<|(decide<|p=2)),(23,rB<|(decide<|p=7)),(24,rB<|(decide<|p=7)),(25,.r<|.sl<|[8,9].map<|Ad .i64)]) (h':=[]) 25 R ⟨jL,.inl<|.inr<|.inr ⟨R,R⟩,jL,jL,jL,jL,jL,jL,.inl<|.inr<|.inr ⟨R,R⟩,Za⟩ Za) wk)<|l _ (AH [((B 0)+1)]) (Zf h9).symm
   refine Zc ?_
   exact j _ _ ((by exact Am.cv ⟨jL,.inl<|.inr<|.inr ⟨R,R⟩,Za⟩ Za nL))<|l _ (AH [(B 0)]) (Zf h9).symm
  refine aC R (λq=>?_) λq=>?_
  ·have w:=Dz q I
   exact Zc<|F _ _ wk<|J2 _ (AH [C]) (Zf w).symm
  ·have w:=D6 q I
   refine aF [1,5,6] ?_
   exact aR<|xQ R<|mA R<|Zh<|F _ _ wk<|J2 _ (AH [C]) (Zf w).symm
theorem jr{d1 k a r}(h:FN d1 k a=some r):AX prog 37 [.agg [qa d1.Nodes],rI k,.r<|.sl<|a.map<|Ad .i64] (rI r):=by
 unfold FN at h
 refine mF func37 ntmps37 R λw=>aU<|sS R (A4 (cs:=[qa d1.Nodes]) 3 R iL R R)<|mA R<|aZ<|aS λK2 c2 A=>aU<|mM R<|xL B0 R<|mM R<|aZ<|Ze<|BK h λo1 l B m=>?_
 have J1:∀(u2:Unit) (i5:NN),o1=.nrm u2→K2 ⟨[],[],(i5 0),35⟩:=by
  intro u2 i5 e
  have h1:=B _ e
  exact c2 _<|zI h1 R id
 refine Zw (λ(C:Int) q=>⟨[(1,rI k),(3,.ptr 3 w 0 0),(11,.r<|.sl<|a.map<|Ad .i64),(12,rL a),(13,rI C)],[(3,some<|.box w 24 [qa d1.Nodes])],(q 0),35⟩) (AH [(w+1)]) l wk ?_
 intro C q v1 E j
 have h2:Du d1 k a C=some v1:=E;unfold Du at h2
 refine aU<|xS R<|aZ<|aT λc6=>cI R h2 (λF=>?_) λF=>?_
 ·refine Zc<|c6 _<|aT λc7=>Ze<|aU<|AE F λx4 I h4=>xI B0 R I<|xV (.int .i64 x4) AI R<|mA R<|aZ<|aU<|xC CG R<|mM R<|Eu h4 λr1 r2 J h5=>cL (R6<|J) R<|mM R<|xX R<|xX R<|mA R<|mA R<|aZ<|aT λM=>aT λO=>aG [1,3,9,10,11,12,13] [3] ?_
  refine aR<|mM R<|sQ R (A6 R iL)<|aZ<|O _<|cI R h5 (λT=>?_) λT=>?_
  ·exact zI (m _<|xH j T) R id
  refine Zc<|M _<|aU<|mM R<|lF Bi Bk R R<|mM R<|AE T λx5 U h7=>xI BH R U<|sQ R (BJ R CO iL)<|xV (.int .i64 x5.Kind) AI R<|AE h7 λr3 V h8=>cL (YA<|V) R<|sQ R (A6 R iL)<|aZ<|cI R h8 (λX=>?_) λX=>?_
  ·exact zI (m _<|xH j X) R id
  refine Zc<|c7 _<|aG [1,3,11,12,13] [3] ?_
  exact aR<|AE X λx6 Z a0=>xA R Z<|mM R<|Zh<|Zt a0 (AH [(q 0)]) wk
 exact Zm<|A _ _ wk<|J1 _ (AH [(q 0)])<|xH j F
theorem SB{d1 r}(h:DX d1=some r):AX prog 17 [.agg [qa d1.Nodes]] (rI r):=by
 unfold DX at h
 refine mF func17 ntmps17 R λl=>aU<|sS R (A4 (cs:=[qa d1.Nodes]) 1 R iL R R)<|mA R<|aZ<|aT λc2=>aU<|lF Bi Bk R R<|xL BH R<|xQ R<|aZ<|cI R h (λX=>?_) λX=>?_
 ·exact zI X R id
 refine Zc<|c2 _<|aS λK5 c5 Z=>aU<|lF Bi Bk R R<|xL BH R<|mM R<|aZ<|Ze<|BK X λo1 B a0 C=>?_
 have J1:∀(u2:Unit) (i5:NN),o1=.nrm u2→K5 ⟨[(1,.ptr 1 l 0 0)],[(1,some<|.box l 24 [qa d1.Nodes])],(i5 0),67⟩:=by
  intro u2 i5 e
  have h2:=a0 _ e
  refine c5 _<|aS λK7 c7 a1=>aU<|lF Bi Bk R R<|xL BH R<|mM R<|aZ<|Ze<|BK h2 λo2 E a2 a6=>?_
  have J2:∀(u4:Unit) (F:NN),o2=.nrm u4→K7 ⟨[],[],(F 0),67⟩:=by
   intro u4 F e
   have h3:=a2 _ e
   exact c7 _<|zI h3 R id
  refine Zw (λ(x5:Int) i8=>⟨[(1,.ptr 1 l 0 0),(51,qa d1.Nodes),(52,rL d1.Nodes),(53,rI x5)],[(1,some<|.box l 24 [qa d1.Nodes])],(i8 0),67⟩) (AH [(i5 0)]) E wk ?_
  intro x5 i8 v1 a7 I
  have h4:Dq d1 x5=some v1:=a7;unfold Dq at h4
  refine aU<|xS R<|aZ<|aT λa8=>cI R h4 (λh5=>?_) λh5=>?_
  ·refine Zc<|a8 _<|aT λaa=>Ze<|aU<|AE h5 λj ab h6=>xI BH R ab<|xB ((Ax j)) Cs R<|sS R (BD (cs:=FF) 7 R HJ R R)<|Zk R R (A0 (ds:=(Ax j)) R GS iL R iL R R R R)<|aZ<|aT λac=>AE h6 λr1 ad h7=>?_
   refine rP 5 [pO 57<|.agg [qa d1.Nodes],pO 58<|.ptr 7 (i8 0) 0 1,pO 59<|rI j.Kind,pO 60<|.agg<|Ax j,pO 61<|.r<|.sl<|r1.map<|Ad .i64] BY R (by exact⟨oB [(1,.ptr 1 l 0 0)] [(1,some<|.box l 24 [qa d1.Nodes])]<|EK R CG (.inl R) R R,oB [(7,.ptr 7 (i8 0) 0 0)] [(7,some<|.box (i8 0) 47<|Ax j)]<|fB R CO (.inl R) (λ_=>R) R,oB [(58,.ptr 7 (i8 0) 0 1)] [(7,some<|.box (i8 0) 47<|Ax j)]<|Ab (a:=rI j.Kind) R AI (.inl R) R R,oB [(7,.ptr 7 (i8 0) 0 0)] [(7,some<|.box (i8 0) 47<|Ax j)]<|EK R Cs (.inl R) R R,oD (λ_=>[(60,.agg<|Ax j)]) (λ_=>[]) λG1 e h' n=>DK (r:=.r<|.sl<|r1.map<|Ad .i64) (caps:=[]) (bs:=(Gc j)) R (.inl R) R ⟨.inl ⟨(.inl R),R⟩,Za⟩ λ_=>lR<|ad,Za⟩) λG1 n1=>?_
   refine Bg [1,7,51,52,53,54,55,56,57,58,59,60,61] [1,7] ?_
   refine AE h7 λe1 ae h8=>cL (jr<|ae) R<|mA R<|aZ<|ac _<|aT λaf=>aG [1,8,51,52,53] [1] ?_
   refine aR<|mM R<|xU R<|aZ<|af _<|cI R h8 (λh9=>?_) λh9=>?_
   ·exact aU<|mM R<|mA R<|aZ<|Zi<|yI (a6 _<|xH I h9) R
   exact Zc<|aa _<|aR<|AE h9 λx8 ag ah=>xA R ag<|mM R<|Zh<|Zt ah (AH [n1]) wk
  exact Zm<|a1 _ _ wk<|J2 _ (AH [(i8 0)])<|xH I h5
 refine Zw (λ(x2:Int) U=>⟨[(1,.ptr 1 l 0 0),(14,qa d1.Nodes),(15,rL d1.Nodes),(16,rI x2)],[(1,some<|.box l 24 [qa d1.Nodes])],(U 0),67⟩) (AH [(l+1)]) B wk ?_
 intro x2 U v2 ai m
 have J:Cq d1 x2=some v2:=ai;unfold Cq at J
 refine aU<|xS R<|aZ<|aT λaj=>cI R J (λq=>?_) λq=>?_
 ·refine Zc<|aj _<|aT λak=>Ze<|aU<|mM R<|AE q λV al an=>xI BH R al<|xB ((Ax V)) Cs R<|sS R (BD (cs:=FF) 4 R HJ R R)<|mA R<|Zk R R (A0 (ds:=(Ax V)) R GS iL R iL R R R R)<|aZ<|aT λao=>aU<|xC Cs R<|AE an λe2 aq ar=>cL (Xb<|aq) R<|mA R<|aZ<|aU<|mM R<|xU R<|aZ<|cI R ar (λw=>?_) λw=>?_
  ·refine aT λau=>aF [5] ?_
   exact aR<|mM R<|mA R<|aZ<|au _<|Zi<|yI (C _<|xH m w) R
  refine Zc<|ao _<|aT λav=>aG [1,3,4,14,15,16] [1,4] ?_
  refine ZA BY (by kernel_rfl) ?_
  refine qP R (AN R iL)<|qP R (A5 R iL iL)<|qP R (AN R iL)<|qO R (fB R Cn iL fR R)<|qO R (Ab (a:=rI V.ID) R AI (iR R) R R)<|qO R (DV R (iR R) iL)<|qP R (Bb R iL<|iR R)<|qP R (AN R iL)<|qO R (AN R iL)<|qO R (BU R (iR R) iL)<|qO R (AN R<|iR R)<|qT R (fB R Cn iL fR R)<|qT R (Ab (a:=rI V.ID) R AI (iR R) R R)<|qT R (fB R Bi iL fR R)<|qT R (Ab (a:=qa d1.Nodes) R Bk (iR R) R R)<|qT R (AN R iL)<|AE w λb0 M aw=>qT R (CJ R (iR R) iL<|Ae M)<|AE aw λax O ay=>qT R (BA R BH.slice (iR R) (iR R) (λ_=>R)<|Ae O)<|qT R (BJ R Cn<|iR R)<|qT R (Bs (d:=.int .i64 ax.ID) R AI (iR R) R)<|qT R (En R (iR R)<|iR R)<|qO R (Bb R (iR R)<|iR R)<|qP R (Cm R iL<|iR R)<|AQ.nil<|av _<|cI R ay (λA=>?_) λA=>?_
  ·exact zI (C _<|xH m A) R id
  exact Zc<|ak _<|aR<|AE A λb1 T az=>xA R T<|mM R<|Zh<|Zt az (AH [((U 0)+1)]) wk
 exact Zm<|Z _ _ wk<|J1 _ (AH [(U 0)])<|xH m q
theorem lJ{r}(h:Pr=some r):AX prog 20 [] (.agg<|B9 r):=by
 unfold Pr at h
 refine mF func20 ntmps20 R λl=>aU<|sS R (BD (cs:=Mf) 0 R NA R R)<|aZ<|aT λj=>aR ?_
 refine sQ R (B7 R NT (q:=[(0,_)]) (by exact⟨R,R,R,iL,Za⟩) (cs:=Nn)<|by rfl) ?_
 refine Zk R R (A0 (ds:=Nn) R KV iL R iL R R R R)<|oZ j ?_
 exact Zi<|Cf (P:=prog) (λ(r:AS)=>.agg<|B9 r) h iL<|.a Hc R R R<|.agg<|by exact⟨.closed _ R,.closed _ R,.nil,Za⟩
theorem XI{j r}(h:P2 j=some r):AX prog 19 [qe j] (.agg [qa r.Nodes]):=by
 unfold P2 at h
 refine mF func19 ntmps19 R λl=>aU<|sS R (BD (cs:=[cZ]) 2 R Ij R R)<|aZ<|aT λm=>aR ?_
 refine sQ R (B7 R NT (q:=[(1,_)]) (by exact⟨R,R,R,iL,Za⟩) (cs:=Mg)<|by rfl) ?_
 refine sS R (Bu 4 R Bx (f:=AS.row) (l:=([(AS.mk 0 2 [])]:List AS)) ⟨R,⟨_,iL,R⟩,Za⟩ R (λ_=>R) R) ?_
 refine sQ R (B7 R P4 (q:=[(0,_),(3,_)]) (by exact⟨R,R,R,iL,R,R,R,iL,Za⟩) (cs:=[rI 1,rI 0,cZ,.own 4<|l+1,rI 0,rI 0,cZ,cZ,cZ])<|by rfl) ?_
 refine mM R ?_
 refine sQ R (B7 R P4 (q:=[(0,_),(1,_),(3,_)]) (by exact⟨R,R,R,iL,R,R,R,iL,R,R,R,iL,Za⟩) (cs:=[rI 2,rI 1,cZ,qe j,rI 0,rI 0,cZ,cZ,cZ])<|by rfl) ?_
 refine AO.weak (by exact Am.frz (e':=[(0,qe j),(2,.ptr 2 l 0 0),(3,.agg Mg),(4,.r<|.sl<|[(AS.mk 0 2 [])].map AS.row),(5,.agg Rr),(6,qe j),(7,.agg [rI 2,rI 1,cZ,qe j,rI 0,rI 0,cZ,cZ,cZ])]) (h':=[(2,some<|.box l 24 [cZ])]) 4 R ⟨jL,jL,jL,.inl<|.inr<|.inr ⟨R,R⟩,.inr ⟨_,_,R,R,⟨.inl R,.inl R,.inl R,.inr<|.inr ⟨R,R⟩,.inl R,.inl R,.inl R,.inl R,.inl R,Za⟩⟩,jL,jL,Za⟩ ⟨R,.inl R,Za⟩) ?_
 refine sS R (Bu 8 R BH (f:=AK.row) (l:=([(AK.mk 1 0 [] [(AS.mk 0 2 [])] (Av.mk 0 0 [] []) []),(AK.mk 2 1 [] j (Av.mk 0 0 [] []) [])]:List AK)) ⟨R,⟨_,iL,R⟩,R,⟨_,iL,R⟩,Za⟩ R (λ_=>R) R) ?_
 refine sQ R (B7 R P3 (q:=[(0,_)]) (by exact⟨R,R,R,iL,Za⟩) (cs:=[.own 8<|l+2])<|by rfl) ?_
 refine Zk R R (A0 (ds:=[.own 8<|l+2]) R Hz iL R iL R R R R)<|oZ m ?_
 exact Zi<|Cf (P:=prog) (λ(r:AM)=>.agg [qa r.Nodes]) h iL<|.a CG R R R<|.agg<|by exact⟨.own R,Za⟩
theorem Rm{j q r}(h:Jm j q=some r):AX prog 63 [qb j,qb q] (rB r):=by
 unfold Jm at h
 refine mF func63 ntmps63 R λn0=>aU<|mA R<|aZ<|aT λc2=>aU<|mM R<|xL A8 R<|mM R<|xL A8 R<|xU R<|aZ<|cI R h (λA=>?_) λA=>?_
 ·exact zB A R id
 refine Zc<|c2 _<|aS λK5 c5 B=>aU<|mM R<|xL A8 R<|mM R<|aZ<|Ze<|BK A λo1 l C E=>?_
 have J1:∀(Z:Unit) (i5:NN),o1=.nrm Z→K5 ⟨[],[],(i5 0),26⟩:=by
  intro Z i5 e
  have h2:=C _ e
  exact c5 _<|zB h2 R id
 refine Zw (λ(F:Int) w=>⟨[(0,qb j),(1,qb q),(12,rL j),(13,rI F)],[],(w 0),26⟩) (AH [n0]) l wk ?_
 intro F w v1 I m
 have h3:N5 j q F=some v1:=I;unfold N5 at h3
 refine aU<|xS R<|aZ<|aT λc9=>cI R h3 (λJ=>?_) λJ=>?_
 ·refine Zc<|c9 _<|aT λM=>Ze<|aU<|mM R<|mA R<|aZ<|aT λO=>?_
  refine ZA BY (by kernel_rfl) ?_
  refine qP R (AN R iL)<|qP R (AN R iL)<|AE J λx4 T h5=>qP R (BA R A8.slice iL iL (λ_=>R) λ_=>T)<|qP R (CV (cs:=(B3 x4)) R D5 iL R R)<|qP R (AN R iL)<|qP R (AN R iL)<|AE h5 λx5 U h6=>qP R (BA R A8.slice iL iL (λ_=>R) λ_=>U)<|qP R (CV (cs:=(B3 x5)) R D5 iL R R)<|qP R (M3 R TY iL iL R)<|AQ.nil<|O _<|cI R h6 (λV=>?_) λV=>?_
  ·exact zB (E _<|xH m V) R id
  refine Zc<|M _<|aF [0,1,12,13] ?_
  exact aR<|AE V λx6 X h8=>xA R X<|mM R<|Zh<|Zt h8 (AH [(w 0)]) wk
 exact Zm<|B _ _ wk<|J1 _ (AH [(w 0)])<|xH m J
theorem bH{j l r}(h:L0 j l=some r):AX prog 97 [.agg<|B9 j,.agg<|B9 l] (rB r):=by
 unfold L0 at h
 exact mF func97 ntmps97 R λw=>aU<|sS R (A4 (cs:=(B9 j)) 2 R iL R R)<|sS R (A4 (cs:=(B9 l)) 3 R iL R R)<|mA R<|aZ<|aU<|lF Fh AI R R<|lF Fh AI R R<|xQ R<|mM R<|vF DU AI R R<|vF DU AI R R<|vQ R (A5 R (iR R)<|iR R)<|xN R<|mM R<|vF Nf CP R R<|vF Nf CP R R<|AE h λA m q=>vL (λhg=>Rm<|Ae m hg) R<|xN R<|mA R<|aZ<|Zi<|yB q R
theorem er{j A r}(h:Nd j A=some r):AX prog 64 [qe j,qe A] (rB r):=by
 unfold Nd at h
 refine mF func64 ntmps64 R λn0=>aU<|mA R<|aZ<|aT λc2=>aU<|mM R<|xL Bx R<|mM R<|xL Bx R<|xU R<|aZ<|cI R h (λC=>?_) λC=>?_
 ·exact zB C R id
 refine Zc<|c2 _<|aS λK5 c5 E=>aU<|mM R<|xL Bx R<|mM R<|aZ<|Ze<|BK C λo1 l F I=>?_
 have J1:∀(u2:Unit) (i5:NN),o1=.nrm u2→K5 ⟨[],[],(i5 0),27⟩:=by
  intro u2 i5 e
  have h2:=F _ e
  exact c5 _<|zB h2 R id
 refine Zw (λ(J:Int) B=>⟨[(0,qe j),(1,qe A),(12,rL j),(13,rI J)],[],(B 0),27⟩) (AH [n0]) l wk ?_
 intro J B v1 M m
 have h3:MQ j A J=some v1:=M;unfold MQ at h3
 refine aU<|xS R<|aZ<|aT λc9=>cI R h3 (λO=>?_) λO=>?_
 ·refine Zc<|c9 _<|aT λT=>Ze<|aU<|mM R<|mA R<|aZ<|aT λU=>?_
  refine ZA BY (by kernel_rfl) ?_
  refine qP R (AN R iL)<|qP R (AN R iL)<|AE O λq V h5=>qP R (BA R Bx.slice iL iL (λ_=>R) λ_=>V)<|qP R (CV (cs:=(B9 q)) R Hc iL R R)<|qP R (AN R iL)<|qP R (AN R iL)<|AE h5 λw X h6=>qP R (BA R Bx.slice iL iL (λ_=>R) λ_=>X)<|qP R (CV (cs:=(B9 w)) R Hc iL R R)<|AE h6 λr1 Z h7=>AQ.stepC R R R (r:=rB r1) (caps:=[]) (bs:=[.agg<|B9 q,.agg<|B9 w]) R iL R ⟨⟨_,iL,.g (cs:=[.int .i64 q.Char,.int .i64 q.Ref,.sl<|q.Attrs.map AG.row]) R R⟩,⟨_,iL,.g (cs:=[.int .i64 w.Char,.int .i64 w.Ref,.sl<|w.Attrs.map AG.row]) R R⟩,Za⟩ (λ_=>bH<|Z) R<|qP R (A6 R iL)<|AQ.nil<|U _<|cI R h7 (λh8=>?_) λh8=>?_
  ·exact zB (I _<|xH m h8) R id
  refine Zc<|T _<|aF [0,1,12,13] ?_
  exact aR<|AE h8 λx6 a0 h9=>xA R a0<|mM R<|Zh<|Zt h9 (AH [(B 0)]) wk
 exact Zm<|E _ _ wk<|J1 _ (AH [(B 0)])<|xH m O
theorem YT{j l r}(h:MZ j l=some r):AX prog 129 [.agg<|BR j,.agg<|BR l] (rB r):=by
 unfold MZ at h
 exact mF func129 ntmps129 R λA=>aU<|sS R (A4 (cs:=(BR j)) 2 R iL R R)<|sS R (A4 (cs:=(BR l)) 3 R iL R R)<|mA R<|aZ<|aT λq=>aR<|lF EP AI R R<|lF EP AI R R<|xQ R<|mM R<|vF Ef AI R R<|vF Ef AI R R<|vQ R (A5 R (iR R)<|iR R)<|xN R<|mM R<|vF Gy BB R R<|vF Gy BB R R<|vQ R (E5 R (iR R)<|iR R)<|xN R<|mM R<|vF Dj AI R R<|vF Dj AI R R<|vQ R (A5 R (iR R)<|iR R)<|xN R<|mM R<|vF FY CP R R<|vF FY CP R R<|AE h λB m w=>vL (λhg=>Rm<|Ae m hg) R<|xN R<|mA R<|aZ<|q _<|Zi<|yB w R
theorem fG{m A r}(h:Mq m A=some r):AX prog 98 [qc m,qc A] (rB r):=by
 unfold Mq at h
 refine mF func98 ntmps98 R λn0=>aU<|mA R<|aZ<|aT λc2=>aU<|mM R<|xL Bt R<|mM R<|xL Bt R<|xU R<|aZ<|cI R h (λC=>?_) λC=>?_
 ·exact zB C R id
 refine Zc<|c2 _<|aS λK5 c5 E=>aU<|mM R<|xL Bt R<|mM R<|aZ<|Ze<|BK C λo1 q F I=>?_
 have J1:∀(u2:Unit) (i5:NN),o1=.nrm u2→K5 ⟨[],[],(i5 0),27⟩:=by
  intro u2 i5 e
  have h2:=F _ e
  exact c5 _<|zB h2 R id
 refine Zw (λ(J:Int) B=>⟨[(0,qc m),(1,qc A),(12,rL m),(13,rI J)],[],(B 0),27⟩) (AH [n0]) q wk ?_
 intro J B v1 M w
 have h3:M6 m A J=some v1:=M;unfold M6 at h3
 refine aU<|xS R<|aZ<|aT λc9=>cI R h3 (λO=>?_) λO=>?_
 ·refine Zc<|c9 _<|aT λT=>Ze<|aU<|mM R<|mA R<|aZ<|aT λU=>?_
  refine ZA BY (by kernel_rfl) ?_
  refine qP R (AN R iL)<|qP R (AN R iL)<|AE O λj V h5=>qP R (BA R Bt.slice iL iL (λ_=>R) λ_=>V)<|qP R (CV (cs:=(BR j)) R EO iL R R)<|qP R (AN R iL)<|qP R (AN R iL)<|AE h5 λl X h6=>qP R (BA R Bt.slice iL iL (λ_=>R) λ_=>X)<|qP R (CV (cs:=(BR l)) R EO iL R R)<|AE h6 λr1 Z h7=>AQ.stepC R R R (r:=rB r1) (caps:=[]) (bs:=[.agg<|BR j,.agg<|BR l]) R iL R ⟨⟨_,iL,.g (cs:=[.int .i64 j.Row,.int .i64 j.Col,.str j.Text,.int .i64 j.Ref,.sl<|j.Attrs.map AG.row]) R R⟩,⟨_,iL,.g (cs:=[.int .i64 l.Row,.int .i64 l.Col,.str l.Text,.int .i64 l.Ref,.sl<|l.Attrs.map AG.row]) R R⟩,Za⟩ (λ_=>YT<|Z) R<|qP R (A6 R iL)<|AQ.nil<|U _<|cI R h7 (λh8=>?_) λh8=>?_
  ·exact zB (I _<|xH w h8) R id
  refine Zc<|T _<|aF [0,1,12,13] ?_
  exact aR<|AE h8 λx6 a0 h9=>xA R a0<|mM R<|Zh<|Zt h9 (AH [(B 0)]) wk
 exact Zm<|E _ _ wk<|J1 _ (AH [(B 0)])<|xH w O
theorem di{j q r}(h:Mi j q=some r):AX prog 99 [qd j,qd q] (rB r):=by
 unfold Mi at h
 refine mF func99 ntmps99 R λn0=>aU<|mA R<|aZ<|aT λc2=>aU<|mM R<|xL CQ R<|mM R<|xL CQ R<|xU R<|aZ<|cI R h (λA=>?_) λA=>?_
 ·exact zB A R id
 refine Zc<|c2 _<|aS λK5 c5 B=>aU<|mM R<|xL CQ R<|mM R<|aZ<|Ze<|BK A λo1 l C E=>?_
 have J1:∀(Z:Unit) (i5:NN),o1=.nrm Z→K5 ⟨[],[],(i5 0),26⟩:=by
  intro Z i5 e
  have h2:=C _ e
  exact c5 _<|zB h2 R id
 refine Zw (λ(F:Int) w=>⟨[(0,qd j),(1,qd q),(12,rL j),(13,rI F)],[],(w 0),26⟩) (AH [n0]) l wk ?_
 intro F w v1 I m
 have h3:Mx j q F=some v1:=I;unfold Mx at h3
 refine aU<|xS R<|aZ<|aT λc9=>cI R h3 (λJ=>?_) λJ=>?_
 ·refine Zc<|c9 _<|aT λM=>Ze<|aU<|mM R<|mA R<|aZ<|aT λO=>?_
  refine ZA BY (by kernel_rfl) ?_
  refine qP R (AN R iL)<|qP R (AN R iL)<|AE J λx4 T h5=>qP R (BA R CQ.slice iL iL (λ_=>R) λ_=>T)<|qP R (CV (cs:=(A3 x4)) R Cp iL R R)<|qP R (AN R iL)<|qP R (AN R iL)<|AE h5 λx5 U h6=>qP R (BA R CQ.slice iL iL (λ_=>R) λ_=>U)<|qP R (CV (cs:=(A3 x5)) R Cp iL R R)<|qP R (M3 R WY iL iL R)<|AQ.nil<|O _<|cI R h6 (λV=>?_) λV=>?_
  ·exact zB (E _<|xH m V) R id
  refine Zc<|M _<|aF [0,1,12,13] ?_
  exact aR<|AE V λx6 X h8=>xA R X<|mM R<|Zh<|Zt h8 (AH [(w 0)]) wk
 exact Zm<|B _ _ wk<|J1 _ (AH [(w 0)])<|xH m J
theorem jW{j l r}(h:Mt j l=some r):AX prog 65 [.agg<|By j,.agg<|By l] (rB r):=by
 unfold Mt at h
 exact mF func65 ntmps65 R λB=>aU<|sS R (A4 (cs:=(By j)) 2 R iL R R)<|sS R (A4 (cs:=(By l)) 3 R iL R R)<|mA R<|aZ<|aU<|lF Fc AI R R<|lF Fc AI R R<|xQ R<|mM R<|vF Fp AI R R<|vF Fp AI R R<|vQ R (A5 R (iR R)<|iR R)<|xN R<|mM R<|vF Df Dr R R<|vF Df Dr R R<|AE h λC m w=>vL (λhg=>fG<|Ae m hg) R<|xN R<|mM R<|vF Dk Dx R R<|vF Dk Dx R R<|AE w λE q A=>vL (λhg=>di<|Ae q hg) R<|xN R<|mA R<|aZ<|Zi<|yB A R
theorem iU{j q r}(h:Nz j q=some r):AX prog 66 [qf j,qf q] (rB r):=by
 unfold Nz at h
 refine mF func66 ntmps66 R λn0=>aU<|mA R<|aZ<|aT λc2=>aU<|mM R<|xL Da R<|mM R<|xL Da R<|xU R<|aZ<|cI R h (λA=>?_) λA=>?_
 ·exact zB A R id
 refine Zc<|c2 _<|aS λK5 c5 B=>aU<|mM R<|xL Da R<|mM R<|aZ<|Ze<|BK A λo1 l C E=>?_
 have J1:∀(Z:Unit) (i5:NN),o1=.nrm Z→K5 ⟨[],[],(i5 0),26⟩:=by
  intro Z i5 e
  have h2:=C _ e
  exact c5 _<|zB h2 R id
 refine Zw (λ(F:Int) w=>⟨[(0,qf j),(1,qf q),(12,rL j),(13,rI F)],[],(w 0),26⟩) (AH [n0]) l wk ?_
 intro F w v1 I m
 have h3:Nu j q F=some v1:=I;unfold Nu at h3
 refine aU<|xS R<|aZ<|aT λc9=>cI R h3 (λJ=>?_) λJ=>?_
 ·refine Zc<|c9 _<|aT λM=>Ze<|aU<|mM R<|mA R<|aZ<|aT λO=>?_
  refine ZA BY (by kernel_rfl) ?_
  refine qP R (AN R iL)<|qP R (AN R iL)<|AE J λx4 T h5=>qP R (BA R Da.slice iL iL (λ_=>R) λ_=>T)<|qP R (CV (cs:=(BW x4)) R GG iL R R)<|qP R (AN R iL)<|qP R (AN R iL)<|AE h5 λx5 U h6=>qP R (BA R Da.slice iL iL (λ_=>R) λ_=>U)<|qP R (CV (cs:=(BW x5)) R GG iL R R)<|qP R (M3 R eX iL iL R)<|AQ.nil<|O _<|cI R h6 (λV=>?_) λV=>?_
  ·exact zB (E _<|xH m V) R id
  refine Zc<|M _<|aF [0,1,12,13] ?_
  exact aR<|AE V λx6 X h8=>xA R X<|mM R<|Zh<|Zt h8 (AH [(w 0)]) wk
 exact Zm<|B _ _ wk<|J1 _ (AH [(w 0)])<|xH m J
theorem gb{j l r}(h:NY j l=some r):AX prog 35 [.agg<|Ax j,.agg<|Ax l] (rB r):=by
 unfold NY at h
 exact mF func35 ntmps35 R λJ=>aU<|sS R (A4 (cs:=(Ax j)) 2 R iL R R)<|sS R (A4 (cs:=(Ax l)) 3 R iL R R)<|mA R<|aZ<|aT λB=>aR<|lF Cn AI R R<|lF Cn AI R R<|xQ R<|mM R<|vF CO AI R R<|vF CO AI R R<|vQ R (A5 R (iR R)<|iR R)<|xN R<|mM R<|vF Lj CP R R<|vF Lj CP R R<|AE h λM m C=>vL (λhg=>Rm<|Ae m hg) R<|xN R<|mM R<|vF ET Ea R R<|vF ET Ea R R<|AE C λO q E=>vL (λhg=>er<|Ae q hg) R<|xN R<|mM R<|vQ R (fB R Ds iL fR R)<|vQ R (Hg (ds:=(By j.Grid)) R Gb (iR R) R R R)<|vQ R (fB R Ds iL fR R)<|vQ R (Hg (ds:=(By l.Grid)) R Gb (iR R) R R R)<|AE E λT w F=>vL (λhg=>jW<|Ae w hg) R<|xN R<|mM R<|vF FX GL R R<|vF FX GL R R<|AE F λU A I=>vL (λhg=>iU<|Ae A hg) R<|xN R<|mA R<|aZ<|B _<|Zi<|yB I R
theorem Vr{m q r}(h:JD m q=some r):AX prog 15 [.agg [qa m.Nodes],.agg [qa q.Nodes]] (rB r):=by
 unfold JD at h
 refine mF func15 ntmps15 R λw=>aU<|sS R (A4 (cs:=[qa m.Nodes]) 2 R iL R R)<|sS R (A4 (cs:=[qa q.Nodes]) 3 R iL R R)<|mA R<|aZ<|aT λc2=>aU<|lF Bi Bk R R<|xL BH R<|lF Bi Bk R R<|xL BH R<|xU R<|aZ<|cI R h (λE=>?_) λE=>?_
 ·exact zB E R id
 refine Zc<|c2 _<|aS λK5 c5 F=>aT λc6=>aG [2,3] [2,3] ?_
 refine aR<|lF Bi Bk R R<|xL BH R<|mM R<|aZ<|c6 _<|Ze<|BK E λo1 A I J=>?_
 have J1:∀(u2:Unit) (i5:NN),o1=.nrm u2→K5 ⟨[],[],(i5 0),32⟩:=by
  intro u2 i5 e
  have h2:=I _ e
  exact c5 _<|zB h2 R id
 refine Zw (λ(M:Int) C=>⟨[(2,.ptr 2 w 0 0),(3,.ptr 3 (w+1) 0 0),(15,rL m.Nodes),(16,rI M)],[(2,some<|.box w 24 [qa m.Nodes]),(3,some<|.box (w+1) 24 [qa q.Nodes])],(C 0),32⟩) (AH [(w+2)]) A wk ?_
 intro M C v1 O B
 have h3:Ma m q M=some v1:=O;unfold Ma at h3
 refine aU<|xS R<|aZ<|aT λc9=>cI R h3 (λT=>?_) λT=>?_
 ·refine Zc<|c9 _<|aT λU=>Ze<|aU<|mM R<|mA R<|aZ<|aT λV=>?_
  refine ZA BY (by kernel_rfl) ?_
  refine qP R (fB R Bi iL fR R)<|qP R (Ab (a:=qa m.Nodes) R Bk iL R R)<|qP R (AN R iL)<|AE T λj X h5=>qP R (BA R BH.slice iL iL (λ_=>R) λ_=>X)<|qP R (CV (cs:=(Ax j)) R Cs iL R R)<|qP R (fB R Bi iL fR R)<|qP R (Ab (a:=qa q.Nodes) R Bk iL R R)<|qP R (AN R iL)<|AE h5 λl Z h6=>qP R (BA R BH.slice iL iL (λ_=>R) λ_=>Z)<|qP R (CV (cs:=(Ax l)) R Cs iL R R)<|AE h6 λr1 a0 h7=>AQ.stepC R R R (r:=rB r1) (caps:=[]) (bs:=[.agg<|Ax j,.agg<|Ax l]) R iL R ⟨⟨_,iL,.g (cs:=[.int .i64 j.ID,.int .i64 j.Kind,.sl<|j.Attrs.map AG.row,.sl<|j.Flow.map AS.row,.int .i64 j.Grid.Rows,.int .i64 j.Grid.Cols,.sl<|j.Grid.Cells.map Ak.row,.sl<|j.Grid.Merges.map Aj.row,.sl<|j.Draw.map At.row]) R R⟩,⟨_,iL,.g (cs:=[.int .i64 l.ID,.int .i64 l.Kind,.sl<|l.Attrs.map AG.row,.sl<|l.Flow.map AS.row,.int .i64 l.Grid.Rows,.int .i64 l.Grid.Cols,.sl<|l.Grid.Cells.map Ak.row,.sl<|l.Grid.Merges.map Aj.row,.sl<|l.Draw.map At.row]) R R⟩,Za⟩ (λ_=>gb<|a0) R<|qP R (A6 R iL)<|AQ.nil<|V _<|cI R h7 (λh8=>?_) λh8=>?_
  ·exact zB (J _<|xH B h8) R id
  refine Zc<|U _<|aG [2,3,15,16] [2,3] ?_
  exact aR<|AE h8 λx6 a2 h9=>xA R a2<|mM R<|Zh<|Zt h9 (AH [(C 0)]) wk
 exact Zm<|F _ _ wk<|J1 _ (AH [(C 0)])<|xH B T
theorem fD{r}(h:KF=some r):AX prog 5 [] (rB r):=by
 unfold KF at h
 refine mF func5 ntmps5 R λU=>aU<|mA R<|aZ<|aS λZ c2 q=>aR<|AE h λl w h1=>sS R (DK (r:=.agg [qa l.Nodes]) (caps:=[]) (bs:=[]) R iL R Za λ_=>Uf<|w)<|AE h1 λm C h2=>cL (SB<|C) R<|xQ R<|mM R<|BP h2 λp1 A E=>?_
 have V:∀(F:Bool) (X:NN),p1=F→Z ⟨[(0,rB F)],[],(X 0),11⟩:=by
  intro F X e
  have h3:=E _ e
  exact c2 _<|Zi<|yB h3 R
 refine AO.split ((decide<|m=0)==true) (λj=>?_) λj=>?_
 ·have I:=Dz j A
  refine AO.weak (by exact QU (e':=[(0,rB false),(1,.agg [qa l.Nodes]),(2,rI m),(3,rB<|(decide<|m=0)),(4,rB<|(decide<|m=0))]) j ⟨.inl R,.inl R,.inl R,.inl R,.inl R,Za⟩) ?_
  refine G2 (.one R R R) j R R (DK (r:=.agg [qa l.Nodes]) (caps:=[]) (bs:=[]) R (.inl R) R Za λ_=>Uf<|w)<|AE I λB J h5=>G2 (.one R R R) j R R (DK (r:=.agg<|B9 B) (caps:=[]) (bs:=[]) R (.inl R) R Za λ_=>lJ<|J)<|G2 (.one R R R) j R R (Bu 7 R Bx (f:=AS.row) (l:=([B]:List AS)) ⟨R,⟨_,(.inl R),R⟩,Za⟩ R (λ_=>R) R) ?_
  refine AO.weak (by exact Am.frz (e':=[(0,rB false),(1,.agg [qa l.Nodes]),(2,rI m),(3,rB<|(decide<|m=0)),(4,rB<|(decide<|m=0)),(5,.agg [qa l.Nodes]),(6,.agg<|B9 B),(7,.r<|.sl<|[B].map AS.row)]) (h':=[]) 7 R ⟨jL,jL,jL,jL,jL,jL,jL,.inl<|.inr<|.inr ⟨R,R⟩,Za⟩ Za) ?_
  exact AE h5 λM O h6=>G2 (.one R R R) j R R (DK (r:=.agg [qa M.Nodes]) (caps:=[]) (bs:=[.r<|.sl<|[B].map AS.row]) R (.inl R) R ⟨.inl ⟨(.inl R),R⟩,Za⟩ λ_=>XI<|O)<|AE h6 λr6 T h7=>G2 (.one R R R) j R R (EJ (r:=rB r6) (caps:=[]) (bs:=[.agg [qa l.Nodes],.agg [qa M.Nodes]]) R (.inl R) R ⟨⟨_,(.inl R),.g (cs:=[.sl<|l.Nodes.map AK.row]) R R⟩,⟨_,(.inl R),.g (cs:=[.sl<|M.Nodes.map AK.row]) R R⟩,Za⟩ (λ_=>Vr<|T) R)<|sQ R (Bb R iL iL)<|mA R<|Zh<|q _ _ wk<|V _ (AH [(U+1)]) (Zf h7).symm
 ·have I:=D6 j A
  exact Fu (.one R R R) j R R<|Fu (.one R R R) j R R<|Fu (.one R R R) j R R<|Fu (.one R R R) j R R<|Fu (.one R R R) j R R<|xN R<|mA R<|Zh<|q _ _ wk<|V _ (AH [U]) (Zf I).symm
theorem fW{B r}(h:NS B=some r):AX prog 78 [qe B] (qe r):=by
 unfold NS at h
 refine mF func78 ntmps78 R λn0=>aU<|mA R<|aZ<|aU<|mM R<|xL Bx R<|AE h λa1 C h1=>sS R (Tk 8 R Bx (f:=AS.row) (z0:=(AS.mk 0 0 [])) YZ iL iL C)<|mA R<|aZ<|aS λK3 c3 M=>aU<|mM R<|xL Bx R<|mM R<|aZ<|Ze<|BP h1 λo1 E O=>?_
 have J1:∀(w:List AS) (J:NN),o1=w→K3 ⟨[(3,.own 8<|J 0)],[(8,some<|.arr (J 0) 60 3<|w.map AS.row)],(J 1),29⟩:=by
  intro w J e
  have h2:=O _ e
  exact c3 _<|aU<|mM R<|mA R<|aZ<|Zi<|Cf (P:=prog) (λ(r:(List AS))=>qe r) h2 iL<|.t<|.one<|.own R
 refine CX (λ(A:Int) (m:List AS) j=>⟨[(3,.own 8<|j 0),(9,qe B),(10,rL B),(11,rI A)],[(8,some<|.arr (j 0) 60 3<|m.map AS.row)],(j 1),29⟩) (AH [n0,(n0+1)]) E wk ?_
 intro A m j v1 T U
 have h3:IU B A m=some v1:=T;unfold IU at h3
 refine aU<|xS R<|aZ<|aT λc7=>cI R h3 (λV=>?_) λV=>?_
 ·refine Zc<|c7 _<|aT λc8=>Ze<|aU<|mM R<|AE V λl X h5=>xI Bx R X<|xB ((B9 l)) Hc R<|sS R (BD (cs:=Mf) 5 R NA R R)<|mA R<|Zk R R (A0 (ds:=(B9 l)) R KV iL R iL R R R R)<|aZ<|AE h5 λF Z h6=>?_
  refine Lk 10 [pO 16<|.own 8<|j 0,pO 17<|rI A,pO 18<|.ptr 5 (j 1) 0 0,pO 19<|rI l.Char,pO 20<|.ptr 5 (j 1) 0 1,pO 21<|rI l.Ref,pO 22<|.ptr 5 (j 1) 0 2,pO 23<|qb l.Attrs,⟨some 24,(λq=>.own 24<|q 8),some (24,(λq=>some<|.arr (q 8) 123 2<|F.map AG.row)),[8]⟩,⟨some 25,(λq=>.agg [rI l.Char,rI l.Ref,.own 24<|q 8]),none,[8]⟩] BY (by kernel_rfl) (by exact⟨λ_ _ h=>⟨R,λ_ _ e=>by cases e⟩,λ_ _ h=>⟨R,λ_ _ e=>by cases e⟩,λ_ _ h=>⟨R,λ_ _ e=>by cases e⟩,λ_ _ h=>⟨R,λ_ _ e=>by cases e⟩,λ_ _ h=>⟨R,λ_ _ e=>by cases e⟩,λ_ _ h=>⟨R,λ_ _ e=>by cases e⟩,λ_ _ h=>⟨R,λ_ _ e=>by cases e⟩,λ_ _ h=>⟨R,λ_ _ e=>by cases e⟩,λ_ _ h=>⟨by simp only[h 8 R],λ_ _ e=>by cases e;simp only[h 8 R]⟩,λ_ _ h=>⟨by simp only[h 8 R],λ_ _ e=>by cases e⟩,Za⟩) R (by exact⟨oB [(3,.own 8<|j 0)] [(8,some<|.arr (j 0) 60 3<|m.map AS.row)]<|AN R<|.inl R,oB [(4,rI A)] []<|AN R<|.inl R,oB [(5,.ptr 5 (j 1) 0 0)] [(5,some<|.box (j 1) 60<|B9 l)]<|fB R Fh (.inl R) (λ_=>R) R,oB [(18,.ptr 5 (j 1) 0 0)] [(5,some<|.box (j 1) 60<|B9 l)]<|Ab (a:=rI l.Char) R AI (.inl R) R R,oB [(5,.ptr 5 (j 1) 0 0)] [(5,some<|.box (j 1) 60<|B9 l)]<|fB R DU (.inl R) (λ_=>R) R,oB [(20,.ptr 5 (j 1) 0 1)] [(5,some<|.box (j 1) 60<|B9 l)]<|Ab (a:=rI l.Ref) R AI (.inl R) R R,oB [(5,.ptr 5 (j 1) 0 0)] [(5,some<|.box (j 1) 60<|B9 l)]<|fB R Nf (.inl R) (λ_=>R) R,oB [(22,.ptr 5 (j 1) 0 2)] [(5,some<|.box (j 1) 60<|B9 l)]<|Ab (a:=qb l.Attrs) R CP (.inl R) R R,oM (λ_=>[(23,qb l.Attrs)]) (λ_=>[]) R λq e h' n=>KU 24 (f:=AG.row) R A8 (.inl R) (.inl ⟨(.inl R),λ_=>R⟩) Z,oC (λq=>[(19,rI l.Char),(21,rI l.Ref),(24,.own 24<|q 8)]) (λq=>[(24,some<|.arr (q 8) 123 2<|F.map AG.row)]) λq e h'=>B7 R NT (q:=[(0,_),(1,_),(2,_)]) (by exact⟨R,R,R,(.inl R),R,R,R,(.inl R),R,R,R,(.inl R),Za⟩) (cs:=[rI l.Char,rI l.Ref,.own 24<|q 8])<|by rfl,Za⟩) λq n1=>?_
  refine Bg [3,4,5,9,10,11,12,13,14,15,16,17,18,19,20,21,22,23,24,25] [5,8,24] ?_
  refine AE h6 λx5 I h7=>sQ R (Ew R Bx.slice iL R iL λ_=>I) ?_
  refine AO.weak (by exact Am.frz (e':=[(3,.own 8<|j 0),(4,rI A),(5,.ptr 5 (j 1) 0 0),(9,qe B),(10,rL B),(11,rI A),(12,rB<|(decide<|A<(B.length:Int))),(13,rI A),(14,.rop (AS.row l) 0),(15,.agg<|B9 l),(16,.own 8<|j 0),(17,rI A),(18,.ptr 5 (j 1) 0 0),(19,rI l.Char),(20,.ptr 5 (j 1) 0 1),(21,rI l.Ref),(22,.ptr 5 (j 1) 0 2),(23,qb l.Attrs),(24,qb F),(25,.agg [rI l.Char,rI l.Ref,qb F]),(26,.ptr 8 (j 0) A.toNat 0)]) (h':=[(5,some<|.box (j 1) 60<|B9 l),(8,some<|.arr (j 0) 60 3<|m.map AS.row)]) 24 R ⟨jL,jL,jL,jL,jL,jL,jL,jL,jL,jL,jL,jL,jL,jL,jL,jL,jL,jL,.inl<|.inr<|.inr ⟨R,R⟩,.inr ⟨_,_,R,R,⟨.inl R,.inl R,.inr<|.inr ⟨R,R⟩,Za⟩⟩,jL,Za⟩ ⟨R,.inl R,R,.inl R,Za⟩) ?_
  refine Zk R R (QP (v:=(AS.mk l.Char l.Ref F)) R KV iL R I iL R R R R)<|aZ<|c8 _<|aG [3,9,10,11] [8] ?_
  exact aR<|AE h7 λx6 a0 h8=>xA R a0<|mM R<|Zh<|ZF h8 (AH [(j 0),n1]) wk
 exact Zm<|M _ _ wk<|J1 _ (AH [(j 0),(j 1)])<|xH U V
theorem ke{n1 r}(h:LV n1=some r):AX prog 39 (Gc n1) (.agg<|Ax r):=by
 unfold LV at h
 refine mF func39 ntmps39 R λj=>aU<|sS R (A4 (cs:=(Ax n1)) 1 R iL R R)<|sS R (BD (cs:=FF) 2 R HJ R R)<|aZ<|aU<|lF Lj CP R R<|AE h λI J h1=>sS R (KU 8 (f:=AG.row) R A8 iL (.inl ⟨iL,λ_=>R⟩) J)<|sQ R (fB R Lj iL fR R)<|Zk R R (A0 (ds:=[rI n1.ID,rI n1.Kind,.own 8<|j+2,qe n1.Flow,rI n1.Grid.Rows,rI n1.Grid.Cols,qc n1.Grid.Cells,qd n1.Grid.Merges,qf n1.Draw]) R JK iL R iL R R R R)<|aZ<|aU<|lF ET Ea R R<|AE h1 λB M h2=>sS R (DK (r:=qe B) (caps:=[]) (bs:=[qe n1.Flow]) R iL R ⟨.inl ⟨iL,R⟩,Za⟩ λ_=>fW<|M)<|sQ R (fB R ET iL fR R)<|Zk R R (A0 (ds:=[rI n1.ID,rI n1.Kind,.own 8<|j+2,qe B,rI n1.Grid.Rows,rI n1.Grid.Cols,qc n1.Grid.Cells,qd n1.Grid.Merges,qf n1.Draw]) R Yb iL R iL R R R R)<|aZ<|aT λc4=>aG [1,2] [1,2,8] ?_
 refine aR<|lF FX GL R R<|AE h2 λO T h3=>sS R (KU 16 (f:=At.row) R Da iL (.inl ⟨iL,λ_=>R⟩) T)<|sQ R (fB R FX iL fR R)<|Zk R R (A0 (ds:=[rI n1.ID,rI n1.Kind,.own 8<|j+2,qe B,rI n1.Grid.Rows,rI n1.Grid.Cols,qc n1.Grid.Cells,qd n1.Grid.Merges,.own 16<|j+3]) R fM iL R iL R R R R)<|aZ<|c4 _<|aU<|sQ R (fB R Ds iL fR R)<|sQ R (Hg (ds:=(By n1.Grid)) R Gb iL R R R)<|sS R (BD (cs:=Ox) 3 R Ye R R)<|Zk R R (A0 (ds:=(By n1.Grid)) R Ux iL R iL R R R R)<|aZ<|aU<|lF Dk Dx R R<|AE h3 λl3 U h4=>sS R (KU 22 (f:=Aj.row) R CQ iL (.inl ⟨iL,λ_=>R⟩) U)<|sQ R (fB R Dk iL fR R)<|Zk R R (A0 (ds:=[rI n1.Grid.Rows,rI n1.Grid.Cols,qc n1.Grid.Cells,.own 22<|j+5]) R iP iL R iL R R R R)<|aZ<|aT λc7=>aG [1,2,3] [1,2,3,8,16,22] ?_
 refine aR<|lF Df Dr R R<|AE h4 λF V h5=>sS R (KU 26 (f:=Ak.row) R Bt iL (.inl ⟨iL,λ_=>R⟩) V)<|sQ R (fB R Df iL fR R)<|Zk R R (A0 (ds:=[rI n1.Grid.Rows,rI n1.Grid.Cols,.own 26<|j+6,.own 22<|j+5]) R ft iL R iL R R R R)<|aZ<|c7 _<|aS λK8 c8 X=>aU<|lF Df Dr R R<|sQ R (IX R Bt.slice iL R)<|mM R<|aZ<|Ze<|BP h5 λo1 C Z=>?_
 have J1:∀(g4:Av) (w:NN),o1=g4→K8 ⟨[(1,.ptr 1 j 0 0),(2,.ptr 2 (j+1) 0 0),(3,.ptr 3 (j+4) 0 0)],[(1,some<|.box j 47 [rI n1.ID,rI n1.Kind,.own 8<|j+2,qe B,rI n1.Grid.Rows,rI n1.Grid.Cols,qc n1.Grid.Cells,qd n1.Grid.Merges,.own 16<|j+3]),(2,some<|.box (j+1) 47 FF),(3,some<|.box (j+4) 44 [rI g4.Rows,rI g4.Cols,.own 26<|w 0,.own 22<|w 1]),(8,some<|.arr (j+2) 123 2<|I.map AG.row),(16,some<|.arr (j+3) 129 8<|O.map At.row),(22,some<|.arr (w 1) 86 4<|g4.Merges.map Aj.row),(26,some<|.arr (w 0) 84 5<|g4.Cells.map Ak.row)],(w 2),48⟩:=by
  intro g4 w e
  have h6:=Z _ e
  refine c8 _<|aU<|xC Gb R<|sQ R (fB R Ds iL fR R)<|Zk R R (A0 (ds:=[rI n1.ID,rI n1.Kind,.own 8<|j+2,qe B,rI g4.Rows,rI g4.Cols,.own 26<|w 0,.own 22<|w 1,.own 16<|j+3]) R Ux iL R iL R R R R)<|aZ<|aU<|xC Cs R<|Zk R R (A0 (ds:=[rI n1.ID,rI n1.Kind,.own 8<|j+2,qe B,rI g4.Rows,rI g4.Cols,.own 26<|w 0,.own 22<|w 1,.own 16<|j+3]) R GS iL R iL R R R R)<|aZ ?_
  exact Zi<|Cf (P:=prog) (λ(r:AK)=>.agg<|Ax r) h6 iL<|.a Cs R R R<|.agg<|by exact⟨.closed _ R,.closed _ R,.own R,.closed _ R,.closed _ R,.closed _ R,.own R,.own R,.own R,Za⟩
 refine CX (λ(q:Int) (g2:Av) l=>⟨[(1,.ptr 1 j 0 0),(2,.ptr 2 (j+1) 0 0),(3,.ptr 3 (j+4) 0 0),(29,.own 26<|l 0),(30,rL F),(31,rI q)],[(1,some<|.box j 47 [rI n1.ID,rI n1.Kind,.own 8<|j+2,qe B,rI n1.Grid.Rows,rI n1.Grid.Cols,qc n1.Grid.Cells,qd n1.Grid.Merges,.own 16<|j+3]),(2,some<|.box (j+1) 47 FF),(3,some<|.box (j+4) 44 [rI g2.Rows,rI g2.Cols,.own 26<|l 0,.own 22<|l 1]),(8,some<|.arr (j+2) 123 2<|I.map AG.row),(16,some<|.arr (j+3) 129 8<|O.map At.row),(22,some<|.arr (l 1) 86 4<|g2.Merges.map Aj.row),(26,some<|.arr (l 0) 84 5<|g2.Cells.map Ak.row)],(l 2),48⟩) (AH [(j+6),(j+5),(j+7)]) C wk ?_
 intro q g2 l v1 a0 a1
 have h7:Jz F q g2=some v1:=a0;unfold Jz at h7
 refine aU<|xS R<|aZ<|aT λa2=>cI R h7 (λh8=>?_) λh8=>?_
 ·refine Zc<|a2 _<|aT λa6=>Ze<|aU<|mM R<|AE h8 λm A h9=>sQ R (Ew R Bt.slice iL R iL λ_=>A)<|sQ R (QO (cs:=(BR m)) R EO iL fR (λ_=>A) R)<|sS R (BD (cs:=HO) 5 R Hx R R)<|mA R<|Zk R R (A0 (ds:=(BR m)) R Hw iL R iL R R R R)<|aZ<|AE h9 λl5 a7 a8=>?_
  refine Lk 6 [pO 36<|.ptr 3 (j+4) 0 2,pO 37<|.own 26<|l 0,pO 38<|rI q,pO 39<|.ptr 5 (l 2) 0 4,pO 40<|qb m.Attrs,⟨some 41,(λE=>.own 41<|E 5),some (41,(λE=>some<|.arr (E 5) 123 2<|l5.map AG.row)),[5]⟩] BY (by kernel_rfl) (by exact⟨λ_ _ h=>⟨R,λ_ _ e=>by cases e⟩,λ_ _ h=>⟨R,λ_ _ e=>by cases e⟩,λ_ _ h=>⟨R,λ_ _ e=>by cases e⟩,λ_ _ h=>⟨R,λ_ _ e=>by cases e⟩,λ_ _ h=>⟨R,λ_ _ e=>by cases e⟩,λ_ _ h=>⟨by simp only[h 5 R],λ_ _ e=>by cases e;simp only[h 5 R]⟩,Za⟩) R (by exact⟨oB [(3,.ptr 3 (j+4) 0 0)] [(3,some<|.box (j+4) 44 [rI g2.Rows,rI g2.Cols,.own 26<|l 0,.own 22<|l 1])]<|fB R Df (.inl R) (λ_=>R) R,oB [(36,.ptr 3 (j+4) 0 2)] [(3,some<|.box (j+4) 44 [rI g2.Rows,rI g2.Cols,.own 26<|l 0,.own 22<|l 1])]<|Ab (a:=.own 26<|l 0) R Dr (.inl R) R R,oB [(4,rI q)] []<|AN R<|.inl R,oB [(5,.ptr 5 (l 2) 0 0)] [(5,some<|.box (l 2) 84<|BR m)]<|fB R FY (.inl R) (λ_=>R) R,oB [(39,.ptr 5 (l 2) 0 4)] [(5,some<|.box (l 2) 84<|BR m)]<|Ab (a:=qb m.Attrs) R CP (.inl R) R R,oM (λ_=>[(40,qb m.Attrs)]) (λ_=>[]) R λE e h' n=>KU 41 (f:=AG.row) R A8 (.inl R) (.inl ⟨(.inl R),λ_=>R⟩) a7,Za⟩) λE n2=>?_
  refine Bg [1,2,3,4,5,29,30,31,32,33,34,35,36,37,38,39,40,41] [1,2,3,5,8,16,22,26,41] ?_
  refine sQ R (Ew R Bt.slice iL R iL λ_=>A)<|sQ R (HG (ob:=.arr _ _ _ _) R FY iL fR R) ?_
  refine AO.weak (by exact Am.frz (e':=[(1,.ptr 1 j 0 0),(2,.ptr 2 (j+1) 0 0),(3,.ptr 3 (j+4) 0 0),(4,rI q),(5,.ptr 5 (l 2) 0 0),(29,.own 26<|l 0),(30,rL F),(31,rI q),(32,rB<|(decide<|q<(F.length:Int))),(33,rI q),(34,.ptr 26 (l 0) q.toNat 0),(35,.agg<|BR m),(36,.ptr 3 (j+4) 0 2),(37,.own 26<|l 0),(38,rI q),(39,.ptr 5 (l 2) 0 4),(40,qb m.Attrs),(41,qb l5),(42,.ptr 26 (l 0) q.toNat 0),(43,.ptr 26 (l 0) q.toNat 4)]) (h':=[(1,some<|.box j 47 [rI n1.ID,rI n1.Kind,.own 8<|j+2,qe B,rI n1.Grid.Rows,rI n1.Grid.Cols,qc n1.Grid.Cells,qd n1.Grid.Merges,.own 16<|j+3]),(2,some<|.box (j+1) 47 FF),(3,some<|.box (j+4) 44 [rI g2.Rows,rI g2.Cols,.own 26<|l 0,.own 22<|l 1]),(5,some<|.box (l 2) 84<|BR m),(8,some<|.arr (j+2) 123 2<|I.map AG.row),(16,some<|.arr (j+3) 129 8<|O.map At.row),(22,some<|.arr (l 1) 86 4<|g2.Merges.map Aj.row),(26,some<|.arr (l 0) 84 5<|g2.Cells.map Ak.row)]) 41 R ⟨jL,jL,jL,jL,jL,jL,jL,jL,jL,jL,jL,jL,jL,jL,jL,jL,jL,.inl<|.inr<|.inr ⟨R,R⟩,jL,jL,Za⟩ ⟨R,.inl R,R,.inl R,R,.inl R,R,.inl R,R,.inl R,R,.inl R,R,.inl R,R,.inl R,Za⟩) ?_
  refine Zk R R (Q3 (v:=(Ak.mk m.Row m.Col m.Text m.Ref l5)) R JK iL R A iL R R R R)<|aZ<|a6 _<|aG [1,2,3,29,30,31] [1,2,3,8,16,22,26] ?_
  exact aR<|AE a8 λx5 aa ab=>xA R aa<|mM R<|Zh<|ZF ab (AH [(l 0),(l 1),n2]) wk
 exact Zm<|X _ _ wk<|J1 _ (AH [(l 0),(l 1),(l 2)])<|xH a1 h8
theorem lZ{m b c r}(h:Fd m b c=some r):AX prog 43 [.agg<|By m,rI b,rI c] (.agg<|A3 r):=by
 unfold Fd at h
 refine mF func43 ntmps43 R λj=>aU<|sS R (A4 (cs:=(By m)) 3 R iL R R)<|sS R (BD (cs:=FC) 6 R Hq R R)<|aZ<|aT λc2=>aR<|mM R<|mM R ?_
 refine sQ R (B7 R Wp (q:=[(0,_),(1,_),(2,_),(3,_)]) (by exact⟨R,R,R,iL,R,R,R,iL,R,R,R,iL,R,R,R,iL,Za⟩) (cs:=[rI b,rI c,rI 1,rI 1])<|by rfl) ?_
 refine sS R (BD (cs:=FC) 7 R Hq R R)<|Zk R R (A0 (ds:=[rI b,rI c,rI 1,rI 1]) R GM iL R iL R R R R)<|aZ<|c2 _<|aS λK3 c3 B=>aU<|lF Dk Dx R R<|xL CQ R<|mM R<|aZ<|Ze<|BK h λo1 q C E=>?_
 have J1:∀(u2:Unit) (i5:NN),o1=.nrm u2→K3 ⟨[(6,.ptr 6 (j+1) 0 0),(7,.ptr 7 (j+2) 0 0)],[(6,some<|.box (j+1) 86 FC),(7,some<|.box (j+2) 86 [rI b,rI c,rI 1,rI 1])],(i5 0),51⟩:=by
  intro u2 i5 e
  have h1:=C _ e
  exact c3 _<|aU<|xC Cp R<|Zk R R (A0 (ds:=[rI b,rI c,rI 1,rI 1]) R GM iL R iL R R R R)<|aZ<|Zi<|Cf (P:=prog) (λ(r:Aj)=>.agg<|A3 r) h1 iL<|.a Cp R R R<|.g (cs:=[.int .i64 b,.int .i64 c,.int .i64 1,.int .i64 1]) R R
 refine Zw (λ(F:Int) A=>⟨[(1,rI b),(2,rI c),(6,.ptr 6 (j+1) 0 0),(7,.ptr 7 (j+2) 0 0),(14,qd m.Merges),(15,rL m.Merges),(16,rI F)],[(6,some<|.box (j+1) 86 FC),(7,some<|.box (j+2) 86 [rI b,rI c,rI 1,rI 1])],(A 0),51⟩) (AH [(j+3)]) q wk ?_
 intro F A v1 I w
 have h2:IJ m b c F=some v1:=I;unfold IJ at h2
 refine aU<|xS R<|aZ<|aT λc7=>cI R h2 (λJ=>?_) λJ=>?_
 ·refine Zc<|c7 _<|aT λc8=>Ze<|aU<|AE J λl M h4=>xI CQ R M<|xB ((A3 l)) Cp R<|sS R (BD (cs:=FC) 9 R Hq R R)<|Zk R R (A0 (ds:=(A3 l)) R GM iL R iL R R R R)<|aZ<|aT λO=>aR<|mM R<|lF CY AI R R<|sQ R (Cd R iL iL)<|mM R<|vM R<|vF CY AI R R<|AE h4 λx5 T h5=>vQ R (CJ R (iR R) (iR R)<|Ae T)<|vF GR AI R R<|vQ R (B1 R (iR R)<|iR R)<|xN R<|mM R<|vM R<|vF DB AI R R<|vQ R (Cd R (iR R)<|iR R)<|xN R<|mM R<|vM R<|vF DB AI R R<|AE h5 λx6 U h6=>vQ R (CJ R (iR R) (iR R)<|Ae U)<|vF F4 AI R R<|vQ R (B1 R (iR R)<|iR R)<|xN R<|aZ<|O _<|cI R h6 (λV=>?_) λV=>?_
  ·refine aT λX=>aG [6,9] [6,9] ?_
   exact aR<|xC Cp R<|Zk R R (A0 (ds:=(A3 l)) R GM iL R iL R R R R)<|aZ<|X _<|Zi<|Cf (P:=prog) (λ(r:Aj)=>.agg<|A3 r) (E _<|xH w V) iL<|.a Cp R R R<|.g (cs:=[.int .i64 l.Row,.int .i64 l.Col,.int .i64 l.H,.int .i64 l.W]) R R
  refine Zc<|c8 _<|aG [1,2,6,7,14,15,16] [6,7] ?_
  exact aR<|AE V λx7 Z h8=>xA R Z<|mM R<|Zh<|Zt h8 (AH [((A 0)+1)]) wk
 exact Zm<|B _ _ wk<|J1 _ (AH [(A 0)])<|xH w J
theorem Sk{w:List AG}{A:AG}{B:AG}{r:(List AG)}{j:Nat}{l:Nat}(h:Jr w A B=some r):A9 prog 155 2 [.agg<|B3 A,.agg<|B3 B,.ptr 1000 j 0 0] [(1000,some<|.box j 39 [.own 1001 l]),(1001,some<|.arr l 123 2<|w.map AG.row)] (λq h'=>∃(i:Nat→Nat),q=.tup []∧h'=[(1000,some<|.box j 39 [.own 1001<|i 0]),(1001,some<|.arr (i 0) 123 2<|r.map AG.row)]):=by
 unfold Jr at h
 refine EB func155 R R ntmps155 (Zo R) λm=>aU<|sS R (A4 (cs:=(B3 A)) 3 R iL R R)<|sS R (A4 (cs:=(B3 B)) 4 R iL R R)<|aZ<|Ze<|aU<|lF EN BB R R<|sQ R (E5 R iL iL)<|mA R<|aZ<|cI R h (λC=>?_) λC=>?_
 ·refine aR<|sQ R (Ab (a:=.own 1001 l) R CP iL R R)<|xC D5 R<|sS R (Bu 11 R A8 (f:=AG.row) (l:=([A]:List AG)) ⟨R,⟨_,iL,R⟩,Za⟩ R (λ_=>R) R)<|AE C λJ E O=>sS R (DL R A8 iL R (.inr<|.inl ⟨_,_,iL,R⟩) E)<|Zk R R (A0 (ds:=[.own 1001<|m+3]) R JK iL R iL R R R R)<|Zh ?_
  exact Zy (s':=⟨[],[(1000,some<|.box j 39 [.own 1001<|m+3]),(1001,some<|.arr (m+3) 123 2<|J.map AG.row)],(m+4),21⟩) wk<|CI (λ(r:(List AG)) q h'=>∃(i:Nat→Nat),q=.tup []∧h'=[(1000,some<|.box j 39 [.own 1001<|i 0]),(1001,some<|.arr (i 0) 123 2<|r.map AG.row)]) O<|by exact⟨.tup [],[(1000,some<|.box j 39 [.own 1001<|m+3]),(1001,some<|.arr (m+3) 123 2<|J.map AG.row)],⟨_,R,Za⟩,⟨.inr R,.inr R,Za⟩,R,R,AH [(m+3)],R,R⟩
 refine aU<|lF II BB R R<|sQ R (D2 R iL iL)<|mA R<|aZ<|cI R C (λF=>?_) λF=>?_
 ·refine aG [2,4] [4,1000,1001] ?_
  refine aR<|sQ R (Ab (a:=.own 1001 l) R CP iL R R)<|xC D5 R<|sS R (Bu 19 R A8 (f:=AG.row) (l:=([B]:List AG)) ⟨R,⟨_,iL,R⟩,Za⟩ R (λ_=>R) R)<|AE F λM I T=>sS R (DL R A8 iL R (.inr<|.inl ⟨_,_,iL,R⟩) I)<|Zk R R (A0 (ds:=[.own 1001<|m+3]) R JK iL R iL R R R R)<|Zh ?_
  exact Zy (s':=⟨[],[(1000,some<|.box j 39 [.own 1001<|m+3]),(1001,some<|.arr (m+3) 123 2<|M.map AG.row)],(m+4),21⟩) wk<|CI (λ(r:(List AG)) q h'=>∃(i:Nat→Nat),q=.tup []∧h'=[(1000,some<|.box j 39 [.own 1001<|i 0]),(1001,some<|.arr (i 0) 123 2<|r.map AG.row)]) T<|by exact⟨.tup [],[(1000,some<|.box j 39 [.own 1001<|m+3]),(1001,some<|.arr (m+3) 123 2<|M.map AG.row)],⟨_,R,Za⟩,⟨.inr R,.inr R,Za⟩,R,R,AH [(m+3)],R,R⟩
 refine Zc ?_
 exact Zy (s':=⟨[],[(1000,some<|.box j 39 [.own 1001 l]),(1001,some<|.arr l 123 2<|w.map AG.row)],(m+2),21⟩) wk<|CI (λ(r:(List AG)) q h'=>∃(i:Nat→Nat),q=.tup []∧h'=[(1000,some<|.box j 39 [.own 1001<|i 0]),(1001,some<|.arr (i 0) 123 2<|r.map AG.row)]) F<|by exact⟨.tup [],[(1000,some<|.box j 39 [.own 1001 l]),(1001,some<|.arr l 123 2<|w.map AG.row)],⟨_,R,Za⟩,⟨.inr R,.inr R,Za⟩,R,R,AH [l],R,R⟩
theorem bN{c1:List AG}{B:List AG}{C:List AG}{r:(List AG)}{j:Nat}{l:Nat}(h:MA c1 B C=some r):A9 prog 154 2 [qb B,qb C,.fn 155 [.ptr 1000 j 0 0]] [(1000,some<|.box j 39 [.own 1001 l]),(1001,some<|.arr l 123 2<|c1.map AG.row)] (λE h'=>∃(i:Nat→Nat),E=.tup []∧h'=[(1000,some<|.box j 39 [.own 1001<|i 0]),(1001,some<|.arr (i 0) 123 2<|r.map AG.row)]):=by
 unfold MA at h
 refine EB func154 R R ntmps154 (Zo R) λn0=>aU<|mA R<|mA R<|aZ<|Ze<|BK h λo4 w av F=>Hy (λ(I:Int) (J:Int) (o2:List AG) m=>⟨[(0,qb B),(1,qb C),(2,.fn 155 [.ptr 1000 j 0 0]),(6,rI I),(7,rI J)],[(1000,some<|.box j 39 [.own 1001<|m 0]),(1001,some<|.arr (m 0) 123 2<|o2.map AG.row)],(m 1),92⟩) (AH [l,n0]) w wk ?_
 intro I J o2 m v1 M O
 have h1:Mu B C I J o2=some v1:=M;unfold Mu at h1
 refine aT λC2=>aU<|mM R<|mM R<|xL A8 R<|xS R<|mM R<|vM R<|vM R<|vQ R (DP R A8.slice<|iR R)<|vQ R (B1 R (iR R)<|iR R)<|xO R<|aZ<|cI R h1 (λT=>?_) λT=>?_
 ·refine Zc<|C2 _<|Ze<|Ze<|aT λC4=>?_
  refine ZA BY (by kernel_rfl) ?_
  refine qP R (AN R iL)<|qP R (AN R iL)<|qP R (DP R A8.slice iL)<|qP R (A5 R iL iL)<|qP R (AN R iL)<|qO R (AN R iL)<|qO R (AN R iL)<|qO R (DP R A8.slice<|iR R)<|qO R (B1 R (iR R)<|iR R)<|qO R (AN R<|iR R)<|qT R (AN R iL)<|qT R (AN R iL)<|AE T λx1 U h3=>qT R (BA R A8.slice (iR R) (iR R) (λ_=>R)<|Ae U)<|qT R (BJ R EN<|iR R)<|qT R (Bs (d:=.str x1.Name) R BB (iR R) R)<|qT R (AN R iL)<|qT R (AN R iL)<|AE h3 λx2 V h4=>qT R (BA R A8.slice (iR R) (iR R) (λ_=>R)<|Ae V)<|qT R (BJ R EN<|iR R)<|qT R (Bs (d:=.str x2.Name) R BB (iR R) R)<|qT R (NJ R (iR R)<|iR R)<|qO R (Bb R (iR R)<|iR R)<|qP R (Cm R iL<|iR R)<|qP R (EI R iL)<|AQ.nil<|C4 _<|cI R h4 (λX=>?_) λX=>?_
  ·refine aT λC5=>aG [0,1,2,6,7] [1000,1001] ?_
   refine aR<|mM R<|mM R<|mM R<|AE X λx3 Z h6=>xI A8 R Z<|xB ((B3 x3)) D5 R ?_
   refine sQ R (B7 R Pk (q:=[]) (by exact Za) (cs:=[.r<|.str [],.r<|.str []])<|by rfl) ?_
   refine AE h6 λw1 a0 h7=>?_
   refine Zu [1000,1001] (hc:=[(1000,some<|.box j 39 [.own 1001<|m 0]),(1001,some<|.arr (m 0) 123 2<|o2.map AG.row)]) (bs:=[.agg<|B3 x3,.agg [.r<|.str [],.r<|.str []]]) (caps:=[.ptr 1000 j 0 0]) R R R R iL R ⟨.inl ⟨iL,R⟩,.inl ⟨iL,R⟩,Za⟩ ⟨R,R,R,R,R,R,Za⟩ (by decide) (Sk a0) ?_
   intro i8 n1
   refine Bg [0,1,2,6,7,56,57,58,59,60,61,62] [1000,1001] ?_
   exact aZ<|C5 _<|aR<|mM R<|AE h7 λi9 a2 h8=>xA R a2<|mA R<|Zh<|E9.mk h8 (AH [(i8 0),n1]) wk
  refine aT λC6=>aG [0,1,2,6,7] [1000,1001] ?_
  refine ZA BY (by kernel_rfl) ?_
  refine qP R (AN R iL)<|qP R (AN R iL)<|qP R (DP R A8.slice iL)<|qP R (A5 R iL iL)<|qP R (AN R iL)<|qO R (AN R iL)<|qO R (AN R iL)<|AE X λx4 a6 h9=>qO R (BA R A8.slice (iR R) (iR R) (λ_=>R)<|Ae a6)<|qO R (BJ R EN<|iR R)<|qO R (Bs (d:=.str x4.Name) R BB (iR R) R)<|qO R (AN R iL)<|qO R (AN R iL)<|AE h9 λx5 a7 a8=>qO R (BA R A8.slice (iR R) (iR R) (λ_=>R)<|Ae a7)<|qO R (BJ R EN<|iR R)<|qO R (Bs (d:=.str x5.Name) R BB (iR R) R)<|qO R (NJ R (iR R)<|iR R)<|qP R (Cm R iL<|iR R)<|qP R (EI R iL)<|AQ.nil<|C6 _<|cI R a8 (λq=>?_) λq=>?_
  ·refine aT λC7=>aR<|mM R ?_
   refine sQ R (B7 R Pk (q:=[]) (by exact Za) (cs:=[.r<|.str [],.r<|.str []])<|by rfl) ?_
   refine mM R<|mM R<|AE q λx6 aa ab=>xI A8 R aa<|xB ((B3 x6)) D5 R<|AE ab λw2 ac ad=>?_
   refine Zu [1000,1001] (hc:=[(1000,some<|.box j 39 [.own 1001<|m 0]),(1001,some<|.arr (m 0) 123 2<|o2.map AG.row)]) (bs:=[.agg [.r<|.str [],.r<|.str []],.agg<|B3 x6]) (caps:=[.ptr 1000 j 0 0]) R R R R iL R ⟨.inl ⟨iL,R⟩,.inl ⟨iL,R⟩,Za⟩ ⟨R,R,R,R,R,R,Za⟩ (by decide) (Sk ac) ?_
   intro ae n2
   refine Bg [0,1,2,6,7,65,66,67,68,69,70,82,83,84,85,86,87,88,89] [1000,1001] ?_
   refine aZ<|C7 _<|aG [0,1,2,6,7] [1000,1001] ?_
   exact aR<|mM R<|AE ad λj4 af ag=>xA R af<|mA R<|Zh<|E9.mk ag (AH [(ae 0),n2]) wk
  refine aT λC8=>?_
  refine W5 9 BY (by kernel_rfl) R R ?_
  refine AT.step R R R (AN R iL)<|AT.step R R R (AN R iL)<|AT.step R R R (AN R iL)<|AE q λx7 ah ai=>AT.step R R R (BA R A8.slice iL iL (λ_=>R) λ_=>ah)<|AT.step R R R (CV (cs:=(B3 x7)) R D5 iL R R)<|AT.step R R R (AN R iL)<|AT.step R R R (AN R iL)<|AE ai λx8 aj ak=>AT.step R R R (BA R A8.slice iL iL (λ_=>R) λ_=>aj)<|AT.step R R R (CV (cs:=(B3 x8)) R D5 iL R R)<|AT.nil<|AE ak λw3 al an=>?_
  refine Zu [1000,1001] (hc:=[(1000,some<|.box j 39 [.own 1001<|m 0]),(1001,some<|.arr (m 0) 123 2<|o2.map AG.row)]) (bs:=[.agg<|B3 x7,.agg<|B3 x8]) (caps:=[.ptr 1000 j 0 0]) R R R R iL R ⟨.inl ⟨iL,R⟩,.inl ⟨iL,R⟩,Za⟩ ⟨R,R,R,R,R,R,Za⟩ (by decide) (Sk al) ?_
  intro ao n3
  refine Bg [0,1,2,6,7,18,19,20,21,22,23,24,25,26,27,65,66,67,68,69,70,82] [1000,1001] ?_
  refine aZ<|C8 _<|aG [0,1,2,6,7] [1000,1001] ?_
  exact aR<|mM R<|AE an λaw A aq=>xA R A<|mM R<|AE aq λj5 ar au=>xA R ar<|mA R<|mA R<|Zh<|E9.mk au (AH [(ao 0),n3]) wk
 refine Zm ?_
 exact Zy (s':=⟨[],[(1000,some<|.box j 39 [.own 1001<|m 0]),(1001,some<|.arr (m 0) 123 2<|o2.map AG.row)],(m 1),92⟩) wk<|CI (λ(r:(List AG)) E h'=>∃(i:Nat→Nat),E=.tup []∧h'=[(1000,some<|.box j 39 [.own 1001<|i 0]),(1001,some<|.arr (i 0) 123 2<|r.map AG.row)]) (F _<|xH O T)<|by exact⟨.tup [],[(1000,some<|.box j 39 [.own 1001<|m 0]),(1001,some<|.arr (m 0) 123 2<|o2.map AG.row)],⟨_,R,Za⟩,⟨.inr R,.inr R,Za⟩,R,R,AH [(m 0)],R,R⟩
theorem io{l c r}(h:KG l c=some r):AX prog 139 [qb l,qb c] (qb r):=by
 unfold KG at h
 refine mF func139 ntmps139 R λj=>aU<|mA R<|aZ<|aU<|sS R (BD (cs:=[cZ]) 5 R Sb R R)<|aZ<|aT λq=>aR<|mM R<|mM R ?_
 refine sQ R (Km (bs:=[.ptr 5 j 0 0]) R<|by exact⟨iL,Za⟩) ?_
 refine AO.weak (Zx (S4 5 0 3050 123 2 (by decide) R R<|by decide)<|by exact Am.cv (e':=[(0,qb l),(1,qb c),(4,cZ),(5,.ptr 5 j 0 0),(6,qb l),(7,qb c),(8,.fn 155 [.ptr 5 j 0 0])]) (h':=[(5,some<|.box j 39 [.own 3050<|j+1]),(3050,some<|.arr (j+1) 123 2<|([]:List AG).map AG.row)]) ⟨jL,jL,jL,jL,jL,jL,jL,Za⟩ ⟨.inl R,.inl R,Za⟩ nL) ?_
 refine AE h λB m w=>?_
 refine Zu [5,3050] (hc:=[(1000,some<|.box j 39 [.own 1001<|j+1]),(1001,some<|.arr (j+1) 123 2<|([]:List AG).map AG.row)]) (bs:=[qb l,qb c,.fn 155 [.ptr 1000 j 0 0]]) (caps:=[]) R R R R iL R ⟨.inl ⟨iL,R⟩,.inl ⟨iL,R⟩,.inl ⟨iL,R⟩,Za⟩ ⟨R,R,R,R,R,R,Za⟩ (by decide) (bN m) ?_
 intro A C
 refine Bg [0,1,4,5,6,7,8,9] [5,3050] ?_
 exact aZ<|q _<|aU<|sQ R (Ab (a:=.own 3050<|A 0) R CP iL R R)<|mA R<|aZ<|Zi<|Cf (P:=prog) (λ(r:(List AG))=>qb r) w iL<|.t<|.one<|.own R
theorem gp{A:List (Int × AC)}{m2:List (Int × (List AG))}{E:Int}{C:Int}{r:Bool}{q:Nat}{j:Nat}{w:Nat}{m:Nat}(h:NO A m2 E C=some r):A9 prog 140 3 [.ptr 1000 q 0 0,rI E,rI C] [(1000,some<|.box q 150 [.mref 1001 j,.mref 1002 m]),(1001,some<|.mb j w 103<|AJ AC.row A),(1002,some<|.md m<|AJ (λ(l:List AG)=>RV.sl<|l.map AG.row) m2)] (λF h'=>∃(i:Nat→Nat),F=rB r∧h'=[(1000,some<|.box q 150 [.mref 1001 j,.mref 1002 m]),(1001,some<|.mb j w 103<|AJ AC.row A),(1002,some<|.md m<|AJ (λ(l:List AG)=>RV.sl<|l.map AG.row) m2)]):=by
 unfold NO at h
 refine EB func140 R R ntmps140 (Zo R) λn0=>aU<|mA R<|aZ<|aS λK2 c2 U=>Ze<|BK h λo1 O V T=>?_
 have J1:∀(u2:Unit) (X:NN),o1=.nrm u2→K2 ⟨[],[(1000,some<|.box q 150 [.mref 1001 j,.mref 1002 m]),(1001,some<|.mb j w 103<|AJ AC.row A),(1002,some<|.md m<|AJ (λ(l:List AG)=>RV.sl<|l.map AG.row) m2)],(X 0),29⟩:=by
  intro u2 X e
  have h1:=V _ e
  refine c2 _<|aU<|mA R<|aZ ?_
  exact Zi<|Zy (s':=⟨[(6,rB false)],[(1000,some<|.box q 150 [.mref 1001 j,.mref 1002 m]),(1001,some<|.mb j w 103<|AJ AC.row A),(1002,some<|.md m<|AJ (λ(l:List AG)=>RV.sl<|l.map AG.row) m2)],(X 0),29⟩) wk<|CI (λ(r:Bool) F h'=>∃(i:Nat→Nat),F=rB r∧h'=[(1000,some<|.box q 150 [.mref 1001 j,.mref 1002 m]),(1001,some<|.mb j w 103<|AJ AC.row A),(1002,some<|.md m<|AJ (λ(l:List AG)=>RV.sl<|l.map AG.row) m2)]) h1<|by exact⟨rB false,[(1000,some<|.box q 150 [.mref 1001 j,.mref 1002 m]),(1001,some<|.mb j w 103<|AJ AC.row A),(1002,some<|.md m<|AJ (λ(l:List AG)=>RV.sl<|l.map AG.row) m2)],R,⟨.inr R,.inr R,.inr R,Za⟩,R,R,AH [],R,R⟩
 refine Zw (λ(B:Int) M=>⟨[(0,.ptr 1000 q 0 0),(1,rI B),(2,rI C)],[(1000,some<|.box q 150 [.mref 1001 j,.mref 1002 m]),(1001,some<|.mb j w 103<|AJ AC.row A),(1002,some<|.md m<|AJ (λ(l:List AG)=>RV.sl<|l.map AG.row) m2)],(M 0),29⟩) (AH [n0]) O wk ?_
 intro B M v1 Z I
 have h2:GF A C B=some v1:=Z;unfold GF at h2
 refine aT λc4=>aU<|mM R<|sQ R (BU R iL iL)<|aZ<|cI R h2 (λh3=>?_) λh3=>?_
 ·refine Zc<|c4 _<|Ze<|aT λc6=>aU<|mM R<|mM R<|xQ R<|aZ<|cI R h3 (λh4=>?_) λh4=>?_
  ·refine aU<|mA R<|aZ ?_
   exact Zi<|Zy (s':=⟨[(6,rB true)],[(1000,some<|.box q 150 [.mref 1001 j,.mref 1002 m]),(1001,some<|.mb j w 103<|AJ AC.row A),(1002,some<|.md m<|AJ (λ(l:List AG)=>RV.sl<|l.map AG.row) m2)],(M 0),29⟩) wk<|CI (λ(r:Bool) F h'=>∃(i:Nat→Nat),F=rB r∧h'=[(1000,some<|.box q 150 [.mref 1001 j,.mref 1002 m]),(1001,some<|.mb j w 103<|AJ AC.row A),(1002,some<|.md m<|AJ (λ(l:List AG)=>RV.sl<|l.map AG.row) m2)]) (T _<|xH I h4)<|by exact⟨rB true,[(1000,some<|.box q 150 [.mref 1001 j,.mref 1002 m]),(1001,some<|.mb j w 103<|AJ AC.row A),(1002,some<|.md m<|AJ (λ(l:List AG)=>RV.sl<|l.map AG.row) m2)],R,⟨.inr R,.inr R,.inr R,Za⟩,R,R,AH [],R,R⟩
  refine Zc<|c6 _<|aU<|mM R<|sQ R (Ko (ob:=.box _ _ _) R iL fR R)<|lF SO QX R R<|mM R<|sQ R (YQ true R underlying147 underlying3 (GZ fC) (.inl R) (.inl R) R)<|mM R<|xX R<|xX R<|mA R<|mA R<|aZ<|aT λa0=>aT λa1=>aG [0,2,7,8] [1000,1001,1002] ?_
  refine aR<|mM R<|sQ R (A6 R iL)<|aZ<|a1 _<|cI R h4 (λh5=>?_) λh5=>?_
  ·refine aU<|mA R<|aZ ?_
   exact Zi<|Zy (s':=⟨[(6,rB false)],[(1000,some<|.box q 150 [.mref 1001 j,.mref 1002 m]),(1001,some<|.mb j w 103<|AJ AC.row A),(1002,some<|.md m<|AJ (λ(l:List AG)=>RV.sl<|l.map AG.row) m2)],(M 0),29⟩) wk<|CI (λ(r:Bool) F h'=>∃(i:Nat→Nat),F=rB r∧h'=[(1000,some<|.box q 150 [.mref 1001 j,.mref 1002 m]),(1001,some<|.mb j w 103<|AJ AC.row A),(1002,some<|.md m<|AJ (λ(l:List AG)=>RV.sl<|l.map AG.row) m2)]) (T _<|xH I h5)<|by exact⟨rB false,[(1000,some<|.box q 150 [.mref 1001 j,.mref 1002 m]),(1001,some<|.mb j w 103<|AJ AC.row A),(1002,some<|.md m<|AJ (λ(l:List AG)=>RV.sl<|l.map AG.row) m2)],R,⟨.inr R,.inr R,.inr R,Za⟩,R,R,AH [],R,R⟩
  exact Zc<|a0 _<|aR<|mM R<|AE h5 λx1 J h6=>sQ R (Kp R iL R R λ_=>J)<|sQ R (QA R LQ iL R R λ_=>J)<|sQ R (Sc (a:=x1) (d:=.int .i64 x1.Parent) R AI iL R R (λ_=>J) R)<|mA R<|Zh<|Zt h6 (AH [(M 0)]) wk
 exact Zm<|U _ _ wk<|J1 _ (AH [(M 0)])<|xH I h3
theorem lY{w r}(h:KR w=some r):A9 prog 113 3 [qf w] [] (λZ h'=>∃(i:Nat→Nat),Z=.ptr 1000 (i 0) 0 0∧h'=[(1000,some<|.box (i 0) 150 [.mref 1001<|i 1,.mref 1002<|i 3]),(1001,some<|.mb (i 1) (i 2) 103<|AJ AC.row r.1),(1002,some<|.md (i 3)<|AJ (λ(l:List AG)=>RV.sl<|l.map AG.row) r.2)]):=by
 unfold KR at h
 refine EB func113 R R ntmps113 (Zo R) λj=>aU<|mA R<|aZ<|aT λc2=>aR<|sS R (YO AC.row 1001 103 R)<|sS R (L2 (λ(l:List AG)=>RV.sl<|l.map AG.row) 1002 R) ?_
 refine sQ R (B7 R ec (q:=[(0,_),(1,_)]) (by exact⟨R,R,R,iL,R,R,R,iL,Za⟩) (cs:=[.mref 1001 j,.mref 1002<|j+1])<|by rfl) ?_
 refine sS R (A4 (cs:=[.mref 1001 j,.mref 1002<|j+1]) 1000 R iL R R)<|mA R<|aZ<|c2 _<|aS λK3 c3 a0=>aU<|mM R<|xL Da R<|mM R<|aZ<|Ze<|GU h λo1 I a1=>?_
 have J1:∀(J:List (Int × AC)) (M:List (Int × (List AG))) (B:NN),o1=(J,M)→K3 ⟨[(3,.ptr 1000 (j+2) 0 0)],[(1000,some<|.box (j+2) 150 [.mref 1001 j,.mref 1002<|j+1]),(1001,some<|.mb j (B 0) 103<|AJ AC.row J),(1002,some<|.md (j+1)<|AJ (λ(l:List AG)=>RV.sl<|l.map AG.row) M)],(B 1),64⟩:=by
  intro J M B e
  have h1:=a1 _ _ e
  refine c3 _<|aU<|mM R<|mA R<|aZ ?_
  exact Zi<|Zy (s':=⟨[(2,.ptr 1000 (j+2) 0 0)],[(1000,some<|.box (j+2) 150 [.mref 1001 j,.mref 1002<|j+1]),(1001,some<|.mb j (B 0) 103<|AJ AC.row J),(1002,some<|.md (j+1)<|AJ (λ(l:List AG)=>RV.sl<|l.map AG.row) M)],(B 1),64⟩) wk<|CI (λ(r:(List<|Int × AC) × (List<|Int × (List AG))) Z h'=>∃(i:Nat→Nat),Z=.ptr 1000 (i 0) 0 0∧h'=[(1000,some<|.box (i 0) 150 [.mref 1001<|i 1,.mref 1002<|i 3]),(1001,some<|.mb (i 1) (i 2) 103<|AJ AC.row r.1),(1002,some<|.md (i 3)<|AJ (λ(l:List AG)=>RV.sl<|l.map AG.row) r.2)]) h1<|by exact⟨.ptr 1000 (j+2) 0 0,[(1000,some<|.box (j+2) 150 [.mref 1001 j,.mref 1002<|j+1]),(1001,some<|.mb j (B 0) 103<|AJ AC.row J),(1002,some<|.md (j+1)<|AJ (λ(l:List AG)=>RV.sl<|l.map AG.row) M)],R,⟨.inr R,.inr R,.inr R,Za⟩,R,R,AH [(j+2),j,(B 0),(j+1)],R,R⟩
 refine Hy (λ(O:Int) (T:List (Int × AC)) (A:List (Int × (List AG))) q=>⟨[(3,.ptr 1000 (j+2) 0 0),(10,qf w),(11,rL w),(12,rI O)],[(1000,some<|.box (j+2) 150 [.mref 1001 j,.mref 1002<|j+1]),(1001,some<|.mb j (q 0) 103<|AJ AC.row T),(1002,some<|.md (j+1)<|AJ (λ(l:List AG)=>RV.sl<|l.map AG.row) A)],(q 1),64⟩) (AH [j,(j+3)]) I wk ?_
 intro O T A q v1 a2 a6
 have h2:Hr w O T A=some v1:=a2;unfold Hr at h2
 refine aU<|xS R<|aZ<|aT λc7=>cI R h2 (λh3=>?_) λh3=>?_
 ·refine Zc<|c7 _<|aS λK8 c8 C=>Ze<|GU h3 λp1 a7 a8=>?_
  have J2:∀(m9:List (Int × AC)) (E:List (Int × (List AG))) (U:NN),p1=(m9,E)→K8 ⟨[(3,.ptr 1000 (j+2) 0 0),(10,qf w),(11,rL w),(12,rI O)],[(1000,some<|.box (j+2) 150 [.mref 1001 j,.mref 1002<|j+1]),(1001,some<|.mb j (U 0) 103<|AJ AC.row m9),(1002,some<|.md (j+1)<|AJ (λ(l:List AG)=>RV.sl<|l.map AG.row) E)],(U 1),64⟩:=by
   intro m9 E U e
   have h4:=a8 _ _ e
   exact c8 _<|aR<|AE h4 λx4 aa h5=>xA R aa<|mM R<|Zh<|E9.mk h5 (AH [(U 0),(U 1)]) wk
  refine aU<|AE a7 λm ab h6=>xI Da R ab<|xB ((BW m)) GG R<|sS R (BD (cs:=OS) 5 R PL R R)<|Zk R R (A0 (ds:=(BW m)) R P7 iL R iL R R R R)<|aZ<|Ze<|aU<|lF FO AI R R<|xQ R<|mA R<|aZ<|cI R h6 (λh7=>?_) λh7=>?_
  ·refine AE h7 λr1 ac h8=>?_
   refine rP 20 [pO 20<|.ptr 1000 (j+2) 0 0,pO 21<|.ptr 1000 (j+2) 0 0,pO 22<|.ptr 1000 (j+2) 0 1,pO 23<|.mref 1002<|j+1,pO 24<|.ptr 5 (q 1) 0 3,pO 25<|rI m.Item,pO 26<|.ptr 1000 (j+2) 0 0,pO 27<|.ptr 1000 (j+2) 0 0,pO 28<|.ptr 1000 (j+2) 0 1,pO 29<|.mref 1002<|j+1,pO 30<|.ptr 5 (q 1) 0 3,pO 31<|rI m.Item,pO 32<|.r<|.sl<|((AU A m.Item).getD []).map AG.row,pO 33<|.ptr 5 (q 1) 0 6,pO 34<|rS m.Name,pO 35<|.ptr 5 (q 1) 0 7,pO 36<|rS m.Value,pO 37<|.agg [rS m.Name,rS m.Value],⟨some 38,(λ_=>.r<|.sl<|[(AG.mk m.Name m.Value)].map AG.row),some (38,(λ_=>none)),[]⟩,pO 39<|qb r1] BY R (by exact⟨oB [(3,.ptr 1000 (j+2) 0 0)] [(1000,some<|.box (j+2) 150 [.mref 1001 j,.mref 1002<|j+1])]<|AN R<|.inl R,oB [(20,.ptr 1000 (j+2) 0 0)] [(1000,some<|.box (j+2) 150 [.mref 1001 j,.mref 1002<|j+1])]<|Ko (ob:=.box _ _ _) R (.inl R) (λ_=>R) R,oB [(21,.ptr 1000 (j+2) 0 0)] [(1000,some<|.box (j+2) 150 [.mref 1001 j,.mref 1002<|j+1])]<|fB R Sx (.inl R) (λ_=>R) R,oB [(22,.ptr 1000 (j+2) 0 1)] [(1000,some<|.box (j+2) 150 [.mref 1001 j,.mref 1002<|j+1])]<|Ab (a:=.mref 1002<|j+1) R RL (.inl R) R R,oB [(5,.ptr 5 (q 1) 0 0)] [(5,some<|.box (q 1) 129<|BW m)]<|fB R Ex (.inl R) (λ_=>R) R,oB [(24,.ptr 5 (q 1) 0 3)] [(5,some<|.box (q 1) 129<|BW m)]<|Ab (a:=rI m.Item) R AI (.inl R) R R,oB [(3,.ptr 1000 (j+2) 0 0)] [(1000,some<|.box (j+2) 150 [.mref 1001 j,.mref 1002<|j+1])]<|AN R<|.inl R,oB [(26,.ptr 1000 (j+2) 0 0)] [(1000,some<|.box (j+2) 150 [.mref 1001 j,.mref 1002<|j+1])]<|Ko (ob:=.box _ _ _) R (.inl R) (λ_=>R) R,oB [(27,.ptr 1000 (j+2) 0 0)] [(1000,some<|.box (j+2) 150 [.mref 1001 j,.mref 1002<|j+1])]<|fB R Sx (.inl R) (λ_=>R) R,oB [(28,.ptr 1000 (j+2) 0 1)] [(1000,some<|.box (j+2) 150 [.mref 1001 j,.mref 1002<|j+1])]<|Ab (a:=.mref 1002<|j+1) R RL (.inl R) R R,oB [(5,.ptr 5 (q 1) 0 0)] [(5,some<|.box (q 1) 129<|BW m)]<|fB R Ex (.inl R) (λ_=>R) R,oB [(30,.ptr 5 (q 1) 0 3)] [(5,some<|.box (q 1) 129<|BW m)]<|Ab (a:=rI m.Item) R AI (.inl R) R R,oB [(29,.mref 1002<|j+1),(31,rI m.Item)] [(1002,some<|.md (j+1)<|AJ (λ(l:List AG)=>RV.sl<|l.map AG.row) A)]<|KM (rd:=(λ(l:List AG)=>RV.sl<|l.map AG.row)) false (.slice none 0 0) [] R underlying148 underlying3 (GZ Sb) (λ_ _=>.snil) (.inl R) (.inl R) R,oB [(5,.ptr 5 (q 1) 0 0)] [(5,some<|.box (q 1) 129<|BW m)]<|fB R Kf (.inl R) (λ_=>R) R,oB [(33,.ptr 5 (q 1) 0 6)] [(5,some<|.box (q 1) 129<|BW m)]<|Ab (a:=rS m.Name) R BB (.inl R) R R,oB [(5,.ptr 5 (q 1) 0 0)] [(5,some<|.box (q 1) 129<|BW m)]<|fB R Ii (.inl R) (λ_=>R) R,oB [(35,.ptr 5 (q 1) 0 7)] [(5,some<|.box (q 1) 129<|BW m)]<|Ab (a:=rS m.Value) R BB (.inl R) R R,oB [(34,rS m.Name),(36,rS m.Value)] []<|B7 R Pk (q:=[(0,_),(1,_)]) (by exact⟨R,R,R,(.inl R),R,R,R,(.inl R),Za⟩) (cs:=[rS m.Name,rS m.Value])<|by rfl,W3 R R (by intro d h;cases h;rfl) R (λ_=>[(37,.agg [rS m.Name,rS m.Value])]) (λ_=>[]) (λD X hr=>⟨WK hr 17 R R (by kernel_rfl) R R,Za⟩) (λD X hr=>Za) λX e h' n=>Fi.frz<|BN.toN<|Bu 38 R A8 (f:=AG.row) (l:=([(AG.mk m.Name m.Value)]:List AG)) ⟨R,⟨_,(.inl R),R⟩,Za⟩ R (λ_=>R) R,oD (λ_=>[(32,.r<|.sl<|((AU A m.Item).getD []).map AG.row),(38,.r<|.sl<|[(AG.mk m.Name m.Value)].map AG.row)]) (λ_=>[]) λX e h' n=>DK (r:=qb r1) (caps:=[]) (bs:=[.r<|.sl<|((AU A m.Item).getD []).map AG.row,.r<|.sl<|[(AG.mk m.Name m.Value)].map AG.row]) R (.inl R) R ⟨.inl ⟨(.inl R),R⟩,.inl ⟨(.inl R),R⟩,Za⟩ λ_=>io<|ac,Za⟩) λX n1=>?_
   refine Bg [3,5,10,11,12,13,14,15,16,17,18,19,20,21,22,23,24,25,26,27,28,29,30,31,32,33,34,35,36,37,38,39] [5,1000,1001,1002] ?_
   exact Zk R R (Lh (rd:=(λ(l:List AG)=>RV.sl<|l.map AG.row)) (a:=r1) iL underlying148 underlying3 iL iL iL R)<|Zh<|C _ _ wk<|J2 _ _ (AH [(q 0),n1]) (Zf h8).symm
  refine aT λad=>aR<|mM R<|lF Fy AI R R<|lF Ex AI R R<|AE h7 λr2 ae h9=>?_
  refine Zu [1000,1001,1002] (hc:=[(1000,some<|.box (j+2) 150 [.mref 1001 j,.mref 1002<|j+1]),(1001,some<|.mb j (q 0) 103<|AJ AC.row T),(1002,some<|.md (j+1)<|AJ (λ(l:List AG)=>RV.sl<|l.map AG.row) A)]) (bs:=[.ptr 1000 (j+2) 0 0,rI m.Parent,rI m.Item]) (caps:=[]) R R R R iL R ⟨.inl ⟨iL,R⟩,.inl ⟨iL,R⟩,.inl ⟨iL,R⟩,Za⟩ ⟨R,R,R,R,R,R,R,R,R,Za⟩ (by decide) (gp ae) ?_
  intro i7 V
  refine Bg [3,5,10,11,12,13,14,15,16,17,18,19,41,42,43,44,45,46] [5,1000,1001,1002] ?_
  refine sQ R (A6 R iL)<|mA R<|aZ<|ad _<|cI R h9 (λF=>?_) λF=>?_
  ·refine aG [3,5,10,11,12] [5,1000,1001,1002] ?_
   refine S6 [] [0,1,2,3,4,5,6,7,8,9,10,11,12] [13] 14 BY (by kernel_rfl) R R R R R ?_
   refine Ff.nil<|ZG R R R (AN R iL)<|ZG R R R (Ko (ob:=.box _ _ _) R iL fR R)<|ZG R R R (fB R SO iL fR R)<|ZG R R R (Ab (a:=.mref 1001 j) R QX iL R R)<|ZG R R R (fB R Ex iL fR R)<|ZG R R R (Ab (a:=rI m.Item) R AI iL R R)<|ZG R R R (fB R Ex iL fR R)<|ZG R R R (Ab (a:=rI m.Item) R AI iL R R)<|ZG R R R (fB R Fy iL fR R)<|ZG R R R (Ab (a:=rI m.Parent) R AI iL R R)<|ZG R R R (fB R Kv iL fR R)<|ZG R R R (Ab (a:=rS m.Place) R BB iL R R) ?_
   refine ZG R R R (B7 R QH (q:=[(0,_),(1,_),(2,_)]) (by exact⟨R,R,R,iL,R,R,R,iL,R,R,R,iL,Za⟩) (cs:=[rI m.Item,rI m.Parent,rS m.Place,cZ])<|by rfl) ?_
   refine AF.nil<|AA.step R R R (jh (cs:=[rI m.Item,rI m.Parent,rS m.Place,cZ]) 61 R iL R R)<|AA.nil ?_
   refine AO.weak (by exact Am.cv (e':=[(3,.ptr 1000 (j+2) 0 0),(5,.ptr 5 (q 1) 0 0),(10,qf w),(11,rL w),(12,rI O),(48,.ptr 1000 (j+2) 0 0),(49,.ptr 1000 (j+2) 0 0),(50,.ptr 1000 (j+2) 0 0),(51,.mref 1001 j),(52,.ptr 5 (q 1) 0 3),(53,rI m.Item),(54,.ptr 5 (q 1) 0 3),(55,rI m.Item),(56,.ptr 5 (q 1) 0 4),(57,rI m.Parent),(58,.ptr 5 (q 1) 0 5),(59,rS m.Place),(60,.agg [rI m.Item,rI m.Parent,rS m.Place,cZ]),(61,.ptr 61 V 0 0)]) (h':=[(5,some<|.box (q 1) 129<|BW m),(61,some<|.box V 103 [rI m.Item,rI m.Parent,rS m.Place,.r<|.sl []]),(1000,some<|.box (j+2) 150 [.mref 1001 j,.mref 1002<|j+1]),(1001,some<|.mb j (q 0) 103<|AJ AC.row T),(1002,some<|.md (j+1)<|AJ (λ(l:List AG)=>RV.sl<|l.map AG.row) A)]) ⟨jL,jL,jL,jL,jL,jL,jL,jL,jL,jL,jL,jL,jL,jL,jL,jL,jL,jL,jL,Za⟩ ⟨.inl R,.inr<|.inr ⟨_,_,_,_,R,R,⟨.inl R,.inl R,.inl R,.inr<|.inr ⟨R,R⟩,Za⟩⟩,.inl R,.inl R,.inl R,Za⟩ nL) ?_
   exact Zk R R (Xg (a:=(AC.mk m.Item m.Parent m.Place [])) iL underlying147 underlying3 iL iL iL R R)<|Zh<|C _ _ wk<|J2 _ _ (AH [(V+1),(V+2)]) (Zf F).symm
  exact Zc<|C _ _ wk<|J2 _ _ (AH [(q 0),V]) (Zf F).symm
 exact Zm<|a0 _ _ wk<|J1 _ _ (AH [(q 0),(q 1)])<|xH a6 h3
theorem Wt{j r}(h:MO j=some r):AX prog 143 [rS j] (rB r):=by
 unfold MO at h
 exact mF func143 ntmps143 R λl=>aU<|mA R<|aZ<|aU<|mM R<|mM R<|sQ R (D2 R iL iL)<|mA R<|aZ<|Zi<|yB h R
theorem fH{O T r}(h:Lu O T=some r):AX prog 118 [rS O,rS T] (rI r):=by
 unfold Lu at h
 refine mF func118 ntmps118 R λn0=>aU<|mA R<|aZ<|aU<|mM R<|AE h λm j U=>cL (Wt<|j) R<|mA R<|aZ<|aU<|mM R<|AE U λq l V=>cL (Wt<|l) R<|mA R<|aZ<|aT λX=>aU<|mM R<|aZ<|cI R V (λw=>?_) λw=>?_
 ·refine aT λZ=>aT λc7=>aF [6] ?_
  refine aR<|mM R<|aZ<|c7 _<|cI R w (λA=>?_) λA=>?_
  ·exact zI A R id
  exact Zc<|Z _<|zI A R id
 refine Zc<|X _<|aT λB=>aU<|mM R<|aZ<|cI R w (λC=>?_) λC=>?_
 ·exact zI C R id
 refine Zc<|B _<|aT λE=>aT λF=>aF [0,1] ?_
 refine aR<|mM R<|mM R<|sQ R (NJ R iL iL)<|aZ<|F _<|cI R C (λI=>?_) λI=>?_
 ·exact zI I R id
 refine Zc<|E _<|aT λJ=>aU<|mM R<|mM R<|sQ R (kw R iL iL)<|aZ<|cI R I (λM=>?_) λM=>?_
 ·exact zI M R id
 exact Zc<|J _<|zI M R id
theorem gD{l m r}(h:JM l m=some r):AX prog 116 [.agg<|B6 l,.agg<|B6 m] (rI r):=by
 unfold JM at h
 refine mF func116 ntmps116 R λj=>aU<|sS R (A4 (cs:=(B6 l)) 2 R iL R R)<|sS R (A4 (cs:=(B6 m)) 3 R iL R R)<|mA R<|aZ<|aT λC=>AE h λq w E=>?_
 refine rP 9 [pO 5<|.ptr 2 j 0 2,pO 6<|rS l.Place,pO 7<|.ptr 3 (j+1) 0 2,pO 8<|rS m.Place,pO 9<|rI q,pO 10<|.ptr 2 j 0 0,pO 11<|rI l.Item,pO 12<|.ptr 3 (j+1) 0 0,pO 13<|rI m.Item] BY R (by exact⟨oB [(2,.ptr 2 j 0 0)] [(2,some<|.box j 103<|B6 l)]<|fB R Hj (.inl R) (λ_=>R) R,oB [(5,.ptr 2 j 0 2)] [(2,some<|.box j 103<|B6 l)]<|Ab (a:=rS l.Place) R BB (.inl R) R R,oB [(3,.ptr 3 (j+1) 0 0)] [(3,some<|.box (j+1) 103<|B6 m)]<|fB R Hj (.inl R) (λ_=>R) R,oB [(7,.ptr 3 (j+1) 0 2)] [(3,some<|.box (j+1) 103<|B6 m)]<|Ab (a:=rS m.Place) R BB (.inl R) R R,oD (λ_=>[(6,rS l.Place),(8,rS m.Place)]) (λ_=>[]) λF e O n=>EJ (r:=rI q) (caps:=[]) (bs:=[rS l.Place,rS m.Place]) R (.inl R) R ⟨⟨_,(.inl R),.d R⟩,⟨_,(.inl R),.d R⟩,Za⟩ (λ_=>fH<|w) R,oB [(2,.ptr 2 j 0 0)] [(2,some<|.box j 103<|B6 l)]<|fB R EG (.inl R) (λ_=>R) R,oB [(10,.ptr 2 j 0 0)] [(2,some<|.box j 103<|B6 l)]<|Ab (a:=rI l.Item) R AI (.inl R) R R,oB [(3,.ptr 3 (j+1) 0 0)] [(3,some<|.box (j+1) 103<|B6 m)]<|fB R EG (.inl R) (λ_=>R) R,oB [(12,.ptr 3 (j+1) 0 0)] [(3,some<|.box (j+1) 103<|B6 m)]<|Ab (a:=rI m.Item) R AI (.inl R) R R,Za⟩) λF T=>?_
 refine Bg [0,1,2,3,4,5,6,7,8,9,10,11,12,13] [2,3] ?_
 exact AE E λI A J=>cL (J9<|A) R<|sS R (Bu 15 R B0 (f:=(Ad .i64)) (l:=([q,I]:List Int)) ⟨R,⟨_,iL,R⟩,R,⟨_,iL,R⟩,Za⟩ R (λ_=>R) R)<|AE J λU B M=>cL (Sm<|B) R<|mA R<|aZ<|C _<|Zi<|yI M R
theorem cP{self:(List<|Int × (List AC))→(List AC)→(List<|Int × Bool)→Int→Option ((List<|Int × (List AC)) × (List AC) × (List<|Int × Bool))}(O:∀ {T:List (Int × (List AC))} {X:List AC} {m2:List (Int × Bool)} {E:Int} {r:(List<|Int × (List AC)) × (List AC) × (List<|Int × Bool)} {A:Nat} {q:Nat} {C:Nat} {j:Nat} {F:Nat} {m:Nat} {B:Nat} {w:Nat},self T X m2 E=some r→A9 prog 114 7 [rI E,.ptr 1000 A 0 0,.ptr 1002 j 0 0,.ptr 1004 m 0 0,.ptr 1006 w 0 0] [(1000,some<|.box A 146 [.mref 1001 q]),(1001,some<|.mr q C 103 4 none<|AJ (λ(l:List AC)=>l.map AC.row) T),(1002,some<|.box j 97 [.own 1003 F]),(1003,some<|.arr F 103 4<|X.map AC.row),(1004,some<|.box m 68 [.mref 1005 B]),(1005,some<|.md B<|AJ RV.bool m2),(1006,some<|.box w 152 [.fn 114 [.ptr 1000 A 0 0,.ptr 1002 j 0 0,.ptr 1004 m 0 0,.ptr 1006 w 0 0]])] (λZ h'=>∃(i:Nat→Nat),Z=.tup []∧h'=[(1000,some<|.box A 146 [.mref 1001 q]),(1001,some<|.mr q C 103 4 none<|AJ (λ(l:List AC)=>l.map AC.row) r.1),(1002,some<|.box j 97 [.own 1003<|i 0]),(1003,some<|.arr (i 0) 103 4<|r.2.1.map AC.row),(1004,some<|.box m 68 [.mref 1005 B]),(1005,some<|.md B<|AJ RV.bool r.2.2),(1006,some<|.box w 152 [.fn 114 [.ptr 1000 A 0 0,.ptr 1002 j 0 0,.ptr 1004 m 0 0,.ptr 1006 w 0 0]])])){T:List (Int × (List AC))}{X:List AC}{m2:List (Int × Bool)}{E:Int}{r:(List<|Int × (List AC)) × (List AC) × (List<|Int × Bool)}{A:Nat}{q:Nat}{C:Nat}{j:Nat}{F:Nat}{m:Nat}{B:Nat}{w:Nat}(h:IM self T X m2 E=some r):A9 prog 114 7 [rI E,.ptr 1000 A 0 0,.ptr 1002 j 0 0,.ptr 1004 m 0 0,.ptr 1006 w 0 0] [(1000,some<|.box A 146 [.mref 1001 q]),(1001,some<|.mr q C 103 4 none<|AJ (λ(l:List AC)=>l.map AC.row) T),(1002,some<|.box j 97 [.own 1003 F]),(1003,some<|.arr F 103 4<|X.map AC.row),(1004,some<|.box m 68 [.mref 1005 B]),(1005,some<|.md B<|AJ RV.bool m2),(1006,some<|.box w 152 [.fn 114 [.ptr 1000 A 0 0,.ptr 1002 j 0 0,.ptr 1004 m 0 0,.ptr 1006 w 0 0]])] (λZ h'=>∃(i:Nat→Nat),Z=.tup []∧h'=[(1000,some<|.box A 146 [.mref 1001 q]),(1001,some<|.mr q C 103 4 none<|AJ (λ(l:List AC)=>l.map AC.row) r.1),(1002,some<|.box j 97 [.own 1003<|i 0]),(1003,some<|.arr (i 0) 103 4<|r.2.1.map AC.row),(1004,some<|.box m 68 [.mref 1005 B]),(1005,some<|.md B<|AJ RV.bool r.2.2),(1006,some<|.box w 152 [.fn 114 [.ptr 1000 A 0 0,.ptr 1002 j 0 0,.ptr 1004 m 0 0,.ptr 1006 w 0 0]])]):=by
 unfold IM at h
 refine EB func114 R R ntmps114 (Zo R) λn0=>aT λC1=>aR<|sQ R (Ab (a:=.mref 1001 q) R QN iL R R)<|mM R<|sQ R (Q6 R underlying146 underlying3 (GZ Ol) (.inl R) (.inl R) R)<|AE h λw1 a2 h1=>?_
 refine Zu [1001] (hc:=[(1000,some<|.mr q C 103 4 none<|AJ (λ(l:List AC)=>l.map AC.row) T)]) (bs:=[.fo 1000 q C E,.fn 116 []]) (caps:=[]) R R R R iL R ⟨.inl ⟨iL,R⟩,.inl ⟨iL,R⟩,Za⟩ ⟨R,R,R,Za⟩ (by decide) ((mV (row:=AC.row) Ue (by decide) (λ_=>R) ⟨_,func116,R,R⟩ λ_ _ _ h=>gD h) a2) ?_
 intro i1 n1
 refine Bg [0,1,2,3,4,8,9,10,11] [1000,1001,1002,1003,1004,1005,1006] ?_
 refine aZ<|C1 _<|aU<|sQ R (Ab (a:=.mref 1001 q) R QN iL R R)<|mM R<|sQ R (Q6 R underlying146 underlying3 (GZ Ol) (.inl R) (.inl R) R)<|sQ R (Ym R BM.slice iL R)<|mM R<|aZ<|Ze<|BK h1 λo4 a0 ad a6=>mS (λ(x2:Int) (o2:List AC) (U:List (Int × (List AC))) (V:List (Int × Bool)) J=>⟨[(2,.ptr 1002 j 0 0),(3,.ptr 1004 m 0 0),(4,.ptr 1006 w 0 0),(14,.fo 1001 q C E),(15,rI<|(((AU w1 E).getD []).length:Int)),(16,rI x2)],[(1000,some<|.box A 146 [.mref 1001 q]),(1001,some<|.mr q C 103 4 none<|AJ (λ(l:List AC)=>l.map AC.row) U),(1002,some<|.box j 97 [.own 1003<|J 0]),(1003,some<|.arr (J 0) 103 4<|o2.map AC.row),(1004,some<|.box m 68 [.mref 1005 B]),(1005,some<|.md B<|AJ RV.bool V),(1006,some<|.box w 152 [.fn 114 [.ptr 1000 A 0 0,.ptr 1002 j 0 0,.ptr 1004 m 0 0,.ptr 1006 w 0 0]])],(J 1),32⟩) (AH [F,n1]) a0 wk ?_
 intro x2 o2 U V J v1 a7 a8
 have h2:Fj E self w1 x2 o2 U V=some v1:=a7;unfold Fj at h2
 refine aU<|xS R<|aZ<|aT λC4=>cI R h2 (λh3=>?_) λh3=>?_
 ·refine Zc<|C4 _<|aT λC5=>Ze<|aU<|AE h3 λM a1 h4=>sQ R (jO (f:=AC.row) R BM.slice iL R iL λ_=>a1)<|sQ R (Xc (f:=AC.row) (cs:=(B6 M)) R GE iL R (λ_=>a1) R)<|sS R (BD (cs:=LO) 7 R MB R R)<|Zk R R (A0 (ds:=(B6 M)) R Kg iL R iL R R R R)<|aZ<|aT λC7=>AE h4 λl1 aa h5=>?_
  refine Lk 8 [pO 20<|.mref 1005 B,pO 21<|.ptr 7 (J 1) 0 0,pO 22<|rI M.Item,pO 23<|.own 1003<|J 0,pO 24<|.agg<|B6 M,⟨some 25,(λI=>.own 25<|I 5),some (25,(λI=>some<|.arr (I 5) 103 4<|[M].map AC.row)),[5]⟩,⟨some 26,(λI=>.own 1003<|I 6),some (1003,(λI=>some<|.arr (I 6) 103 4<|l1.map AC.row)),[6]⟩,⟨none,(λ_=>.any),some (1002,(λI=>some<|.box j 97 [.own 1003<|I 6])),[6]⟩] BY (by kernel_rfl) (by exact⟨λ_ _ h=>⟨R,λ_ _ e=>by cases e⟩,λ_ _ h=>⟨R,λ_ _ e=>by cases e⟩,λ_ _ h=>⟨R,λ_ _ e=>by cases e⟩,λ_ _ h=>⟨R,λ_ _ e=>by cases e⟩,λ_ _ h=>⟨R,λ_ _ e=>by cases e⟩,λ_ _ h=>⟨by simp only[h 5 R],λ_ _ e=>by cases e;simp only[h 5 R]⟩,λ_ _ h=>⟨by simp only[h 6 R],λ_ _ e=>by cases e;simp only[h 6 R]⟩,λ_ _ h=>⟨R,λ_ _ e=>by cases e;simp only[h 6 R]⟩,Za⟩) R (by exact⟨oB [(3,.ptr 1004 m 0 0)] [(1004,some<|.box m 68 [.mref 1005 B])]<|Ab (a:=.mref 1005 B) R KH (.inl R) R R,oB [(7,.ptr 7 (J 1) 0 0)] [(7,some<|.box (J 1) 103<|B6 M)]<|fB R EG (.inl R) (λ_=>R) R,oB [(21,.ptr 7 (J 1) 0 0)] [(7,some<|.box (J 1) 103<|B6 M)]<|Ab (a:=rI M.Item) R AI (.inl R) R R,oB [(2,.ptr 1002 j 0 0)] [(1002,some<|.box j 97 [.own 1003<|J 0])]<|Ab (a:=.own 1003<|J 0) R Rt (.inl R) R R,oB [(7,.ptr 7 (J 1) 0 0)] [(7,some<|.box (J 1) 103<|B6 M)]<|EK R GE (.inl R) R R,oM (λ_=>[(24,.agg<|B6 M)]) (λ_=>[]) R λI e h' n=>Bu 25 R BM (f:=AC.row) (l:=([M]:List AC)) ⟨R,⟨_,(.inl R),R⟩,Za⟩ R (λ_=>R) R,oM (λI=>[(23,.own 1003<|J 0),(25,.own 25<|I 5)]) (λI=>[(25,some<|.arr (I 5) 103 4<|[M].map AC.row),(1003,some<|.arr (J 0) 103 4<|o2.map AC.row)]) R λI e h' n=>DL R BM (.inl R) R (.inr<|.inl ⟨_,_,(.inl R),R⟩) aa,oM (λI=>[(2,.ptr 1002 j 0 0),(26,.own 1003<|I 6)]) (λI=>[(1002,some<|.box j 97 [.own 1003<|J 0]),(1003,some<|.arr (I 6) 103 4<|l1.map AC.row)]) R λI e h' n=>A0 (ds:=[.own 1003<|I 6]) R TB (.inl R) R (.inl R) R R R R,Za⟩) λI n2=>?_
  refine Bg [2,3,4,7,14,15,16,17,18,19,20,21,22,24,25,26] [7,25,1000,1001,1002,1003,1004,1005,1006] ?_
  refine Zk R R (Lh (rd:=RV.bool) (a:=true) iL underlying68 underlying3 iL iL iL R)<|aZ<|C7 _<|aG [2,3,4,7,14,15,16] [7,1000,1001,1002,1003,1004,1005,1006] ?_
  refine aR<|sQ R (Ab (a:=.fn 114 [.ptr 1000 A 0 0,.ptr 1002 j 0 0,.ptr 1004 m 0 0,.ptr 1006 w 0 0]) R VS iL R R)<|lF EG AI R R<|K0 h5 λw2 w3 w4 ab h6=>?_
  refine Zu [1000,1001,1002,1003,1004,1005,1006] (hc:=[(1000,some<|.box A 146 [.mref 1001 q]),(1001,some<|.mr q C 103 4 none<|AJ (λ(l:List AC)=>l.map AC.row) U),(1002,some<|.box j 97 [.own 1003<|I 6]),(1003,some<|.arr (I 6) 103 4<|l1.map AC.row),(1004,some<|.box m 68 [.mref 1005 B]),(1005,some<|.md B<|AJ RV.bool<|Ai V M.Item true),(1006,some<|.box w 152 [.fn 114 [.ptr 1000 A 0 0,.ptr 1002 j 0 0,.ptr 1004 m 0 0,.ptr 1006 w 0 0]])]) (bs:=[rI M.Item]) (caps:=[.ptr 1000 A 0 0,.ptr 1002 j 0 0,.ptr 1004 m 0 0,.ptr 1006 w 0 0]) R R R R iL R ⟨.inl ⟨iL,R⟩,Za⟩ ⟨R,R,R,R,R,R,R,R,R,R,R,R,R,R,R,R,R,R,R,R,R,Za⟩ (by decide) (O ab) ?_
  intro i6 n3
  refine Bg [2,3,4,7,14,15,16,27,28,29,30] [7,1000,1001,1002,1003,1004,1005,1006] ?_
  exact aZ<|C5 _<|aR<|AE h6 λx5 ac h7=>xA R ac<|mM R<|Zh<|Oc.mk h7 (AH [(i6 0),n3]) wk
 refine Zm ?_
 exact Zy (s':=⟨[],[(1000,some<|.box A 146 [.mref 1001 q]),(1001,some<|.mr q C 103 4 none<|AJ (λ(l:List AC)=>l.map AC.row) U),(1002,some<|.box j 97 [.own 1003<|J 0]),(1003,some<|.arr (J 0) 103 4<|o2.map AC.row),(1004,some<|.box m 68 [.mref 1005 B]),(1005,some<|.md B<|AJ RV.bool V),(1006,some<|.box w 152 [.fn 114 [.ptr 1000 A 0 0,.ptr 1002 j 0 0,.ptr 1004 m 0 0,.ptr 1006 w 0 0]])],(J 1),32⟩) wk<|CI (λ(r:(List<|Int × (List AC)) × (List AC) × (List<|Int × Bool)) Z h'=>∃(i:Nat→Nat),Z=.tup []∧h'=[(1000,some<|.box A 146 [.mref 1001 q]),(1001,some<|.mr q C 103 4 none<|AJ (λ(l:List AC)=>l.map AC.row) r.1),(1002,some<|.box j 97 [.own 1003<|i 0]),(1003,some<|.arr (i 0) 103 4<|r.2.1.map AC.row),(1004,some<|.box m 68 [.mref 1005 B]),(1005,some<|.md B<|AJ RV.bool r.2.2),(1006,some<|.box w 152 [.fn 114 [.ptr 1000 A 0 0,.ptr 1002 j 0 0,.ptr 1004 m 0 0,.ptr 1006 w 0 0]])]) (a6 _<|xH a8 h3)<|by exact⟨.tup [],[(1000,some<|.box A 146 [.mref 1001 q]),(1001,some<|.mr q C 103 4 none<|AJ (λ(l:List AC)=>l.map AC.row) U),(1002,some<|.box j 97 [.own 1003<|J 0]),(1003,some<|.arr (J 0) 103 4<|o2.map AC.row),(1004,some<|.box m 68 [.mref 1005 B]),(1005,some<|.md B<|AJ RV.bool V),(1006,some<|.box w 152 [.fn 114 [.ptr 1000 A 0 0,.ptr 1002 j 0 0,.ptr 1004 m 0 0,.ptr 1006 w 0 0]])],⟨_,R,Za⟩,⟨.inr R,.inr R,.inr R,.inr R,.inr R,.inr R,.inr R,Za⟩,R,R,AH [(J 0)],R,R⟩
theorem Xz(n:Nat):∀ {I:List (Int × (List AC))} {J:List AC} {m2:List (Int × Bool)} {j:Int} {r:(List<|Int × (List AC)) × (List AC) × (List<|Int × Bool)} {m:Nat} {B:Nat} {E:Nat} {q:Nat} {F:Nat} {w:Nat} {C:Nat} {A:Nat},DW n I J m2 j=some r→A9 prog 114 7 [rI j,.ptr 1000 m 0 0,.ptr 1002 q 0 0,.ptr 1004 w 0 0,.ptr 1006 A 0 0] [(1000,some<|.box m 146 [.mref 1001 B]),(1001,some<|.mr B E 103 4 none<|AJ (λ(l:List AC)=>l.map AC.row) I),(1002,some<|.box q 97 [.own 1003 F]),(1003,some<|.arr F 103 4<|J.map AC.row),(1004,some<|.box w 68 [.mref 1005 C]),(1005,some<|.md C<|AJ RV.bool m2),(1006,some<|.box A 152 [.fn 114 [.ptr 1000 m 0 0,.ptr 1002 q 0 0,.ptr 1004 w 0 0,.ptr 1006 A 0 0]])] (λM h'=>∃(i:Nat→Nat),M=.tup []∧h'=[(1000,some<|.box m 146 [.mref 1001 B]),(1001,some<|.mr B E 103 4 none<|AJ (λ(l:List AC)=>l.map AC.row) r.1),(1002,some<|.box q 97 [.own 1003<|i 0]),(1003,some<|.arr (i 0) 103 4<|r.2.1.map AC.row),(1004,some<|.box w 68 [.mref 1005 C]),(1005,some<|.md C<|AJ RV.bool r.2.2),(1006,some<|.box A 152 [.fn 114 [.ptr 1000 m 0 0,.ptr 1002 q 0 0,.ptr 1004 w 0 0,.ptr 1006 A 0 0]])]):=by
 induction n with
 | zero=>intro I J m2 j r m B E q F w C A h;exact absurd (show(none:Option ((List<|Int × (List AC)) × (List AC) × (List<|Int × Bool)))=some r from h)<|by simp
 | succ n O=>intro I J m2 j r m B E q F w C A h;exact cP (self:=λI J m2 j=>DW n I J m2 j) (λT=>O T) h
theorem jU{I:List (Int × (List AC))}{J:List AC}{m2:List (Int × Bool)}{C:Int}{r:(List<|Int × (List AC)) × (List AC) × (List<|Int × Bool)}{j:Nat}{A:Nat}{E:Nat}{m:Nat}{F:Nat}{q:Nat}{B:Nat}{w:Nat}(h:MW I J m2 C=some r):A9 prog 114 7 [rI C,.ptr 1000 j 0 0,.ptr 1002 m 0 0,.ptr 1004 q 0 0,.ptr 1006 w 0 0] [(1000,some<|.box j 146 [.mref 1001 A]),(1001,some<|.mr A E 103 4 none<|AJ (λ(l:List AC)=>l.map AC.row) I),(1002,some<|.box m 97 [.own 1003 F]),(1003,some<|.arr F 103 4<|J.map AC.row),(1004,some<|.box q 68 [.mref 1005 B]),(1005,some<|.md B<|AJ RV.bool m2),(1006,some<|.box w 152 [.fn 114 [.ptr 1000 j 0 0,.ptr 1002 m 0 0,.ptr 1004 q 0 0,.ptr 1006 w 0 0]])] (λO h'=>∃(i:Nat→Nat),O=.tup []∧h'=[(1000,some<|.box j 146 [.mref 1001 A]),(1001,some<|.mr A E 103 4 none<|AJ (λ(l:List AC)=>l.map AC.row) r.1),(1002,some<|.box m 97 [.own 1003<|i 0]),(1003,some<|.arr (i 0) 103 4<|r.2.1.map AC.row),(1004,some<|.box q 68 [.mref 1005 B]),(1005,some<|.md B<|AJ RV.bool r.2.2),(1006,some<|.box w 152 [.fn 114 [.ptr 1000 j 0 0,.ptr 1002 m 0 0,.ptr 1004 q 0 0,.ptr 1006 w 0 0]])]):=by
 unfold MW at h
 by_cases M:∃n r,DW n I J m2 C=some r
 ·rw[pr M] at h;exact Xz _ h
 ·rw[dif_neg M] at h;cases h
theorem l8{j l r}(h:Ms j l=some r):AX prog 120 [.agg<|B6 j,.agg<|B6 l] (rI r):=by
 unfold Ms at h
 exact mF func120 ntmps120 R λw=>aU<|sS R (A4 (cs:=(B6 j)) 2 R iL R R)<|sS R (A4 (cs:=(B6 l)) 3 R iL R R)<|mA R<|aZ<|aU<|lF EG AI R R<|lF EG AI R R<|AE h λA m q=>cL (J9<|m) R<|mA R<|aZ<|Zi<|yI q R
theorem cY{l1 r}(h:MR l1=some r):AX prog 81 [qf l1] (qg r):=by
 unfold MR at h
 refine mF func81 ntmps81 R λn0=>aU<|mA R<|aZ<|aT λc2=>aR<|mM R<|Eu h λw1 B af h1=>?_
 refine Zu [14,8225,8226] (hc:=[]) (bs:=[qf l1]) (caps:=[]) R R R R iL R ⟨.inl ⟨iL,R⟩,Za⟩ Za (by decide) (lY af) ?_
 intro m A
 refine Bg [0,2,13,14] [14,8225,8226] ?_
 refine mA R<|aZ<|c2 _<|aT λc3=>aR ?_
 refine sS R (iy AC.row 15 103 4 R<|by decide) ?_
 refine sS R (BD (cs:=[.cst<|.map none]) 4 R ZN R R)<|Zk R R (A0 (ds:=[.mref 15 A]) R XN iL R iL R R R R)<|aZ<|c3 _<|aU<|mA R<|aZ<|aT λc5=>aU<|mM R<|sQ R (Ko (ob:=.box _ _ _) R iL fR R)<|lF SO QX R R<|sS R (fK (ob:=.mb (m 1) (m 2) 103<|AJ AC.row w1) 20 R underlying147 iL R (RN _ _ _ _ _) R)<|aZ ?_
 refine AW.weak (s':=⟨[(3,.ptr 14 (m 0) 0 0),(4,.ptr 4 (A+1) 0 0),(5,.own 5005<|A+3),(20,.ptr 20 (A+2) 0 0)],[(4,some<|.box (A+1) 146 [.mref 15 A]),(14,some<|.box (m 0) 150 [.mref 8225<|m 1,.mref 8226<|m 3]),(15,some<|.mr A A 103 4 none<|AJ (λ(l:List AC)=>l.map AC.row) ([]:List (Int × (List AC)))),(20,some (.mj (A+2) 8225 (m 1) ((w1.map (·.1)).length) [])),(5005,some<|.arr (A+3) 103 4<|([]:List AC).map AC.row),(8225,some<|.mb (m 1) (m 2) 103<|AJ AC.row w1),(8226,some<|.md (m 3)<|AJ (λ(l:List AG)=>RV.sl<|l.map AG.row) B)],(A+4),80⟩) (Zx (Zx (G0 5 5005 103 4 (by decide) R) (by exact Am.cv (e':=[(0,qf l1),(2,cZ),(3,.ptr 14 (m 0) 0 0),(4,.ptr 4 (A+1) 0 0),(5,.own 5005<|A+3),(13,qf l1),(14,.ptr 14 (m 0) 0 0),(15,.mref 15 A),(16,.ptr 14 (m 0) 0 0),(17,.ptr 14 (m 0) 0 0),(18,.ptr 14 (m 0) 0 0),(19,.mref 8225<|m 1),(20,.ptr 20 (A+2) 0 0)]) (h':=[(4,some<|.box (A+1) 146 [.mref 15 A]),(14,some<|.box (m 0) 150 [.mref 8225<|m 1,.mref 8226<|m 3]),(15,some<|.mr A A 103 4 none<|AJ (λ(l:List AC)=>l.map AC.row) ([]:List (Int × (List AC)))),(20,some (.mj (A+2) 8225 (m 1) ((w1.map (·.1)).length) [])),(5005,some<|.arr (A+3) 103 4<|([]:List AC).map AC.row),(8225,some<|.mb (m 1) (m 2) 103<|AJ AC.row w1),(8226,some<|.md (m 3)<|AJ (λ(l:List AG)=>RV.sl<|l.map AG.row) B)]) ⟨jL,jL,jL,jL,jL,jL,jL,jL,jL,jL,jL,jL,jL,Za⟩ ⟨.inl R,.inl R,.inl R,.inl R,.inl R,.inl R,.inl R,Za⟩ nL)) wk) ?_
 refine mO (mid:=8225) (mg:=(m 1)) (key:=λ(a:(List AC) × (List<|Int × AC) × (List<|Int × (List AC)))=>a.2.1.map (·.1)) (F:=λ(a:(List AC) × (List<|Int × AC) × (List<|Int × (List AC))) (q:Int)=>Ga B a.1 a.2.1 a.2.2 q) (st0:=([],w1,[])) 20 (λ(a:(List AC) × (List<|Int × AC) × (List<|Int × (List AC))) w=>[(3,.ptr 14 (m 0) 0 0),(4,.ptr 4 (A+1) 0 0),(5,.own 5005<|w 0),(20,.ptr 20 (A+2) 0 0)]) (λ(a:(List AC) × (List<|Int × AC) × (List<|Int × (List AC))) w=>[(4,some<|.box (A+1) 146 [.mref 15 A]),(14,some<|.box (m 0) 150 [.mref 8225<|m 1,.mref 8226<|m 3]),(15,some<|.mr A (w 1) 103 4 none<|AJ (λ(l:List AC)=>l.map AC.row) a.2.2),(5005,some<|.arr (w 0) 103 4<|a.1.map AC.row),(8225,some<|.mb (m 1) (m 2) 103<|AJ AC.row a.2.1),(8226,some<|.md (m 3)<|AJ (λ(l:List AG)=>RV.sl<|l.map AG.row) B)]) (λw=>w 2) h1 ⟨(AH [(A+3),A,(A+4)]),wk⟩ R R R R R R R R (λ_ _=>.inl R) (λ_ _=>R) (λ_ _=>R) (λ_ _=>⟨_,R,R,RN _ _ _ _ _⟩) R (λ_ _=>R) ?_ ?_
 ·intro a0 q j1 ag ah w ai aj a7 ak
  obtain⟨J,C,X⟩:=a0
  have h2:Ga B J C X q=some ah:=ai;unfold Ga at h2
  refine aG [3,4,5,20] [4,14,15,20,5005,8225,8226] ?_
  refine Ze<|aU<|sQ R (fT R (.inl R) R R ak aj a7)<|xX R<|xX R<|mA R<|mA R<|aZ<|aU<|mM R<|mM R<|sQ R (Ko (ob:=.box _ _ _) R iL fR R)<|lF Sx RL R R<|mM R<|sQ R (KM (rd:=(λ(l:List AG)=>RV.sl<|l.map AG.row)) false (.slice none 0 0) [] R underlying148 underlying3 (GZ Sb) (λ_ _=>.snil) (.inl R) (.inl R) R)<|AE h2 λj E h3=>sQ R (Kp R iL R R λ_=>E)<|sQ R (QA R Jp iL R R λ_=>E)<|Zk R R (jF (a:=j) (a':=(AC.mk j.Item j.Parent j.Place<|(AU B q).getD [])) R JK iL R R E iL R R)<|aZ<|aT λc9=>aG [3,4,5,7,20] [4,14,15,20,5005,8225,8226] ?_
  refine AE h3 λl2 al h4=>?_
  refine Lk 16 [pO 35<|.mref 15 A,pO 36<|.pk 8225 (m 1) (m 2) (As C q) 0,pO 37<|.pk 8225 (m 1) (m 2) (As C q) 0,pO 38<|.pk 8225 (m 1) (m 2) (As C q) 1,pO 39<|rI<|((AC.mk j.Item j.Parent j.Place<|(AU B q).getD []).Parent),pO 40<|.mref 15 A,pO 41<|.pk 8225 (m 1) (m 2) (As C q) 0,pO 42<|.pk 8225 (m 1) (m 2) (As C q) 0,pO 43<|.pk 8225 (m 1) (m 2) (As C q) 1,pO 44<|rI<|((AC.mk j.Item j.Parent j.Place<|(AU B q).getD []).Parent),pO 45<|.fo 15 A (w 1)<|(AC.mk j.Item j.Parent j.Place<|(AU B q).getD []).Parent,pO 46<|.pk 8225 (m 1) (m 2) (As C q) 0,pO 47<|.pk 8225 (m 1) (m 2) (As C q) 0,pO 48<|.agg [rI<|((AC.mk j.Item j.Parent j.Place<|(AU B q).getD []).Item),rI<|((AC.mk j.Item j.Parent j.Place<|(AU B q).getD []).Parent),.r<|.str<|(AC.mk j.Item j.Parent j.Place<|(AU B q).getD []).Place,.r<|.sl<|((AC.mk j.Item j.Parent j.Place<|(AU B q).getD []).Attrs).map AG.row],⟨some 49,(λI=>.own 49<|I 14),some (49,(λI=>some<|.arr (I 14) 103 4<|[(AC.mk j.Item j.Parent j.Place<|(AU B q).getD [])].map AC.row)),[14]⟩,⟨some 50,(λI=>.fo 15 A (I 15)<|(AC.mk j.Item j.Parent j.Place<|(AU B q).getD []).Parent),some (15,(λI=>some<|.mr A (I 15) 103 4 (some (As X<|(AC.mk j.Item j.Parent j.Place<|(AU B q).getD []).Parent,(AU X<|(AC.mk j.Item j.Parent j.Place<|(AU B q).getD []).Parent).isNone))<|AJ (λ(l:List AC)=>l.map AC.row)<|Ai X ((AC.mk j.Item j.Parent j.Place<|(AU B q).getD []).Parent) l2)),[15]⟩] BY (by kernel_rfl) (by exact⟨λ_ _ h=>⟨R,λ_ _ e=>by cases e⟩,λ_ _ h=>⟨R,λ_ _ e=>by cases e⟩,λ_ _ h=>⟨R,λ_ _ e=>by cases e⟩,λ_ _ h=>⟨R,λ_ _ e=>by cases e⟩,λ_ _ h=>⟨R,λ_ _ e=>by cases e⟩,λ_ _ h=>⟨R,λ_ _ e=>by cases e⟩,λ_ _ h=>⟨R,λ_ _ e=>by cases e⟩,λ_ _ h=>⟨R,λ_ _ e=>by cases e⟩,λ_ _ h=>⟨R,λ_ _ e=>by cases e⟩,λ_ _ h=>⟨R,λ_ _ e=>by cases e⟩,λ_ _ h=>⟨R,λ_ _ e=>by cases e⟩,λ_ _ h=>⟨R,λ_ _ e=>by cases e⟩,λ_ _ h=>⟨R,λ_ _ e=>by cases e⟩,λ_ _ h=>⟨R,λ_ _ e=>by cases e⟩,λ_ _ h=>⟨by simp only[h 14 R],λ_ _ e=>by cases e;simp only[h 14 R]⟩,λ_ _ h=>⟨by simp only[h 15 R],λ_ _ e=>by cases e;simp only[h 15 R]⟩,Za⟩) R (by exact⟨oB [(4,.ptr 4 (A+1) 0 0)] [(4,some<|.box (A+1) 146 [.mref 15 A])]<|Ab (a:=.mref 15 A) R QN (.inl R) R R,oB [(7,.pk 8225 (m 1) (m 2) (As C q) 0)] [(8225,some<|.mb (m 1) (m 2) 103<|AJ AC.row<|Ai C q<|AC.mk j.Item j.Parent j.Place<|(AU B q).getD [])]<|AN R<|.inl R,oB [(36,.pk 8225 (m 1) (m 2) (As C q) 0)] [(8225,some<|.mb (m 1) (m 2) 103<|AJ AC.row<|Ai C q<|AC.mk j.Item j.Parent j.Place<|(AU B q).getD [])]<|Kp R (.inl R) R (by rw[Gh E]) λ_=>GD _ _ _,oB [(37,.pk 8225 (m 1) (m 2) (As C q) 0)] [(8225,some<|.mb (m 1) (m 2) 103<|AJ AC.row<|Ai C q<|AC.mk j.Item j.Parent j.Place<|(AU B q).getD [])]<|QA R LQ (.inl R) R (by rw[Gh E]) λ_=>GD _ _ _,oB [(38,.pk 8225 (m 1) (m 2) (As C q) 1)] [(8225,some<|.mb (m 1) (m 2) 103<|AJ AC.row<|Ai C q<|AC.mk j.Item j.Parent j.Place<|(AU B q).getD [])]<|Sc (a:=(AC.mk j.Item j.Parent j.Place<|(AU B q).getD [])) (d:=.int .i64<|(AC.mk j.Item j.Parent j.Place<|(AU B q).getD []).Parent) R AI (.inl R) R (by rw[Gh E]) (λ_=>GD _ _ _) R,oB [(4,.ptr 4 (A+1) 0 0)] [(4,some<|.box (A+1) 146 [.mref 15 A])]<|Ab (a:=.mref 15 A) R QN (.inl R) R R,oB [(7,.pk 8225 (m 1) (m 2) (As C q) 0)] [(8225,some<|.mb (m 1) (m 2) 103<|AJ AC.row<|Ai C q<|AC.mk j.Item j.Parent j.Place<|(AU B q).getD [])]<|AN R<|.inl R,oB [(41,.pk 8225 (m 1) (m 2) (As C q) 0)] [(8225,some<|.mb (m 1) (m 2) 103<|AJ AC.row<|Ai C q<|AC.mk j.Item j.Parent j.Place<|(AU B q).getD [])]<|Kp R (.inl R) R (by rw[Gh E]) λ_=>GD _ _ _,oB [(42,.pk 8225 (m 1) (m 2) (As C q) 0)] [(8225,some<|.mb (m 1) (m 2) 103<|AJ AC.row<|Ai C q<|AC.mk j.Item j.Parent j.Place<|(AU B q).getD [])]<|QA R LQ (.inl R) R (by rw[Gh E]) λ_=>GD _ _ _,oB [(43,.pk 8225 (m 1) (m 2) (As C q) 1)] [(8225,some<|.mb (m 1) (m 2) 103<|AJ AC.row<|Ai C q<|AC.mk j.Item j.Parent j.Place<|(AU B q).getD [])]<|Sc (a:=(AC.mk j.Item j.Parent j.Place<|(AU B q).getD [])) (d:=.int .i64<|(AC.mk j.Item j.Parent j.Place<|(AU B q).getD []).Parent) R AI (.inl R) R (by rw[Gh E]) (λ_=>GD _ _ _) R,oB [(40,.mref 15 A),(44,rI<|((AC.mk j.Item j.Parent j.Place<|(AU B q).getD []).Parent))] [(15,some<|.mr A (w 1) 103 4 none<|AJ (λ(l:List AC)=>l.map AC.row) X)]<|Q6 R underlying146 underlying3 (GZ Ol) (.inl R) (.inl R) R,oB [(7,.pk 8225 (m 1) (m 2) (As C q) 0)] [(8225,some<|.mb (m 1) (m 2) 103<|AJ AC.row<|Ai C q<|AC.mk j.Item j.Parent j.Place<|(AU B q).getD [])]<|AN R<|.inl R,oB [(46,.pk 8225 (m 1) (m 2) (As C q) 0)] [(8225,some<|.mb (m 1) (m 2) 103<|AJ AC.row<|Ai C q<|AC.mk j.Item j.Parent j.Place<|(AU B q).getD [])]<|Kp R (.inl R) R (by rw[Gh E]) λ_=>GD _ _ _,oB [(47,.pk 8225 (m 1) (m 2) (As C q) 0)] [(8225,some<|.mb (m 1) (m 2) 103<|AJ AC.row<|Ai C q<|AC.mk j.Item j.Parent j.Place<|(AU B q).getD [])]<|V5 (a:=(AC.mk j.Item j.Parent j.Place<|(AU B q).getD [])) (cs:=[rI<|((AC.mk j.Item j.Parent j.Place<|(AU B q).getD []).Item),rI<|((AC.mk j.Item j.Parent j.Place<|(AU B q).getD []).Parent),.r<|.str<|(AC.mk j.Item j.Parent j.Place<|(AU B q).getD []).Place,.r<|.sl<|((AC.mk j.Item j.Parent j.Place<|(AU B q).getD []).Attrs).map AG.row]) R GE (.inl R) R (by rw[Gh E]) (λ_=>GD _ _ _) R R,oM (λ_=>[(48,.agg [rI<|((AC.mk j.Item j.Parent j.Place<|(AU B q).getD []).Item),rI<|((AC.mk j.Item j.Parent j.Place<|(AU B q).getD []).Parent),.r<|.str<|(AC.mk j.Item j.Parent j.Place<|(AU B q).getD []).Place,.r<|.sl<|((AC.mk j.Item j.Parent j.Place<|(AU B q).getD []).Attrs).map AG.row])]) (λ_=>[]) R λI e h' n=>Bu 49 R BM (f:=AC.row) (l:=([(AC.mk j.Item j.Parent j.Place<|(AU B q).getD [])]:List AC)) ⟨R,⟨_,(.inl R),R⟩,Za⟩ R (λ_=>R) R,oM (λI=>[(45,.fo 15 A (w 1)<|(AC.mk j.Item j.Parent j.Place<|(AU B q).getD []).Parent),(49,.own 49<|I 14)]) (λI=>[(15,some<|.mr A (w 1) 103 4 none<|AJ (λ(l:List AC)=>l.map AC.row) X),(49,some<|.arr (I 14) 103 4<|[(AC.mk j.Item j.Parent j.Place<|(AU B q).getD [])].map AC.row)]) R λI e h' n=>jp (ys:=[(AC.mk j.Item j.Parent j.Place<|(AU B q).getD [])]) R BM (.inl R) R (.inr<|.inl ⟨_,_,_,(.inl R),R⟩) R al,Za⟩) λI n2=>?_
  refine Bg [3,4,5,7,20,35,36,37,38,39,40,41,42,43,44,46,47,48,49,50] [4,14,15,20,49,5005,8225,8226] ?_
  refine Zk R R (YM iL underlying146 underlying3 iL iL iL R)<|aZ<|c9 _<|aG [3,4,5,7,20] [4,14,15,20,5005,8225,8226] ?_
  refine aR<|mM R<|mM R ?_
  refine sQ R (Kp R iL R (by rw[Gh E]) λ_=>GD _ _ _) ?_
  refine sQ R (V5 (a:=(AC.mk j.Item j.Parent j.Place<|(AU B q).getD [])) (cs:=[rI<|((AC.mk j.Item j.Parent j.Place<|(AU B q).getD []).Item),rI<|((AC.mk j.Item j.Parent j.Place<|(AU B q).getD []).Parent),.r<|.str<|(AC.mk j.Item j.Parent j.Place<|(AU B q).getD []).Place,.r<|.sl<|((AC.mk j.Item j.Parent j.Place<|(AU B q).getD []).Attrs).map AG.row]) R GE iL R (by rw[Gh E]) (λ_=>GD _ _ _) R R) ?_
  refine sS R (Bu 55 R BM (f:=AC.row) (l:=([(AC.mk j.Item j.Parent j.Place<|(AU B q).getD [])]:List AC)) ⟨R,⟨_,iL,R⟩,Za⟩ R (λ_=>R) R)<|AE h4 λa8 a1 h5=>sS R (DL R BM iL R (.inr<|.inl ⟨_,_,iL,R⟩) a1)<|mA R<|Zh ?_
  show Exit.normal=Exit.normal∧∃i':Nat→Nat,Am _ _
  have aa:=Zf h5;subst aa
  exact⟨R,(AH [(n2+1),(I 15),(n2+2)]),(Zx (show Am _ ⟨[(3,.ptr 14 (m 0) 0 0),(4,.ptr 4 (A+1) 0 0),(5,.own 5005<|n2+1),(20,.ptr 20 (A+2) 0 0)],[(4,some<|.box (A+1) 146 [.mref 15 A]),(14,some<|.box (m 0) 150 [.mref 8225<|m 1,.mref 8226<|m 3]),(15,some<|.mr A (I 15) 103 4 none<|AJ (λ(l:List AC)=>l.map AC.row)<|Ai X ((AC.mk j.Item j.Parent j.Place<|(AU B q).getD []).Parent) l2),(20,some (.mj (A+2) 8225 (m 1) ((w1.map (·.1)).length)<|ag++[j1])),(5005,some<|.arr (n2+1) 103 4<|a8.map AC.row),(8225,some<|.mb (m 1) (m 2) 103<|AJ AC.row<|Ai C q<|AC.mk j.Item j.Parent j.Place<|(AU B q).getD []),(8226,some<|.md (m 3)<|AJ (λ(l:List AG)=>RV.sl<|l.map AG.row) B)],(n2+2),80⟩ from wk) wk)⟩
 intro a0 w an
 obtain⟨J,C,X⟩:=a0
 have h6:=aO an
 refine c5 _<|aU<|sS R (BD (cs:=[cZ]) 8 R Ol R R)<|aZ<|aU<|sS R (L2 RV.bool 57 R)<|sS R (BD (cs:=[.cst<|.map none]) 9 R Sr R R)<|Zk R R (A0 (ds:=[.mref 57<|(w 2)+1]) R SE iL R iL R R R R)<|aZ<|aU<|sS R (BD (cs:=[.cst<|.nilFunc]) 10 R fh R R)<|aZ<|aT λao=>aR ?_
 refine sQ R (Km (bs:=[.ptr 4 (A+1) 0 0,.ptr 8 (w 2) 0 0,.ptr 9 ((w 2)+2) 0 0,.ptr 10 ((w 2)+3) 0 0]) R<|by exact⟨iL,iL,iL,iL,Za⟩) ?_
 refine Zk R R (A0 (ds:=[.fn 114 [.ptr 4 (A+1) 0 0,.ptr 8 (w 2) 0 0,.ptr 9 ((w 2)+2) 0 0,.ptr 10 ((w 2)+3) 0 0]]) R lg iL R iL R R R R)<|aZ<|ao _<|aT λaq=>aR<|sQ R (Ab (a:=.fn 114 [.ptr 4 (A+1) 0 0,.ptr 8 (w 2) 0 0,.ptr 9 ((w 2)+2) 0 0,.ptr 10 ((w 2)+3) 0 0]) R VS iL R R) ?_
 refine AO.weak (Zx (S4 8 0 3080 103 4 (by decide) R R<|by decide)<|by exact Am.cv (e':=[(3,.ptr 14 (m 0) 0 0),(4,.ptr 4 (A+1) 0 0),(5,.own 5005<|w 0),(8,.ptr 8 (w 2) 0 0),(9,.ptr 9 ((w 2)+2) 0 0),(10,.ptr 10 ((w 2)+3) 0 0),(57,.mref 57<|(w 2)+1),(58,.fn 114 [.ptr 4 (A+1) 0 0,.ptr 8 (w 2) 0 0,.ptr 9 ((w 2)+2) 0 0,.ptr 10 ((w 2)+3) 0 0]),(59,.fn 114 [.ptr 4 (A+1) 0 0,.ptr 8 (w 2) 0 0,.ptr 9 ((w 2)+2) 0 0,.ptr 10 ((w 2)+3) 0 0])]) (h':=[(4,some<|.box (A+1) 146 [.mref 15 A]),(8,some<|.box (w 2) 97 [.own 3080<|(w 2)+4]),(9,some<|.box ((w 2)+2) 68 [.mref 57<|(w 2)+1]),(10,some<|.box ((w 2)+3) 152 [.fn 114 [.ptr 4 (A+1) 0 0,.ptr 8 (w 2) 0 0,.ptr 9 ((w 2)+2) 0 0,.ptr 10 ((w 2)+3) 0 0]]),(14,some<|.box (m 0) 150 [.mref 8225<|m 1,.mref 8226<|m 3]),(15,some<|.mr A (w 1) 103 4 none<|AJ (λ(l:List AC)=>l.map AC.row) X),(57,some<|.md ((w 2)+1)<|AJ RV.bool ([]:List (Int × Bool))),(3080,some<|.arr ((w 2)+4) 103 4<|([]:List AC).map AC.row),(5005,some<|.arr (w 0) 103 4<|J.map AC.row),(8225,some<|.mb (m 1) (m 2) 103<|AJ AC.row C),(8226,some<|.md (m 3)<|AJ (λ(l:List AG)=>RV.sl<|l.map AG.row) B)]) ⟨jL,jL,jL,jL,jL,jL,jL,jL,jL,Za⟩ ⟨.inl R,.inl R,.inl R,.inl R,.inl R,.inl R,.inl R,.inl R,.inl R,.inl R,.inl R,Za⟩ nL) ?_
 refine K0 h6 λw3 w4 w5 ar h7=>?_
 refine Zu [4,15,8,3080,9,57,10] (hc:=[(1000,some<|.box (A+1) 146 [.mref 1001 A]),(1001,some<|.mr A (w 1) 103 4 none<|AJ (λ(l:List AC)=>l.map AC.row) X),(1002,some<|.box (w 2) 97 [.own 1003<|(w 2)+4]),(1003,some<|.arr ((w 2)+4) 103 4<|([]:List AC).map AC.row),(1004,some<|.box ((w 2)+2) 68 [.mref 1005<|(w 2)+1]),(1005,some<|.md ((w 2)+1)<|AJ RV.bool ([]:List (Int × Bool))),(1006,some<|.box ((w 2)+3) 152 [.fn 114 [.ptr 1000 (A+1) 0 0,.ptr 1002 (w 2) 0 0,.ptr 1004 ((w 2)+2) 0 0,.ptr 1006 ((w 2)+3) 0 0]])]) (bs:=[rI 0]) (caps:=[.ptr 1000 (A+1) 0 0,.ptr 1002 (w 2) 0 0,.ptr 1004 ((w 2)+2) 0 0,.ptr 1006 ((w 2)+3) 0 0]) R R R R iL R ⟨.inl ⟨iL,R⟩,Za⟩ ⟨R,R,R,R,R,R,R,R,R,R,R,R,R,R,R,R,R,R,R,R,R,Za⟩ (by decide) (jU ar) ?_
 intro i6 n3
 refine Bg [3,4,5,8,9,10,57,58,59,60] [4,8,9,10,14,15,57,3080,5005,8225,8226] ?_
 refine aZ<|aq _<|aT λau=>aR<|mM R<|AE h7 λw6 av h8=>?_
 refine Zu [5005] (hc:=[(1000,some<|.arr (w 0) 103 4<|J.map AC.row)]) (bs:=[.own 1000<|w 0,.fn 120 []]) (caps:=[]) R R R R iL R ⟨.inl ⟨iL,R⟩,.inl ⟨iL,R⟩,Za⟩ ⟨R,R,R,Za⟩ (by decide) ((mI (row:=AC.row) Ue (by decide) (λ_=>R) ⟨_,func120,R,R⟩ λ_ _ _ h=>l8 h) av) ?_
 intro i7 n4
 refine Bg [3,4,5,8,9,10,57,58,59,60,61,62] [4,8,9,10,14,15,57,3080,5005,8225,8226] ?_
 refine aZ<|au _<|aS λaw ax ab=>aT λay=>aG [5,8,9] [8,9,57,3080,5005] ?_
 refine aR<|mM R<|sQ R (IX R BM.slice iL R)<|mM R<|aZ<|ay _<|Ze<|BP h8 λo1 ac az=>?_
 have J1:∀(O:List AC) (T:NN),o1=O→aw ⟨[(8,.ptr 8 (w 2) 0 0)],[(8,some<|.box (w 2) 97 [.own 3080<|T 0]),(3080,some<|.arr (T 0) 103 4<|O.map AC.row)],(T 1),80⟩:=by
  intro O T e
  have h9:=az _ e
  exact ax _<|aU<|sQ R (Ab (a:=.own 3080<|T 0) R Rt iL R R)<|mA R<|aZ<|Zi<|Cf (P:=prog) (λ(r:(List AC))=>qg r) h9 iL<|.t<|.one<|.own R
 refine CX (λ(x3:Int) (U:List AC) F=>⟨[(8,.ptr 8 (w 2) 0 0),(9,.ptr 9 ((w 2)+2) 0 0),(63,.own 5005<|w 0),(64,rL w6),(65,rI x3)],[(8,some<|.box (w 2) 97 [.own 3080<|F 0]),(9,some<|.box ((w 2)+2) 68 [.mref 57<|(w 2)+1]),(57,some<|.md ((w 2)+1)<|AJ RV.bool w5),(3080,some<|.arr (F 0) 103 4<|U.map AC.row),(5005,some<|.arr (w 0) 103 4<|w6.map AC.row)],(F 1),80⟩) (AH [(i6 0),n4]) ac wk ?_
 intro x3 U F v1 b0 b1
 have ad:HW w5 w6 x3 U=some v1:=b0;unfold HW at ad
 refine aU<|xS R<|aZ<|aT λb2=>cI R ad (λa2=>?_) λa2=>?_
 ·refine Zc<|b2 _<|aS λb3 b4 Z=>Ze<|BP a2 λp1 b5 b6=>?_
  have J2:∀(V:List AC) (M:NN),p1=V→b3 ⟨[(8,.ptr 8 (w 2) 0 0),(9,.ptr 9 ((w 2)+2) 0 0),(63,.own 5005<|w 0),(64,rL w6),(65,rI x3)],[(8,some<|.box (w 2) 97 [.own 3080<|M 0]),(9,some<|.box ((w 2)+2) 68 [.mref 57<|(w 2)+1]),(57,some<|.md ((w 2)+1)<|AJ RV.bool w5),(3080,some<|.arr (M 0) 103 4<|V.map AC.row),(5005,some<|.arr (w 0) 103 4<|w6.map AC.row)],(M 1),80⟩:=by
   intro V M e
   have b7:=b6 _ e
   exact b4 _<|aR<|AE b7 λx5 b8 b9=>xA R b8<|mM R<|Zh<|ZF b9 (AH [(M 0),(M 1)]) wk
  refine aU<|AE b5 λx6 ae ba=>sQ R (Ew R BM.slice iL R iL λ_=>ae)<|sQ R (QO (cs:=(B6 x6)) R GE iL fR (λ_=>ae) R)<|sS R (BD (cs:=LO) 12 R MB R R)<|Zk R R (A0 (ds:=(B6 x6)) R Kg iL R iL R R R R)<|aZ<|aU<|sQ R (Ab (a:=.mref 57<|(w 2)+1) R KH iL R R)<|lF EG AI R R<|sQ R (KM (rd:=RV.bool) false (.bool false) false R underlying68 underlying3 (GZ Ou) (λ_ _=>.bool _) (.inl R) (.inl R) R)<|sQ R (A6 R iL)<|aZ<|cI R ba (λa6=>?_) λa6=>?_
  ·exact aR<|sQ R (Ab (a:=.own 3080<|F 0) R Rt iL R R)<|xC GE R<|sS R (Bu 76 R BM (f:=AC.row) (l:=([x6]:List AC)) ⟨R,⟨_,iL,R⟩,Za⟩ R (λ_=>R) R)<|AE a6 λl3 bb bc=>sS R (DL R BM iL R (.inr<|.inl ⟨_,_,iL,R⟩) bb)<|Zk R R (A0 (ds:=[.own 3080<|(F 1)+2]) R TB iL R iL R R R R)<|Zh<|Z _ _ wk<|J2 _ (AH [((F 1)+2),((F 1)+3)]) (Zf bc).symm
  exact Zc<|Z _ _ wk<|J2 _ (AH [(F 0),((F 1)+1)]) (Zf a6).symm
 exact Zm<|ab _ _ wk<|J1 _ (AH [(F 0),(F 1)])<|xH b1 a2
theorem dS{i r}(h:Lv i=some r):AX prog 82 [qg i] (rI r):=by
 unfold Lv at h
 refine mF func82 ntmps82 R λq=>aU<|mA R<|aZ<|aU<|sS R (L2 RV.bool 6 R)<|Zk R R (Lh (rd:=RV.bool) (a:=true) (.inr R) underlying68 underlying3 iL iL iL R)<|mM R<|mA R<|aZ<|aS λK3 c3 w=>aU<|mM R<|xL BM R<|mM R<|aZ<|Ze<|BK h λo1 j A B=>?_
 have J1:∀(U:Unit) (V:NN),o1=.nrm U→K3 ⟨[(0,qg i)],[],(V 0),27⟩:=by
  intro U V e
  have h1:=A _ e
  exact c3 _<|aU<|mM R<|xL BM R<|mA R<|aZ<|Zi<|yI h1 R
 refine CX (λ(C:Int) (m2:List (Int × Bool)) m=>⟨[(0,qg i),(3,.mref 6 q),(8,qg i),(9,rL i),(10,rI C)],[(6,some<|.md q<|AJ RV.bool m2)],(m 0),27⟩) (AH [(q+1)]) j wk ?_
 intro C m2 m v1 E l
 have X:IG i C m2=some v1:=E;unfold IG at X
 refine aU<|xS R<|aZ<|aT λc7=>cI R X (λF=>?_) λF=>?_
 ·refine Zc<|c7 _<|aT λc8=>Ze<|aU<|mM R<|AE F λZ I h4=>xI BM R I<|xB ((B6 Z)) GE R<|sS R (BD (cs:=LO) 5 R MB R R)<|mA R<|Zk R R (A0 (ds:=(B6 Z)) R Kg iL R iL R R R R)<|aZ<|aT λJ=>aU<|mM R<|lF LQ AI R R<|sQ R (KM (rd:=RV.bool) false (.bool false) false R underlying68 underlying3 (GZ Ou) (λ_ _=>.bool _) (.inl R) (.inl R) R)<|sQ R (A6 R iL)<|aZ<|cI R h4 (λM=>?_) λM=>?_
  ·refine aT λO=>aF [4] ?_
   exact aR<|mM R<|mA R<|aZ<|O _<|Zi<|yI (B _<|xH l M) R
  refine Zc<|J _<|aG [0,3,5,8,9,10] [5,6] ?_
  exact aR<|mM R<|lF EG AI R R<|Zk R R (Lh (rd:=RV.bool) (a:=true) iL underlying68 underlying3 iL iL iL R)<|aZ<|c8 _<|aR<|AE M λx5 T h6=>xA R T<|mM R<|Zh<|ZF h6 (AH [((m 0)+1)]) wk
 exact Zm<|w _ _ wk<|J1 _ (AH [(m 0)])<|xH l F
theorem gA{j n r}(h:Mb j n=some r):AX prog 83 [qb j,rS n] (rS r):=by
 unfold Mb at h
 refine mF func83 ntmps83 R λZ=>aU<|mA R<|aZ<|aS λK2 c2 w=>aU<|mM R<|xL A8 R<|mM R<|aZ<|Ze<|BK h λo1 l A B=>?_
 have J1:∀(T:Unit) (U:NN),o1=.nrm T→K2 ⟨[],[],(U 0),20⟩:=by
  intro T U e
  have h1:=A _ e
  exact c2 _<|aU<|mA R<|aZ<|Zi<|Cf (P:=prog) (λ(r:(List UInt8))=>rS r) h1 iL<|.t<|.d R
 refine Zw (λ(C:Int) q=>⟨[(1,rS n),(7,qb j),(8,rL j),(9,rI C)],[],(q 0),20⟩) (AH [Z]) l wk ?_
 intro C q v1 E m
 have V:NQ j n C=some v1:=E;unfold NQ at V
 refine aU<|xS R<|aZ<|aT λc6=>cI R V (λF=>?_) λF=>?_
 ·refine Zc<|c6 _<|aT λc7=>Ze<|aU<|AE F λX I h4=>xI A8 R I<|xB ((B3 X)) D5 R<|sS R (BD (cs:=[.r<|.str [],.r<|.str []]) 6 R Wh R R)<|Zk R R (A0 (ds:=(B3 X)) R We iL R iL R R R R)<|aZ<|aU<|lF EN BB R R<|mM R<|sQ R (E5 R iL iL)<|aZ<|cI R h4 (λJ=>?_) λJ=>?_
  ·refine aT λM=>aG [6] [6] ?_
   exact aR<|lF II BB R R<|mA R<|aZ<|M _<|Zi<|Cf (P:=prog) (λ(r:(List UInt8))=>rS r) (B _<|xH m J) iL<|.t<|.d R
  exact Zc<|c7 _<|aR<|AE J λx5 O h6=>xA R O<|mM R<|Zh<|Zt h6 (AH [((q 0)+1)]) wk
 exact Zm<|w _ _ wk<|J1 _ (AH [(q 0)])<|xH m F
theorem ji{j r}(h:Ps j=some r):AX prog 84 [rS j] (.tup [rI r.1,.ifc r.2]):=by
 unfold Ps at h
 exact AX.atoiS Xv R R R ⟨_,func84,R,R⟩ h
theorem bJ{n1 r}(h:strconv_Itoa n1=some r):AX prog 85 [rI n1] (rS r):=by
 unfold strconv_Itoa at h
 exact AX.itoaS (g:=VI) bS R (by kernel_rfl) R ⟨_,func85,R,R⟩ h
theorem bF{d1 n1 r}(h:Ey d1 n1=some r):AX prog 44 [.agg [qa d1.Nodes],.agg<|Ax n1] (.r<|.sl<|r.map<|Ad .i64):=by
 unfold Ey at h
 refine mF func44 ntmps44 R λj=>aU<|sS R (A4 (cs:=[qa d1.Nodes]) 2 R iL R R)<|sS R (A4 (cs:=(Ax n1)) 3 R iL R R)<|mA R<|aZ<|aU<|mA R<|aZ<|aU<|lF FX GL R R<|AE h λJ U h1=>sS R (DK (r:=qg J) (caps:=[]) (bs:=[qf n1.Draw]) R iL R ⟨.inl ⟨iL,R⟩,Za⟩ λ_=>cY<|U)<|mA R<|aZ<|aS λK4 c4 V=>aT λc5=>aR<|mM R<|mM R<|AE h1 λr1 X h2=>cL (dS<|X) R<|AE h2 λA Z h3=>?_
 refine sQ R (RU R BM.slice iL (by exact R) (by exact⟨_,iL⟩) (λ_=>R) λ_=>Z) ?_
 refine xL BM R<|mM R<|aZ<|c5 _<|Ze<|BP h3 λo1 M a0=>?_
 have J1:∀(m:List Int) (O:NN),o1=m→K4 ⟨[(5,.own 5005<|O 0)],[(5005,some<|.arr (O 0) 3 1<|m.map<|Ad .i64)],(O 1),64⟩:=by
  intro m O e
  have h4:=a0 _ e
  exact c4 _<|aU<|mM R<|mA R<|aZ<|Zi<|Cf (P:=prog) (λ(r:(List Int))=>.r<|.sl<|r.map<|Ad .i64) h4 iL<|.t<|.one<|.own R
 refine CX (λ(T:Int) (q:List Int) l=>⟨[(2,.ptr 2 j 0 0),(5,.own 5005<|l 0),(20,qg A),(21,rL A),(22,rI T)],[(2,some<|.box j 24 [qa d1.Nodes]),(5005,some<|.arr (l 0) 3 1<|q.map<|Ad .i64)],(l 1),64⟩) (AH [(j+2),(j+3)]) M (Zx (Zx (G0 5 5005 3 1 (by decide) R)<|by exact Am.cv (e':=[(0,.agg [qa d1.Nodes]),(1,.agg<|Ax n1),(2,.ptr 2 j 0 0),(3,.ptr 3 (j+1) 0 0),(4,cZ),(5,.own 5005<|j+2),(6,qg J),(14,.ptr 3 (j+1) 0 8),(15,qf n1.Draw),(16,qg J),(17,qg J),(18,qg J),(19,rI r1),(20,qg A),(21,rL A),(22,rI 0)]) (h':=[(2,some<|.box j 24 [qa d1.Nodes]),(3,some<|.box (j+1) 47<|Ax n1),(5005,some<|.arr (j+2) 3 1<|([]:List Int).map<|Ad .i64)]) ⟨jL,jL,jL,jL,jL,jL,jL,jL,jL,jL,jL,jL,jL,jL,jL,jL,Za⟩ ⟨.inl R,.inl R,.inl R,Za⟩ nL) wk) ?_
 intro T q l v1 a1 a2
 have h5:HP d1 A T q=some v1:=a1;unfold HP at h5
 refine aU<|xS R<|aZ<|aT λc8=>cI R h5 (λh6=>?_) λh6=>?_
 ·refine Zc<|c8 _<|aS λK9 c9 B=>Ze<|BP h6 λp1 a6 a7=>?_
  have J2:∀(w:List Int) (I:NN),p1=w→K9 ⟨[(2,.ptr 2 j 0 0),(5,.own 5005<|I 0),(20,qg A),(21,rL A),(22,rI T)],[(2,some<|.box j 24 [qa d1.Nodes]),(5005,some<|.arr (I 0) 3 1<|w.map<|Ad .i64)],(I 1),64⟩:=by
   intro w I e
   have h7:=a7 _ e
   exact c9 _<|aR<|AE h7 λx4 a8 h8=>xA R a8<|mM R<|Zh<|ZF h8 (AH [(I 0),(I 1)]) wk
  refine aU<|AE a6 λx5 aa h9=>xI BM R aa<|xB ((B6 x5)) GE R<|sS R (BD (cs:=LO) 8 R MB R R)<|Zk R R (A0 (ds:=(B6 x5)) R Kg iL R iL R R R R)<|aZ<|aU<|lF Jp CP R R<|AE h9 λs1 ab ac=>cL (gA<|ab) R<|mA R<|aZ<|aU<|mM R<|Eu ac λr2 r3 ad ae=>cL (ji<|ad) R<|mM R<|xX R<|xX R<|mA R<|mA R<|aZ<|aT λaf=>aT λag=>aG [2,5,9,10,11,20,21,22] [2,5005] ?_
  refine aR<|mM R<|sQ R (eA R dM iL)<|mM R<|vM R<|AE ae λr4 ah ai=>vL (λhg=>bJ<|Ae ah hg) R<|vM R<|vQ R (D2 R (iR R)<|iR R)<|xO R<|aZ<|ag _<|cI R ai (λC=>?_) λC=>?_
  ·exact Zm<|B _ _ wk<|J2 _ (AH [(l 0),((l 1)+1)]) (Zf C).symm
  refine Zc<|af _<|aU<|xC CG R<|mM R<|Eu C λr5 r6 aj ak=>cL (R6<|aj) R<|mM R<|xX R<|xX R<|mA R<|mA R<|aZ<|aT λal=>aG [2,5,10,12,13,20,21,22] [2,5005] ?_
  refine aR<|mM R<|mM R<|vF Bi Bk R R<|vM R<|AE ak λx6 an ao=>vQ R (BA R BH.slice (iR R) (iR R) (λ_=>R)<|Ae an)<|vQ R (BJ R CO<|iR R)<|vQ R (Bs (d:=.int .i64 x6.Kind) R AI (iR R) R)<|vQ R (A5 R (iR R) iL)<|xN R<|aZ<|al _<|cI R ao (λE=>?_) λE=>?_
  ·exact aR<|mM R<|mM R<|sS R (Bu 60 R B0 (f:=(Ad .i64)) (l:=([r2]:List Int)) ⟨R,⟨_,iL,R⟩,Za⟩ R (λ_=>R) R)<|AE E λar F aq=>sS R (DL R B0 iL R (.inr<|.inl ⟨_,_,iL,R⟩) F)<|mA R<|Zh<|B _ _ wk<|J2 _ (AH [((l 1)+2),((l 1)+3)]) (Zf aq).symm
  exact Zc<|B _ _ wk<|J2 _ (AH [(l 0),((l 1)+1)]) (Zf E).symm
 exact Zm<|V _ _ wk<|J1 _ (AH [(l 0),(l 1)])<|xH a2 h6
theorem Xr{m:List (Int × Bool)}{v1:Af}{r:Bool × (List<|Int × Bool)}{l:Nat}{j:Nat}(h:Hh m v1=some r):A9 prog 25 2 [.agg<|Et v1,.ptr 1000 l 0 0] [(1000,some<|.box l 68 [.mref 1001 j]),(1001,some<|.md j<|AJ RV.bool m)] (λq h'=>∃(i:Nat→Nat),q=rB r.1∧h'=[(1000,some<|.box l 68 [.mref 1001 j]),(1001,some<|.md j<|AJ RV.bool r.2)]):=by
 unfold Hh at h
 refine EB func25 R R ntmps25 (Zo R) λw=>aU<|sS R (A4 (cs:=(Et v1)) 2 R iL R R)<|mA R<|aZ<|aU<|sQ R (Ab (a:=.mref 1001 j) R KH iL R R)<|lF Jf AI R R<|Zk R R (Lh (rd:=RV.bool) (a:=true) iL underlying68 underlying3 iL iL iL R)<|aZ<|aU<|mA R<|aZ ?_
 exact Zi<|Zy (s':=⟨[(3,rB true)],[(1000,some<|.box l 68 [.mref 1001 j]),(1001,some<|.md j<|AJ RV.bool<|Ai m v1.id true)],(w+1),7⟩) wk<|CI (λ(r:Bool × (List<|Int × Bool)) q h'=>∃(i:Nat→Nat),q=rB r.1∧h'=[(1000,some<|.box l 68 [.mref 1001 j]),(1001,some<|.md j<|AJ RV.bool r.2)]) h<|by exact⟨rB true,[(1000,some<|.box l 68 [.mref 1001 j]),(1001,some<|.md j<|AJ RV.bool<|Ai m v1.id true)],R,⟨.inr R,.inr R,Za⟩,R,R,AH [],R,R⟩
theorem fZ{self:(List<|Int × Bool)→(List<|Int × Bool)→AM→Af→Option (Bool × (List<|Int × Bool) × (List<|Int × Bool))}(O:∀ {m1:List (Int × Bool)} {m2:List (Int × Bool)} {E:AM} {v1:Af} {r:Bool × (List<|Int × Bool) × (List<|Int × Bool)} {m:Nat} {A:Nat} {q:Nat} {w:Nat} {B:Nat} {l:Nat} {j:Nat},self m1 m2 E v1=some r→A9 prog 40 7 [.agg<|Et v1,.ptr 1000 m 0 0,.ptr 1002 q 0 0,.ptr 1005 l 0 0,.ptr 1006 j 0 0] [(1000,some<|.box m 68 [.mref 1001 A]),(1001,some<|.md A<|AJ RV.bool m1),(1002,some<|.box q 67 [.fn 25 [.ptr 1003 w 0 0]]),(1003,some<|.box w 68 [.mref 1004 B]),(1004,some<|.md B<|AJ RV.bool m2),(1005,some<|.box l 24 [qa E.Nodes]),(1006,some<|.box j 67 [.fn 40 [.ptr 1000 m 0 0,.ptr 1002 q 0 0,.ptr 1005 l 0 0,.ptr 1006 j 0 0]])] (λT h'=>∃(i:Nat→Nat),T=rB r.1∧h'=[(1000,some<|.box m 68 [.mref 1001 A]),(1001,some<|.md A<|AJ RV.bool r.2.1),(1002,some<|.box q 67 [.fn 25 [.ptr 1003 w 0 0]]),(1003,some<|.box w 68 [.mref 1004 B]),(1004,some<|.md B<|AJ RV.bool r.2.2),(1005,some<|.box l 24 [qa E.Nodes]),(1006,some<|.box j 67 [.fn 40 [.ptr 1000 m 0 0,.ptr 1002 q 0 0,.ptr 1005 l 0 0,.ptr 1006 j 0 0]])])){m1:List (Int × Bool)}{m2:List (Int × Bool)}{E:AM}{v1:Af}{r:Bool × (List<|Int × Bool) × (List<|Int × Bool)}{m:Nat}{A:Nat}{q:Nat}{w:Nat}{B:Nat}{l:Nat}{j:Nat}(h:PR self m1 m2 E v1=some r):A9 prog 40 7 [.agg<|Et v1,.ptr 1000 m 0 0,.ptr 1002 q 0 0,.ptr 1005 l 0 0,.ptr 1006 j 0 0] [(1000,some<|.box m 68 [.mref 1001 A]),(1001,some<|.md A<|AJ RV.bool m1),(1002,some<|.box q 67 [.fn 25 [.ptr 1003 w 0 0]]),(1003,some<|.box w 68 [.mref 1004 B]),(1004,some<|.md B<|AJ RV.bool m2),(1005,some<|.box l 24 [qa E.Nodes]),(1006,some<|.box j 67 [.fn 40 [.ptr 1000 m 0 0,.ptr 1002 q 0 0,.ptr 1005 l 0 0,.ptr 1006 j 0 0]])] (λT h'=>∃(i:Nat→Nat),T=rB r.1∧h'=[(1000,some<|.box m 68 [.mref 1001 A]),(1001,some<|.md A<|AJ RV.bool r.2.1),(1002,some<|.box q 67 [.fn 25 [.ptr 1003 w 0 0]]),(1003,some<|.box w 68 [.mref 1004 B]),(1004,some<|.md B<|AJ RV.bool r.2.2),(1005,some<|.box l 24 [qa E.Nodes]),(1006,some<|.box j 67 [.fn 40 [.ptr 1000 m 0 0,.ptr 1002 q 0 0,.ptr 1005 l 0 0,.ptr 1006 j 0 0]])]):=by
 unfold PR at h
 refine EB func40 R R ntmps40 (Zo R) λM=>aU<|sS R (A4 (cs:=(Et v1)) 5 R iL R R)<|mA R<|aZ<|aT λc2=>aU<|sQ R (Ab (a:=.mref 1001 A) R KH iL R R)<|lF Jf AI R R<|sQ R (KM (rd:=RV.bool) false (.bool false) false R underlying68 underlying3 (GZ Ou) (λ_ _=>.bool _) (.inl R) (.inl R) R)<|aZ<|cI R h (λh1=>?_) λh1=>?_
 ·refine aT λc4=>aG [] [1000,1001,1002,1003,1004,1005,1006] ?_
  refine aR<|mA R<|oZ c4 ?_
  exact Zi<|Zy (s':=⟨[(6,rB true)],[(1000,some<|.box m 68 [.mref 1001 A]),(1001,some<|.md A<|AJ RV.bool m1),(1002,some<|.box q 67 [.fn 25 [.ptr 1003 w 0 0]]),(1003,some<|.box w 68 [.mref 1004 B]),(1004,some<|.md B<|AJ RV.bool m2),(1005,some<|.box l 24 [qa E.Nodes]),(1006,some<|.box j 67 [.fn 40 [.ptr 1000 m 0 0,.ptr 1002 q 0 0,.ptr 1005 l 0 0,.ptr 1006 j 0 0]])],(M+1),121⟩) wk<|CI (λ(r:Bool × (List<|Int × Bool) × (List<|Int × Bool)) T h'=>∃(i:Nat→Nat),T=rB r.1∧h'=[(1000,some<|.box m 68 [.mref 1001 A]),(1001,some<|.md A<|AJ RV.bool r.2.1),(1002,some<|.box q 67 [.fn 25 [.ptr 1003 w 0 0]]),(1003,some<|.box w 68 [.mref 1004 B]),(1004,some<|.md B<|AJ RV.bool r.2.2),(1005,some<|.box l 24 [qa E.Nodes]),(1006,some<|.box j 67 [.fn 40 [.ptr 1000 m 0 0,.ptr 1002 q 0 0,.ptr 1005 l 0 0,.ptr 1006 j 0 0]])]) h1<|by exact⟨rB true,[(1000,some<|.box m 68 [.mref 1001 A]),(1001,some<|.md A<|AJ RV.bool m1),(1002,some<|.box q 67 [.fn 25 [.ptr 1003 w 0 0]]),(1003,some<|.box w 68 [.mref 1004 B]),(1004,some<|.md B<|AJ RV.bool m2),(1005,some<|.box l 24 [qa E.Nodes]),(1006,some<|.box j 67 [.fn 40 [.ptr 1000 m 0 0,.ptr 1002 q 0 0,.ptr 1005 l 0 0,.ptr 1006 j 0 0]])],R,⟨.inr R,.inr R,.inr R,.inr R,.inr R,.inr R,.inr R,Za⟩,R,R,AH [],R,R⟩
 refine Zc<|c2 _<|aU<|sQ R (Ab (a:=.mref 1001 A) R KH iL R R)<|lF Jf AI R R<|Zk R R (Lh (rd:=RV.bool) (a:=true) iL underlying68 underlying3 iL iL iL R)<|aZ<|aT λc6=>aT λc7=>aG [2,3,4,5] [5,1000,1001,1002,1003,1004,1005,1006] ?_
 refine aR<|sQ R (Ab (a:=.fn 25 [.ptr 1003 w 0 0]) R Lr iL R R)<|xC jP R<|Eu h1 λr1 w2 be h2=>?_
 refine Zu [1003,1004] (hc:=[(1000,some<|.box w 68 [.mref 1001 B]),(1001,some<|.md B<|AJ RV.bool m2)]) (bs:=[.agg<|Et v1]) (caps:=[.ptr 1000 w 0 0]) R R R R iL R ⟨.inl ⟨iL,R⟩,Za⟩ ⟨R,R,R,R,R,R,Za⟩ (by decide) (Xr be) ?_
 intro i1 U
 refine Bg [2,3,4,5,24,25,26] [5,1000,1001,1002,1003,1004,1005,1006] ?_
 refine sQ R (A6 R iL)<|aZ<|c7 _<|cI R h2 (λh3=>?_) λh3=>?_
 ·refine aU<|mA R<|aZ ?_
  exact Zi<|Zy (s':=⟨[(6,rB false)],[(1000,some<|.box m 68 [.mref 1001 A]),(1001,some<|.md A<|AJ RV.bool<|Ai m1 v1.id true),(1002,some<|.box q 67 [.fn 25 [.ptr 1003 w 0 0]]),(1003,some<|.box w 68 [.mref 1004 B]),(1004,some<|.md B<|AJ RV.bool w2),(1005,some<|.box l 24 [qa E.Nodes]),(1006,some<|.box j 67 [.fn 40 [.ptr 1000 m 0 0,.ptr 1002 q 0 0,.ptr 1005 l 0 0,.ptr 1006 j 0 0]])],U,121⟩) wk<|CI (λ(r:Bool × (List<|Int × Bool) × (List<|Int × Bool)) T h'=>∃(i:Nat→Nat),T=rB r.1∧h'=[(1000,some<|.box m 68 [.mref 1001 A]),(1001,some<|.md A<|AJ RV.bool r.2.1),(1002,some<|.box q 67 [.fn 25 [.ptr 1003 w 0 0]]),(1003,some<|.box w 68 [.mref 1004 B]),(1004,some<|.md B<|AJ RV.bool r.2.2),(1005,some<|.box l 24 [qa E.Nodes]),(1006,some<|.box j 67 [.fn 40 [.ptr 1000 m 0 0,.ptr 1002 q 0 0,.ptr 1005 l 0 0,.ptr 1006 j 0 0]])]) h3<|by exact⟨rB false,[(1000,some<|.box m 68 [.mref 1001 A]),(1001,some<|.md A<|AJ RV.bool<|Ai m1 v1.id true),(1002,some<|.box q 67 [.fn 25 [.ptr 1003 w 0 0]]),(1003,some<|.box w 68 [.mref 1004 B]),(1004,some<|.md B<|AJ RV.bool w2),(1005,some<|.box l 24 [qa E.Nodes]),(1006,some<|.box j 67 [.fn 40 [.ptr 1000 m 0 0,.ptr 1002 q 0 0,.ptr 1005 l 0 0,.ptr 1006 j 0 0]])],R,⟨.inr R,.inr R,.inr R,.inr R,.inr R,.inr R,.inr R,Za⟩,R,R,AH [],R,R⟩
 refine Zc<|c6 _<|aU<|xC CG R<|lF Jf AI R R<|Eu h3 λr2 r3 bf h4=>cL (R6<|bf) R<|mM R<|xX R<|xX R<|mA R<|mA R<|aZ<|aT λbg=>aG [3,4,5,7] [5,1000,1001,1002,1003,1004,1005,1006] ?_
 refine aR<|lF Bi Bk R R<|mM R<|AE h4 λI bh h5=>xI BH R bh<|xB ((Ax I)) Cs R<|sS R (BD (cs:=FF) 9 R HJ R R)<|Zk R R (A0 (ds:=(Ax I)) R GS iL R iL R R R R)<|aZ<|bg _<|aS λbi bj av=>aU<|lF ET Ea R R<|AE h5 λr4 bk h6=>sS R (DK (r:=.r<|.sl<|r4.map<|Ad .i64) (caps:=[]) (bs:=[qe I.Flow]) R iL R ⟨.inl ⟨iL,R⟩,Za⟩ λ_=>Zs<|bk)<|xL B0 R<|mM R<|aZ<|Ze<|Sf h6 λo1 aw bl bm=>?_
 have J1:∀(m9:List (Int × Bool)) (ac:List (Int × Bool)) (i6:NN),o1=.nrm (m9,ac)→bi ⟨[(3,.ptr 1005 l 0 0),(4,.ptr 1006 j 0 0),(5,.ptr 5 M 0 0),(9,.ptr 9 U 0 0)],[(5,some<|.box M 66<|Et v1),(9,some<|.box U 47<|Ax I),(1000,some<|.box m 68 [.mref 1001 A]),(1001,some<|.md A<|AJ RV.bool m9),(1002,some<|.box q 67 [.fn 25 [.ptr 1003 w 0 0]]),(1003,some<|.box w 68 [.mref 1004 B]),(1004,some<|.md B<|AJ RV.bool ac),(1005,some<|.box l 24 [qa E.Nodes]),(1006,some<|.box j 67 [.fn 40 [.ptr 1000 m 0 0,.ptr 1002 q 0 0,.ptr 1005 l 0 0,.ptr 1006 j 0 0]])],(i6 0),121⟩:=by
  intro m9 ac i6 e
  have h7:=bl _ _ e
  refine bj _<|aS λbn bo ax=>aU<|sQ R (fB R Ds iL fR R)<|lF Df Dr R R<|xL Bt R<|mM R<|aZ<|Ze<|Sf h7 λo2 ay bp bq=>?_
  have J2:∀(ad:List (Int × Bool)) (ae:List (Int × Bool)) (af:NN),o2=.nrm (ad,ae)→bn ⟨[(3,.ptr 1005 l 0 0),(4,.ptr 1006 j 0 0),(5,.ptr 5 M 0 0),(9,.ptr 9 U 0 0)],[(5,some<|.box M 66<|Et v1),(9,some<|.box U 47<|Ax I),(1000,some<|.box m 68 [.mref 1001 A]),(1001,some<|.md A<|AJ RV.bool ad),(1002,some<|.box q 67 [.fn 25 [.ptr 1003 w 0 0]]),(1003,some<|.box w 68 [.mref 1004 B]),(1004,some<|.md B<|AJ RV.bool ae),(1005,some<|.box l 24 [qa E.Nodes]),(1006,some<|.box j 67 [.fn 40 [.ptr 1000 m 0 0,.ptr 1002 q 0 0,.ptr 1005 l 0 0,.ptr 1006 j 0 0]])],(af 0),121⟩:=by
   intro ad ae af e
   have h8:=bp _ _ e
   refine bo _<|aS λbr bs az=>aU<|xC CG R<|xC Cs R<|AE h8 λr5 bt h9=>sS R (DK (r:=.r<|.sl<|r5.map<|Ad .i64) (caps:=[]) (bs:=[.agg [qa E.Nodes],.agg<|Ax I]) R iL R ⟨.inl ⟨iL,R⟩,.inl ⟨iL,R⟩,Za⟩ λ_=>bF<|bt)<|xL B0 R<|mM R<|aZ<|Ze<|Sf h9 λo3 b0 bu bv=>?_
   have J3:∀(X:List (Int × Bool)) (Z:List (Int × Bool)) (i16:NN),o3=.nrm (X,Z)→br ⟨[],[(1000,some<|.box m 68 [.mref 1001 A]),(1001,some<|.md A<|AJ RV.bool X),(1002,some<|.box q 67 [.fn 25 [.ptr 1003 w 0 0]]),(1003,some<|.box w 68 [.mref 1004 B]),(1004,some<|.md B<|AJ RV.bool Z),(1005,some<|.box l 24 [qa E.Nodes]),(1006,some<|.box j 67 [.fn 40 [.ptr 1000 m 0 0,.ptr 1002 q 0 0,.ptr 1005 l 0 0,.ptr 1006 j 0 0]])],(i16 0),121⟩:=by
    intro X Z i16 e
    have bw:=bu _ _ e
    refine bs _<|aU<|mA R<|aZ ?_
    exact Zi<|Zy (s':=⟨[(6,rB true)],[(1000,some<|.box m 68 [.mref 1001 A]),(1001,some<|.md A<|AJ RV.bool X),(1002,some<|.box q 67 [.fn 25 [.ptr 1003 w 0 0]]),(1003,some<|.box w 68 [.mref 1004 B]),(1004,some<|.md B<|AJ RV.bool Z),(1005,some<|.box l 24 [qa E.Nodes]),(1006,some<|.box j 67 [.fn 40 [.ptr 1000 m 0 0,.ptr 1002 q 0 0,.ptr 1005 l 0 0,.ptr 1006 j 0 0]])],(i16 0),121⟩) wk<|CI (λ(r:Bool × (List<|Int × Bool) × (List<|Int × Bool)) T h'=>∃(i:Nat→Nat),T=rB r.1∧h'=[(1000,some<|.box m 68 [.mref 1001 A]),(1001,some<|.md A<|AJ RV.bool r.2.1),(1002,some<|.box q 67 [.fn 25 [.ptr 1003 w 0 0]]),(1003,some<|.box w 68 [.mref 1004 B]),(1004,some<|.md B<|AJ RV.bool r.2.2),(1005,some<|.box l 24 [qa E.Nodes]),(1006,some<|.box j 67 [.fn 40 [.ptr 1000 m 0 0,.ptr 1002 q 0 0,.ptr 1005 l 0 0,.ptr 1006 j 0 0]])]) bw<|by exact⟨rB true,[(1000,some<|.box m 68 [.mref 1001 A]),(1001,some<|.md A<|AJ RV.bool X),(1002,some<|.box q 67 [.fn 25 [.ptr 1003 w 0 0]]),(1003,some<|.box w 68 [.mref 1004 B]),(1004,some<|.md B<|AJ RV.bool Z),(1005,some<|.box l 24 [qa E.Nodes]),(1006,some<|.box j 67 [.fn 40 [.ptr 1000 m 0 0,.ptr 1002 q 0 0,.ptr 1005 l 0 0,.ptr 1006 j 0 0]])],R,⟨.inr R,.inr R,.inr R,.inr R,.inr R,.inr R,.inr R,Za⟩,R,R,AH [],R,R⟩
   refine Hy (λ(x9:Int) (a2:List (Int × Bool)) (a6:List (Int × Bool)) ag=>⟨[(4,.ptr 1006 j 0 0),(5,.ptr 5 M 0 0),(105,.r<|.sl<|r5.map<|Ad .i64),(106,rL r5),(107,rI x9)],[(5,some<|.box M 66<|Et v1),(1000,some<|.box m 68 [.mref 1001 A]),(1001,some<|.md A<|AJ RV.bool a2),(1002,some<|.box q 67 [.fn 25 [.ptr 1003 w 0 0]]),(1003,some<|.box w 68 [.mref 1004 B]),(1004,some<|.md B<|AJ RV.bool a6),(1005,some<|.box l 24 [qa E.Nodes]),(1006,some<|.box j 67 [.fn 40 [.ptr 1000 m 0 0,.ptr 1002 q 0 0,.ptr 1005 l 0 0,.ptr 1006 j 0 0]])],(ag 0),121⟩) (AH [(af 0)]) b0 wk ?_
   intro x9 a2 a6 ag v2 bx b1
   have b2:Q5 E v1 self r5 x9 a2 a6=some v2:=bx;unfold Q5 at b2
   refine aU<|xS R<|aZ<|aT λbz=>cI R b2 (λah=>?_) λah=>?_
   ·refine Zc<|bz _<|aT λc0=>Ze<|aU<|AE ah λai b3 c1=>xI B0 R b3<|xV (.int .i64 ai) AI R<|mA R<|aZ<|aT λc3=>aR<|sQ R (Ab (a:=.fn 40 [.ptr 1000 m 0 0,.ptr 1002 q 0 0,.ptr 1005 l 0 0,.ptr 1006 j 0 0]) R Lr iL R R)<|mM R<|lF Jf AI R R<|lF Sa Kz R R ?_
    refine sQ R (B7 R O2 (q:=[(0,_),(1,_),(2,_)]) (by exact⟨R,R,R,iL,R,R,R,iL,R,R,R,iL,Za⟩) (cs:=[rI ai,rI v1.id,rB v1.visible])<|by rfl) ?_
    refine K0 c1 λr6 w3 w4 c5 c8=>?_
    refine Zu [1000,1001,1002,1003,1004,1005,1006] (hc:=[(1000,some<|.box m 68 [.mref 1001 A]),(1001,some<|.md A<|AJ RV.bool a2),(1002,some<|.box q 67 [.fn 25 [.ptr 1003 w 0 0]]),(1003,some<|.box w 68 [.mref 1004 B]),(1004,some<|.md B<|AJ RV.bool a6),(1005,some<|.box l 24 [qa E.Nodes]),(1006,some<|.box j 67 [.fn 40 [.ptr 1000 m 0 0,.ptr 1002 q 0 0,.ptr 1005 l 0 0,.ptr 1006 j 0 0]])]) (bs:=[.agg [rI ai,rI v1.id,rB v1.visible]]) (caps:=[.ptr 1000 m 0 0,.ptr 1002 q 0 0,.ptr 1005 l 0 0,.ptr 1006 j 0 0]) R R R R iL R ⟨.inl ⟨iL,R⟩,Za⟩ ⟨R,R,R,R,R,R,R,R,R,R,R,R,R,R,R,R,R,R,R,R,R,Za⟩ (by decide) (O c5) ?_
    intro d0 n2
    refine Bg [4,5,16,105,106,107,108,109,110,111,112,113,114,115,116,117,118] [5,1000,1001,1002,1003,1004,1005,1006] ?_
    refine sQ R (A6 R iL)<|aZ<|c3 _<|cI R c8 (λaj=>?_) λaj=>?_
    ·refine aT λc9=>aG [] [1000,1001,1002,1003,1004,1005,1006] ?_
     refine aR<|mA R<|oZ c9 ?_
     exact Zi<|Zy (s':=⟨[(6,rB false)],[(1000,some<|.box m 68 [.mref 1001 A]),(1001,some<|.md A<|AJ RV.bool w3),(1002,some<|.box q 67 [.fn 25 [.ptr 1003 w 0 0]]),(1003,some<|.box w 68 [.mref 1004 B]),(1004,some<|.md B<|AJ RV.bool w4),(1005,some<|.box l 24 [qa E.Nodes]),(1006,some<|.box j 67 [.fn 40 [.ptr 1000 m 0 0,.ptr 1002 q 0 0,.ptr 1005 l 0 0,.ptr 1006 j 0 0]])],n2,121⟩) wk<|CI (λ(r:Bool × (List<|Int × Bool) × (List<|Int × Bool)) T h'=>∃(i:Nat→Nat),T=rB r.1∧h'=[(1000,some<|.box m 68 [.mref 1001 A]),(1001,some<|.md A<|AJ RV.bool r.2.1),(1002,some<|.box q 67 [.fn 25 [.ptr 1003 w 0 0]]),(1003,some<|.box w 68 [.mref 1004 B]),(1004,some<|.md B<|AJ RV.bool r.2.2),(1005,some<|.box l 24 [qa E.Nodes]),(1006,some<|.box j 67 [.fn 40 [.ptr 1000 m 0 0,.ptr 1002 q 0 0,.ptr 1005 l 0 0,.ptr 1006 j 0 0]])]) (bv _<|xH b1 aj)<|by exact⟨rB false,[(1000,some<|.box m 68 [.mref 1001 A]),(1001,some<|.md A<|AJ RV.bool w3),(1002,some<|.box q 67 [.fn 25 [.ptr 1003 w 0 0]]),(1003,some<|.box w 68 [.mref 1004 B]),(1004,some<|.md B<|AJ RV.bool w4),(1005,some<|.box l 24 [qa E.Nodes]),(1006,some<|.box j 67 [.fn 40 [.ptr 1000 m 0 0,.ptr 1002 q 0 0,.ptr 1005 l 0 0,.ptr 1006 j 0 0]])],R,⟨.inr R,.inr R,.inr R,.inr R,.inr R,.inr R,.inr R,Za⟩,R,R,AH [],R,R⟩
    refine Zc<|c0 _<|aG [4,5,105,106,107] [5,1000,1001,1002,1003,1004,1005,1006] ?_
    exact aR<|AE aj λd1 b4 ca=>xA R b4<|mM R<|Zh<|E9.mk ca (AH [n2]) wk
   exact Zm<|az _ _ wk<|J3 _ _ (AH [(ag 0)])<|xH b1 ah
  refine Hy (λ(x6:Int) (a7:List (Int × Bool)) (a8:List (Int × Bool)) V=>⟨[(3,.ptr 1005 l 0 0),(4,.ptr 1006 j 0 0),(5,.ptr 5 M 0 0),(9,.ptr 9 U 0 0),(60,qc I.Grid.Cells),(61,rL I.Grid.Cells),(62,rI x6)],[(5,some<|.box M 66<|Et v1),(9,some<|.box U 47<|Ax I),(1000,some<|.box m 68 [.mref 1001 A]),(1001,some<|.md A<|AJ RV.bool a7),(1002,some<|.box q 67 [.fn 25 [.ptr 1003 w 0 0]]),(1003,some<|.box w 68 [.mref 1004 B]),(1004,some<|.md B<|AJ RV.bool a8),(1005,some<|.box l 24 [qa E.Nodes]),(1006,some<|.box j 67 [.fn 40 [.ptr 1000 m 0 0,.ptr 1002 q 0 0,.ptr 1005 l 0 0,.ptr 1006 j 0 0]])],(V 0),121⟩) (AH [(i6 0)]) ay wk ?_
  intro x6 a7 a8 V v3 cb b5
  have b6:Si E v1 self I x6 a7 a8=some v3:=cb;unfold Si at b6
  refine aU<|xS R<|aZ<|aT λcc=>cI R b6 (λak=>?_) λak=>?_
  ·refine Zc<|cc _<|aT λcd=>Ze<|aU<|AE ak λC b7 cf=>xI Bt R b7<|xB ((BR C)) EO R<|sS R (BD (cs:=HO) 13 R Hx R R)<|Zk R R (A0 (ds:=(BR C)) R Hw iL R iL R R R R)<|aZ<|aU<|sQ R (fB R Ds iL fR R)<|sQ R (Hg (ds:=(By I.Grid)) R Gb iL R R R)<|lF EP AI R R<|lF Ef AI R R<|AE cf λF cg ch=>sS R (DK (r:=.agg<|A3 F) (caps:=[]) (bs:=[.agg<|By I.Grid,rI C.Row,rI C.Col]) R iL R ⟨.inl ⟨iL,R⟩,.inl ⟨iL,R⟩,.inl ⟨iL,R⟩,Za⟩ λ_=>lZ<|cg)<|sS R (BD (cs:=FC) 14 R Hq R R)<|Zk R R (A0 (ds:=(A3 F)) R GM iL R iL R R R R)<|aZ<|aS λcj ck ab=>aG [3,4,5,9,13,14,60,61,62] [5,9,13,14,1000,1001,1002,1003,1004,1005,1006] ?_
   refine aR<|lF Dj AI R R<|xU R<|mM R<|vQ R (Ab (a:=.fn 40 [.ptr 1000 m 0 0,.ptr 1002 q 0 0,.ptr 1005 l 0 0,.ptr 1006 j 0 0]) R Lr iL R R)<|vF Dj AI R R<|vF Jf AI R R<|vF Sa Kz R R<|vQ R (AN R<|iR R)<|wQ R (fB R CY iL fR R)<|wQ R (Ab (a:=rI F.Row) R AI (iR R) R R)<|wQ R (fB R EP iL fR R)<|wQ R (Ab (a:=rI C.Row) R AI (iR R) R R)<|wQ R (A5 R (iR R)<|iR R)<|vQ R (Bb R (iR R)<|iR R)<|vQ R (AN R<|iR R)<|wQ R (fB R DB iL fR R)<|wQ R (Ab (a:=rI F.Col) R AI (iR R) R R)<|wQ R (fB R Ef iL fR R)<|wQ R (Ab (a:=rI C.Col) R AI (iR R) R R)<|wQ R (A5 R (iR R)<|iR R)<|vQ R (Bb R (iR R)<|iR R) ?_
   refine vQ R (B7 R O2 (q:=[(0,_),(1,_),(2,_)]) (by exact⟨R,R,R,(iR R),R,R,R,(iR R),R,R,R,(iR R),Za⟩) (cs:=[rI C.Ref,rI v1.id,rB<|((v1.visible&&(F.Row=C.Row))&&(F.Col=C.Col))])<|by rfl) ?_
   refine kS ch λp1 b8 cl=>?_
   have J4:∀(al:Bool) (a0:List (Int × Bool)) (a1:List (Int × Bool)) (aa:NN),p1=(al,a0,a1)→cj ⟨[(3,.ptr 1005 l 0 0),(4,.ptr 1006 j 0 0),(5,.ptr 5 M 0 0),(9,.ptr 9 U 0 0),(60,qc I.Grid.Cells),(61,rL I.Grid.Cells),(62,rI x6),(101,rB al)],[(5,some<|.box M 66<|Et v1),(9,some<|.box U 47<|Ax I),(1000,some<|.box m 68 [.mref 1001 A]),(1001,some<|.md A<|AJ RV.bool a0),(1002,some<|.box q 67 [.fn 25 [.ptr 1003 w 0 0]]),(1003,some<|.box w 68 [.mref 1004 B]),(1004,some<|.md B<|AJ RV.bool a1),(1005,some<|.box l 24 [qa E.Nodes]),(1006,some<|.box j 67 [.fn 40 [.ptr 1000 m 0 0,.ptr 1002 q 0 0,.ptr 1005 l 0 0,.ptr 1006 j 0 0]])],(aa 0),121⟩:=by
    intro al a0 a1 aa e
    have cm:=cl _ _ _ e
    refine ck _<|cI R cm (λan=>?_) λan=>?_
    ·refine aU<|mA R<|aZ ?_
     exact Zi<|Zy (s':=⟨[(6,rB false)],[(1000,some<|.box m 68 [.mref 1001 A]),(1001,some<|.md A<|AJ RV.bool a0),(1002,some<|.box q 67 [.fn 25 [.ptr 1003 w 0 0]]),(1003,some<|.box w 68 [.mref 1004 B]),(1004,some<|.md B<|AJ RV.bool a1),(1005,some<|.box l 24 [qa E.Nodes]),(1006,some<|.box j 67 [.fn 40 [.ptr 1000 m 0 0,.ptr 1002 q 0 0,.ptr 1005 l 0 0,.ptr 1006 j 0 0]])],(aa 0),121⟩) wk<|CI (λ(r:Bool × (List<|Int × Bool) × (List<|Int × Bool)) T h'=>∃(i:Nat→Nat),T=rB r.1∧h'=[(1000,some<|.box m 68 [.mref 1001 A]),(1001,some<|.md A<|AJ RV.bool r.2.1),(1002,some<|.box q 67 [.fn 25 [.ptr 1003 w 0 0]]),(1003,some<|.box w 68 [.mref 1004 B]),(1004,some<|.md B<|AJ RV.bool r.2.2),(1005,some<|.box l 24 [qa E.Nodes]),(1006,some<|.box j 67 [.fn 40 [.ptr 1000 m 0 0,.ptr 1002 q 0 0,.ptr 1005 l 0 0,.ptr 1006 j 0 0]])]) (bq _<|xH b5 an)<|by exact⟨rB false,[(1000,some<|.box m 68 [.mref 1001 A]),(1001,some<|.md A<|AJ RV.bool a0),(1002,some<|.box q 67 [.fn 25 [.ptr 1003 w 0 0]]),(1003,some<|.box w 68 [.mref 1004 B]),(1004,some<|.md B<|AJ RV.bool a1),(1005,some<|.box l 24 [qa E.Nodes]),(1006,some<|.box j 67 [.fn 40 [.ptr 1000 m 0 0,.ptr 1002 q 0 0,.ptr 1005 l 0 0,.ptr 1006 j 0 0]])],R,⟨.inr R,.inr R,.inr R,.inr R,.inr R,.inr R,.inr R,Za⟩,R,R,AH [],R,R⟩
    exact Zc<|cd _<|aR<|AE an λd2 b9 cn=>xA R b9<|mM R<|Zh<|E9.mk cn (AH [(aa 0)]) wk
   refine AO.split ((!(C.Ref=0))==true) (λJ=>?_) λJ=>?_
   ·have ao:=Dz J b8
    refine AO.weak (by exact QU (e':=[(3,.ptr 1005 l 0 0),(4,.ptr 1006 j 0 0),(5,.ptr 5 M 0 0),(9,.ptr 9 U 0 0),(13,.ptr 13 (V 0) 0 0),(14,.ptr 14 ((V 0)+1) 0 0),(60,qc I.Grid.Cells),(61,rL I.Grid.Cells),(62,rI x6),(73,.ptr 13 (V 0) 0 3),(74,rI C.Ref),(75,rB<|(!(C.Ref=0))),(76,rB<|(!(C.Ref=0))),(77,.fn 40 [.ptr 1000 m 0 0,.ptr 1002 q 0 0,.ptr 1005 l 0 0,.ptr 1006 j 0 0]),(78,.ptr 13 (V 0) 0 3),(79,rI C.Ref),(80,.ptr 5 M 0 0),(81,rI v1.id),(82,.ptr 5 M 0 2),(83,rB v1.visible),(84,rB v1.visible),(85,.whn (v1.visible==true)<|.ptr 14 ((V 0)+1) 0 0),(86,.whn (v1.visible==true)<|rI F.Row),(87,.whn (v1.visible==true)<|.ptr 13 (V 0) 0 0),(88,.whn (v1.visible==true)<|rI C.Row),(89,.whn (v1.visible==true)<|rB<|(decide<|F.Row=C.Row)),(90,rB<|(v1.visible&&(F.Row=C.Row))),(91,rB<|(v1.visible&&(F.Row=C.Row))),(92,.whn ((v1.visible&&(F.Row=C.Row))==true)<|.ptr 14 ((V 0)+1) 0 1),(93,.whn ((v1.visible&&(F.Row=C.Row))==true)<|rI F.Col),(94,.whn ((v1.visible&&(F.Row=C.Row))==true)<|.ptr 13 (V 0) 0 1),(95,.whn ((v1.visible&&(F.Row=C.Row))==true)<|rI C.Col),(96,.whn ((v1.visible&&(F.Row=C.Row))==true)<|rB<|(decide<|F.Col=C.Col)),(97,rB<|((v1.visible&&(F.Row=C.Row))&&(F.Col=C.Col))),(98,.agg [rI C.Ref,rI v1.id,rB<|((v1.visible&&(F.Row=C.Row))&&(F.Col=C.Col))])]) J ⟨.inl R,.inl R,.inl R,.inl R,.inl R,.inl R,.inl R,.inl R,.inl R,.inl R,.inl R,.inl R,.inl R,.inr iL,.inr iL,.inr iL,.inr iL,.inr iL,.inr iL,.inr iL,.inr iL,.inr<|.inr<|.inl ⟨_,_,R,R⟩,.inr<|.inr<|.inl ⟨_,_,R,R⟩,.inr<|.inr<|.inl ⟨_,_,R,R⟩,.inr<|.inr<|.inl ⟨_,_,R,R⟩,.inr<|.inr<|.inl ⟨_,_,R,R⟩,.inr iL,.inr iL,.inr<|.inr<|.inl ⟨_,_,R,R⟩,.inr<|.inr<|.inl ⟨_,_,R,R⟩,.inr<|.inr<|.inl ⟨_,_,R,R⟩,.inr<|.inr<|.inl ⟨_,_,R,R⟩,.inr<|.inr<|.inl ⟨_,_,R,R⟩,.inr iL,.inr iL,Za⟩) ?_
    refine K0 ao λr8 w5 w6 cp cq=>?_
    refine mE (.one R R R) J [1000,1001,1002,1003,1004,1005,1006] (hc:=[(1000,some<|.box m 68 [.mref 1001 A]),(1001,some<|.md A<|AJ RV.bool a7),(1002,some<|.box q 67 [.fn 25 [.ptr 1003 w 0 0]]),(1003,some<|.box w 68 [.mref 1004 B]),(1004,some<|.md B<|AJ RV.bool a8),(1005,some<|.box l 24 [qa E.Nodes]),(1006,some<|.box j 67 [.fn 40 [.ptr 1000 m 0 0,.ptr 1002 q 0 0,.ptr 1005 l 0 0,.ptr 1006 j 0 0]])]) (bs:=[.agg [rI C.Ref,rI v1.id,rB<|((v1.visible&&(F.Row=C.Row))&&(F.Col=C.Col))]]) (caps:=[.ptr 1000 m 0 0,.ptr 1002 q 0 0,.ptr 1005 l 0 0,.ptr 1006 j 0 0]) R R R iL R ⟨.inl ⟨iL,R⟩,Za⟩ ⟨R,R,R,R,R,R,R,R,R,R,R,R,R,R,R,R,R,R,R,R,R,Za⟩ (by decide) (O cp) ?_
    intro d3 n3
    refine Bg [3,4,5,9,13,14,60,61,62,73,74,75,76,77,78,79,80,81,82,83,84,90,91,97,98,99] [5,9,13,14,1000,1001,1002,1003,1004,1005,1006] ?_
    exact G2 (.one R R R) J R R (DN (A6 R<|.inl R) _)<|sQ R (Bb R iL iL)<|Zh<|ab _ _ wk<|J4 _ _ _ (AH [n3]) (Zf cq).symm
   ·have ao:=D6 J b8
    exact Fu (.one R R R) J R R<|Fu (.one R R R) J R R<|xN R<|Zh<|ab _ _ wk<|J4 _ _ _ (AH [((V 0)+2)]) (Zf ao).symm
  exact Zm<|ax _ _ wk<|J2 _ _ (AH [(V 0)])<|xH b5 ak
 refine Hy (λ(x3:Int) (m5:List (Int × Bool)) (m6:List (Int × Bool)) i4=>⟨[(3,.ptr 1005 l 0 0),(4,.ptr 1006 j 0 0),(5,.ptr 5 M 0 0),(9,.ptr 9 U 0 0),(42,.r<|.sl<|r4.map<|Ad .i64),(43,rL r4),(44,rI x3)],[(5,some<|.box M 66<|Et v1),(9,some<|.box U 47<|Ax I),(1000,some<|.box m 68 [.mref 1001 A]),(1001,some<|.md A<|AJ RV.bool m5),(1002,some<|.box q 67 [.fn 25 [.ptr 1003 w 0 0]]),(1003,some<|.box w 68 [.mref 1004 B]),(1004,some<|.md B<|AJ RV.bool m6),(1005,some<|.box l 24 [qa E.Nodes]),(1006,some<|.box j 67 [.fn 40 [.ptr 1000 m 0 0,.ptr 1002 q 0 0,.ptr 1005 l 0 0,.ptr 1006 j 0 0]])],(i4 0),121⟩) (AH [(U+1)]) aw wk ?_
 intro x3 m5 m6 i4 v4 cr ba
 have bb:SL E v1 self r4 x3 m5 m6=some v4:=cr;unfold SL at bb
 refine aU<|xS R<|aZ<|aT λcs=>cI R bb (λaq=>?_) λaq=>?_
 ·refine Zc<|cs _<|aT λct=>Ze<|aU<|AE aq λar bc cu=>xI B0 R bc<|xV (.int .i64 ar) AI R<|mA R<|aZ<|aT λcv=>aR<|sQ R (Ab (a:=.fn 40 [.ptr 1000 m 0 0,.ptr 1002 q 0 0,.ptr 1005 l 0 0,.ptr 1006 j 0 0]) R Lr iL R R)<|mM R<|lF Jf AI R R<|lF Sa Kz R R ?_
  refine sQ R (B7 R O2 (q:=[(0,_),(1,_),(2,_)]) (by exact⟨R,R,R,iL,R,R,R,iL,R,R,R,iL,Za⟩) (cs:=[rI ar,rI v1.id,rB v1.visible])<|by rfl) ?_
  refine K0 cu λr9 w7 w8 cw cx=>?_
  refine Zu [1000,1001,1002,1003,1004,1005,1006] (hc:=[(1000,some<|.box m 68 [.mref 1001 A]),(1001,some<|.md A<|AJ RV.bool m5),(1002,some<|.box q 67 [.fn 25 [.ptr 1003 w 0 0]]),(1003,some<|.box w 68 [.mref 1004 B]),(1004,some<|.md B<|AJ RV.bool m6),(1005,some<|.box l 24 [qa E.Nodes]),(1006,some<|.box j 67 [.fn 40 [.ptr 1000 m 0 0,.ptr 1002 q 0 0,.ptr 1005 l 0 0,.ptr 1006 j 0 0]])]) (bs:=[.agg [rI ar,rI v1.id,rB v1.visible]]) (caps:=[.ptr 1000 m 0 0,.ptr 1002 q 0 0,.ptr 1005 l 0 0,.ptr 1006 j 0 0]) R R R R iL R ⟨.inl ⟨iL,R⟩,Za⟩ ⟨R,R,R,R,R,R,R,R,R,R,R,R,R,R,R,R,R,R,R,R,R,Za⟩ (by decide) (O cw) ?_
  intro d4 n4
  refine Bg [3,4,5,9,11,42,43,44,45,46,47,48,49,50,51,52,53,54,55] [5,9,1000,1001,1002,1003,1004,1005,1006] ?_
  refine sQ R (A6 R iL)<|aZ<|cv _<|cI R cx (λau=>?_) λau=>?_
  ·refine aT λcy=>aG [] [1000,1001,1002,1003,1004,1005,1006] ?_
   refine aR<|mA R<|oZ cy ?_
   exact Zi<|Zy (s':=⟨[(6,rB false)],[(1000,some<|.box m 68 [.mref 1001 A]),(1001,some<|.md A<|AJ RV.bool w7),(1002,some<|.box q 67 [.fn 25 [.ptr 1003 w 0 0]]),(1003,some<|.box w 68 [.mref 1004 B]),(1004,some<|.md B<|AJ RV.bool w8),(1005,some<|.box l 24 [qa E.Nodes]),(1006,some<|.box j 67 [.fn 40 [.ptr 1000 m 0 0,.ptr 1002 q 0 0,.ptr 1005 l 0 0,.ptr 1006 j 0 0]])],n4,121⟩) wk<|CI (λ(r:Bool × (List<|Int × Bool) × (List<|Int × Bool)) T h'=>∃(i:Nat→Nat),T=rB r.1∧h'=[(1000,some<|.box m 68 [.mref 1001 A]),(1001,some<|.md A<|AJ RV.bool r.2.1),(1002,some<|.box q 67 [.fn 25 [.ptr 1003 w 0 0]]),(1003,some<|.box w 68 [.mref 1004 B]),(1004,some<|.md B<|AJ RV.bool r.2.2),(1005,some<|.box l 24 [qa E.Nodes]),(1006,some<|.box j 67 [.fn 40 [.ptr 1000 m 0 0,.ptr 1002 q 0 0,.ptr 1005 l 0 0,.ptr 1006 j 0 0]])]) (bm _<|xH ba au)<|by exact⟨rB false,[(1000,some<|.box m 68 [.mref 1001 A]),(1001,some<|.md A<|AJ RV.bool w7),(1002,some<|.box q 67 [.fn 25 [.ptr 1003 w 0 0]]),(1003,some<|.box w 68 [.mref 1004 B]),(1004,some<|.md B<|AJ RV.bool w8),(1005,some<|.box l 24 [qa E.Nodes]),(1006,some<|.box j 67 [.fn 40 [.ptr 1000 m 0 0,.ptr 1002 q 0 0,.ptr 1005 l 0 0,.ptr 1006 j 0 0]])],R,⟨.inr R,.inr R,.inr R,.inr R,.inr R,.inr R,.inr R,Za⟩,R,R,AH [],R,R⟩
  refine Zc<|ct _<|aG [3,4,5,9,42,43,44] [5,9,1000,1001,1002,1003,1004,1005,1006] ?_
  exact aR<|AE au λd5 bd cz=>xA R bd<|mM R<|Zh<|E9.mk cz (AH [n4]) wk
 exact Zm<|av _ _ wk<|J1 _ _ (AH [(i4 0)])<|xH ba aq
theorem gW(n:Nat):∀ {E:List (Int × Bool)} {m2:List (Int × Bool)} {C:AM} {v1:Af} {r:Bool × (List<|Int × Bool) × (List<|Int × Bool)} {j:Nat} {w:Nat} {l:Nat} {A:Nat} {B:Nat} {m:Nat} {q:Nat},Gt n E m2 C v1=some r→A9 prog 40 7 [.agg<|Et v1,.ptr 1000 j 0 0,.ptr 1002 l 0 0,.ptr 1005 m 0 0,.ptr 1006 q 0 0] [(1000,some<|.box j 68 [.mref 1001 w]),(1001,some<|.md w<|AJ RV.bool E),(1002,some<|.box l 67 [.fn 25 [.ptr 1003 A 0 0]]),(1003,some<|.box A 68 [.mref 1004 B]),(1004,some<|.md B<|AJ RV.bool m2),(1005,some<|.box m 24 [qa C.Nodes]),(1006,some<|.box q 67 [.fn 40 [.ptr 1000 j 0 0,.ptr 1002 l 0 0,.ptr 1005 m 0 0,.ptr 1006 q 0 0]])] (λF h'=>∃(i:Nat→Nat),F=rB r.1∧h'=[(1000,some<|.box j 68 [.mref 1001 w]),(1001,some<|.md w<|AJ RV.bool r.2.1),(1002,some<|.box l 67 [.fn 25 [.ptr 1003 A 0 0]]),(1003,some<|.box A 68 [.mref 1004 B]),(1004,some<|.md B<|AJ RV.bool r.2.2),(1005,some<|.box m 24 [qa C.Nodes]),(1006,some<|.box q 67 [.fn 40 [.ptr 1000 j 0 0,.ptr 1002 l 0 0,.ptr 1005 m 0 0,.ptr 1006 q 0 0]])]):=by
 induction n with
 | zero=>intro E m2 C v1 r j w l A B m q h;exact absurd (show(none:Option (Bool × (List<|Int × Bool) × (List<|Int × Bool)))=some r from h)<|by simp
 | succ n I=>intro E m2 C v1 r j w l A B m q h;exact fZ (self:=λE m2 C v1=>Gt n E m2 C v1) (λJ=>I J) h
theorem aH{E:List (Int × Bool)}{m2:List (Int × Bool)}{C:AM}{v1:Af}{r:Bool × (List<|Int × Bool) × (List<|Int × Bool)}{j:Nat}{w:Nat}{l:Nat}{A:Nat}{B:Nat}{m:Nat}{q:Nat}(h:Pi E m2 C v1=some r):A9 prog 40 7 [.agg<|Et v1,.ptr 1000 j 0 0,.ptr 1002 l 0 0,.ptr 1005 m 0 0,.ptr 1006 q 0 0] [(1000,some<|.box j 68 [.mref 1001 w]),(1001,some<|.md w<|AJ RV.bool E),(1002,some<|.box l 67 [.fn 25 [.ptr 1003 A 0 0]]),(1003,some<|.box A 68 [.mref 1004 B]),(1004,some<|.md B<|AJ RV.bool m2),(1005,some<|.box m 24 [qa C.Nodes]),(1006,some<|.box q 67 [.fn 40 [.ptr 1000 j 0 0,.ptr 1002 l 0 0,.ptr 1005 m 0 0,.ptr 1006 q 0 0]])] (λI h'=>∃(i:Nat→Nat),I=rB r.1∧h'=[(1000,some<|.box j 68 [.mref 1001 w]),(1001,some<|.md w<|AJ RV.bool r.2.1),(1002,some<|.box l 67 [.fn 25 [.ptr 1003 A 0 0]]),(1003,some<|.box A 68 [.mref 1004 B]),(1004,some<|.md B<|AJ RV.bool r.2.2),(1005,some<|.box m 24 [qa C.Nodes]),(1006,some<|.box q 67 [.fn 40 [.ptr 1000 j 0 0,.ptr 1002 l 0 0,.ptr 1005 m 0 0,.ptr 1006 q 0 0]])]):=by
 unfold Pi at h
 by_cases F:∃n r,Gt n E m2 C v1=some r
 ·rw[pr F] at h;exact gW _ h
 ·rw[dif_neg F] at h;cases h
theorem eI{q:List (Int × Bool)}{d1:AM}{r:(List<|Int × Bool)}{l:Nat}{j:Nat}(h:MI q d1=some r):A9 prog 23 2 [.agg [qa d1.Nodes],.fn 25 [.ptr 1000 l 0 0]] [(1000,some<|.box l 68 [.mref 1001 j]),(1001,some<|.md j<|AJ RV.bool q)] (λw h'=>∃(i:Nat→Nat),w=.tup []∧h'=[(1000,some<|.box l 68 [.mref 1001 j]),(1001,some<|.md j<|AJ RV.bool r)]):=by
 unfold MI at h
 refine EB func23 R R ntmps23 (Zo R) λm=>aU<|sS R (A4 (cs:=[qa d1.Nodes]) 2 R iL R R)<|sS R (A4 (cs:=[.fn 25 [.ptr 1000 l 0 0]]) 3 R iL R R)<|aZ<|aU<|sS R (L2 RV.bool 6 R)<|sS R (BD (cs:=[.cst<|.map none]) 4 R Sr R R)<|Zk R R (A0 (ds:=[.mref 6<|m+2]) R SE iL R iL R R R R)<|aZ<|aU<|sS R (BD (cs:=[.cst<|.nilFunc]) 5 R iK R R)<|aZ<|aT λC=>aR ?_
 refine sQ R (Km (bs:=[.ptr 4 (m+3) 0 0,.ptr 3 (m+1) 0 0,.ptr 2 m 0 0,.ptr 5 (m+4) 0 0]) R<|by exact⟨iL,iL,iL,iL,Za⟩) ?_
 refine Zk R R (A0 (ds:=[.fn 40 [.ptr 4 (m+3) 0 0,.ptr 3 (m+1) 0 0,.ptr 2 m 0 0,.ptr 5 (m+4) 0 0]]) R jo iL R iL R R R R)<|aZ<|C _<|aR<|sQ R (Ab (a:=.fn 40 [.ptr 4 (m+3) 0 0,.ptr 3 (m+1) 0 0,.ptr 2 m 0 0,.ptr 5 (m+4) 0 0]) R Lr iL R R) ?_
 refine sQ R (B7 R O2 (q:=[(0,_),(1,_),(2,_)]) (by exact⟨R,R,R,iL,R,R,R,iL,R,R,R,iL,Za⟩) (cs:=[rI 1,rI 0,rB true])<|by rfl) ?_
 refine K0 h λI J B A E=>?_
 refine Zu [4,6,3,1000,1001,2,5] (hc:=[(1000,some<|.box (m+3) 68 [.mref 1001<|m+2]),(1001,some<|.md (m+2)<|AJ RV.bool ([]:List (Int × Bool))),(1002,some<|.box (m+1) 67 [.fn 25 [.ptr 1003 l 0 0]]),(1003,some<|.box l 68 [.mref 1004 j]),(1004,some<|.md j<|AJ RV.bool q),(1005,some<|.box m 24 [qa d1.Nodes]),(1006,some<|.box (m+4) 67 [.fn 40 [.ptr 1000 (m+3) 0 0,.ptr 1002 (m+1) 0 0,.ptr 1005 m 0 0,.ptr 1006 (m+4) 0 0]])]) (bs:=[.agg [rI 1,rI 0,rB true]]) (caps:=[.ptr 1000 (m+3) 0 0,.ptr 1002 (m+1) 0 0,.ptr 1005 m 0 0,.ptr 1006 (m+4) 0 0]) R R R R iL R ⟨.inl ⟨iL,R⟩,Za⟩ ⟨R,R,R,R,R,R,R,R,R,R,R,R,R,R,R,R,R,R,R,R,R,Za⟩ (by decide) (aH A) ?_
 intro M F
 refine Bg [0,1,2,3,4,5,6,7,8,9,10] [2,3,4,5,6,1000,1001] ?_
 refine Zh ?_
 exact Zy (s':=⟨[],[(1000,some<|.box l 68 [.mref 1001 j]),(1001,some<|.md j<|AJ RV.bool B)],F,11⟩) wk<|CI (λ(r:(List<|Int × Bool)) w h'=>∃(i:Nat→Nat),w=.tup []∧h'=[(1000,some<|.box l 68 [.mref 1001 j]),(1001,some<|.md j<|AJ RV.bool r)]) E<|by exact⟨.tup [],[(1000,some<|.box l 68 [.mref 1001 j]),(1001,some<|.md j<|AJ RV.bool B)],⟨_,R,Za⟩,⟨.inr R,.inr R,Za⟩,R,R,AH [],R,R⟩
theorem lL{d1 r}(h:IO d1=some r):AX prog 7 [.agg [qa d1.Nodes]] (.tup [.r<|.sl<|r.1.map<|Ad .i64,rI r.2]):=by
 unfold IO at h
 refine mF func7 ntmps7 R λj=>aU<|sS R (A4 (cs:=[qa d1.Nodes]) 1 R iL R R)<|mA R<|mA R<|aZ<|aT λc2=>aU<|xC CG R<|AE h λe1 T h1=>cL (SB<|T) R<|mA R<|aZ<|aU<|mM R<|xU R<|aZ<|cI R h1 (λU=>?_) λU=>?_
 ·exact aU<|mM R<|mA R<|mA R<|aZ<|Zi<|Cy (P:=prog) (λ(r:(List Int) × Int)=>.r<|.sl<|r.1.map<|Ad .i64) (λ(r:(List Int) × Int)=>rI r.2) U iL (.t<|.one<|.nil)<|.t<|.d R
 refine Zc<|c2 _<|aU<|sS R (L2 RV.bool 14 R)<|sS R (BD (cs:=[.cst<|.map none]) 5 R Sr R R)<|Zk R R (A0 (ds:=[.mref 14<|j+1]) R SE iL R iL R R R R)<|aZ<|aT λc7=>aG [1,5] [1,5,14] ?_
 refine aR<|xC CG R ?_
 refine sQ R (Km (bs:=[.ptr 5 (j+2) 0 0]) R<|by exact⟨iL,Za⟩) ?_
 refine AE U λI V h3=>?_
 refine Zu [5,14] (hc:=[(1000,some<|.box (j+2) 68 [.mref 1001<|j+1]),(1001,some<|.md (j+1)<|AJ RV.bool ([]:List (Int × Bool)))]) (bs:=[.agg [qa d1.Nodes],.fn 25 [.ptr 1000 (j+2) 0 0]]) (caps:=[]) R R R R iL R ⟨.inl ⟨iL,R⟩,.inl ⟨iL,R⟩,Za⟩ ⟨R,R,R,R,R,R,Za⟩ (by decide) (eI V) ?_
 intro i1 J
 refine Bg [1,5,15,16,17] [1,5,14] ?_
 refine aZ<|c7 _<|aU<|mA R<|aZ<|aS λK9 c9 X=>aU<|lF Bi Bk R R<|xL BH R<|mM R<|aZ<|Ze<|BP h3 λo1 F Z=>?_
 have J1:∀(l:List Int) (M:NN),o1=l→K9 ⟨[(6,.own 5006<|M 0)],[(5006,some<|.arr (M 0) 3 1<|l.map<|Ad .i64)],(M 1),37⟩:=by
  intro l M e
  have h4:=Z _ e
  exact c9 _<|aU<|mM R<|mA R<|mA R<|aZ<|Zi<|Cy (P:=prog) (λ(r:(List Int) × Int)=>.r<|.sl<|r.1.map<|Ad .i64) (λ(r:(List Int) × Int)=>rI r.2) h4 iL (.t<|.one<|.own R)<|.t<|.d R
 refine CX (λ(O:Int) (m:List Int) w=>⟨[(5,.ptr 5 (j+2) 0 0),(6,.own 5006<|w 0),(19,qa d1.Nodes),(20,rL d1.Nodes),(21,rI O)],[(5,some<|.box (j+2) 68 [.mref 14<|j+1]),(14,some<|.md (j+1)<|AJ RV.bool I),(5006,some<|.arr (w 0) 3 1<|m.map<|Ad .i64)],(w 1),37⟩) (AH [J,(J+1)]) F (Zx (Zx (G0 6 5006 3 1 (by decide) R)<|by exact Am.cv (e':=[(1,.ptr 1 j 0 0),(5,.ptr 5 (j+2) 0 0),(6,.own 5006 J),(15,.agg [qa d1.Nodes]),(16,.fn 25 [.ptr 5 (j+2) 0 0]),(17,.tup []),(18,.ptr 1 j 0 0),(19,qa d1.Nodes),(20,rL d1.Nodes),(21,rI 0)]) (h':=[(1,some<|.box j 24 [qa d1.Nodes]),(5,some<|.box (j+2) 68 [.mref 14<|j+1]),(14,some<|.md (j+1)<|AJ RV.bool I),(5006,some<|.arr J 3 1<|([]:List Int).map<|Ad .i64)]) ⟨jL,jL,jL,jL,jL,jL,jL,jL,jL,jL,Za⟩ ⟨.inl R,.inl R,.inl R,.inl R,Za⟩ nL) wk) ?_
 intro O m w v1 a0 a1
 have h5:HK d1 I O m=some v1:=a0;unfold HK at h5
 refine aU<|xS R<|aZ<|aT λa2=>cI R h5 (λh6=>?_) λh6=>?_
 ·refine Zc<|a2 _<|aS λa6 a7 A=>Ze<|BP h6 λp1 a8 aa=>?_
  have J2:∀(q:List Int) (E:NN),p1=q→a6 ⟨[(5,.ptr 5 (j+2) 0 0),(6,.own 5006<|E 0),(19,qa d1.Nodes),(20,rL d1.Nodes),(21,rI O)],[(5,some<|.box (j+2) 68 [.mref 14<|j+1]),(14,some<|.md (j+1)<|AJ RV.bool I),(5006,some<|.arr (E 0) 3 1<|q.map<|Ad .i64)],(E 1),37⟩:=by
   intro q E e
   have h7:=aa _ e
   exact a7 _<|aR<|AE h7 λx4 ab h8=>xA R ab<|mM R<|Zh<|ZF h8 (AH [(E 0),(E 1)]) wk
  refine aU<|AE a8 λx5 ac h9=>xI BH R ac<|xB ((Ax x5)) Cs R<|sS R (BD (cs:=FF) 8 R HJ R R)<|Zk R R (A0 (ds:=(Ax x5)) R GS iL R iL R R R R)<|aZ<|aU<|sQ R (Ab (a:=.mref 14<|j+1) R KH iL R R)<|lF Cn AI R R<|sQ R (KM (rd:=RV.bool) false (.bool false) false R underlying68 underlying3 (GZ Ou) (λ_ _=>.bool _) (.inl R) (.inl R) R)<|sQ R (A6 R iL)<|aZ<|cI R h9 (λB=>?_) λB=>?_
  ·exact aR<|mM R<|lF Cn AI R R<|sS R (Bu 33 R B0 (f:=(Ad .i64)) (l:=([x5.ID]:List Int)) ⟨R,⟨_,iL,R⟩,Za⟩ R (λ_=>R) R)<|AE B λae C ad=>sS R (DL R B0 iL R (.inr<|.inl ⟨_,_,iL,R⟩) C)<|mA R<|Zh<|A _ _ wk<|J2 _ (AH [((w 1)+2),((w 1)+3)]) (Zf ad).symm
  exact Zc<|A _ _ wk<|J2 _ (AH [(w 0),((w 1)+1)]) (Zf B).symm
 exact Zm<|X _ _ wk<|J1 _ (AH [(w 0),(w 1)])<|xH a1 h6
theorem DF{j l a r}(h:CW j l a=some r):AX prog 16 [rI j,rI l,rI a] (rB r):=by
 unfold CW at h
 exact mF func16 ntmps16 R λm=>aU<|mA R<|aZ<|aU<|mM R<|mM R<|sQ R (Cd R iL iL)<|mM R<|vM R<|vM R<|vQ R (En R (iR R)<|iR R)<|xN R<|mA R<|aZ<|Zi<|yB h R
theorem WF{l r}(h:LP l=some r):AX prog 86 [rS l] (rB r):=by
 unfold LP at h
 refine mF func86 ntmps86 R λX=>aU<|mA R<|aZ<|aS λZ c2 A=>aU<|mM R<|sQ R (DT R underlying9 iL)<|mM R<|aZ<|Ze<|BK h λo1 m B C=>?_
 have J1:∀(T:Unit) (U:NN),o1=.nrm T→Z ⟨[(0,rS l)],[],(U 0),59⟩:=by
  intro T U e
  have h1:=B _ e
  exact c2 _<|aU<|mM R<|sQ R (DT R underlying9 iL)<|sQ R (Cd R iL iL)<|mM R<|vM R<|vQ R (DT R underlying9<|iR R)<|vQ R (En R (iR R) iL)<|xN R<|mA R<|aZ<|Zi<|yB h1 R
 refine Zw (λ(E:Int) w=>⟨[(0,rS l),(6,rL l),(7,rI E)],[],(w 0),59⟩) (AH [X]) m wk ?_
 intro E w v1 F q
 have V:Ky l E=some v1:=F;unfold Ky at V
 refine aU<|xS R<|aZ<|aT λc6=>cI R V (λI=>?_) λI=>?_
 ·refine Zc<|c6 _<|aT λc7=>Ze<|aU<|mM R<|mA R<|aZ<|aU<|mM R<|mM R<|AE I λa0 j h4=>sQ R (CM R underlying9 iL iL λ_=>j)<|sQ R (Cd R iL iL)<|mM R<|vM R<|vM R<|vQ R (CM R underlying9 (iR R) (iR R) λ_=>j)<|vQ R (En R (iR R) iL)<|xN R<|mA R<|aZ<|aT λJ=>aR<|mM R<|sQ R (A6 R iL)<|mM R<|vM R<|vQ R (A5 R (iR R) iL)<|vQ R (AN R<|iR R)<|wQ R (AN R iL)<|wQ R (AN R iL)<|wQ R (CM R underlying9 (iR R) (iR R) λ_=>j)<|wQ R (DV R (iR R) iL)<|wQ R (AN R<|iR R)<|wQ R (AN R iL)<|wQ R (AN R iL)<|wQ R (CM R underlying9 (iR R) (iR R) λ_=>j)<|wQ R (DV R (iR R) iL)<|wQ R (Bb R (iR R)<|iR R)<|wQ R (AN R<|iR R)<|wQ R (AN R iL)<|wQ R (AN R iL)<|wQ R (CM R underlying9 (iR R) (iR R) λ_=>j)<|wQ R (B1 R (iR R) iL)<|wQ R (AN R<|iR R)<|wQ R (AN R iL)<|wQ R (AN R iL)<|wQ R (CM R underlying9 (iR R) (iR R) λ_=>j)<|wQ R (BU R (iR R) iL)<|wQ R (Cm R (iR R)<|iR R)<|wQ R (Bb R (iR R)<|iR R)<|vQ R (Cm R (iR R)<|iR R)<|xN R<|aZ<|J _<|cI R h4 (λM=>?_) λM=>?_
  ·exact zB (C _<|xH q M) R id
  refine Zc<|c7 _<|aF [0,6,7] ?_
  exact aR<|AE M λx4 O h6=>xA R O<|mM R<|Zh<|Zt h6 (AH [(w 0)]) wk
 exact Zm<|A _ _ wk<|J1 _ (AH [(w 0)])<|xH q I
theorem Vh{l r}(h:Kl l=some r):AX prog 87 [rS l] (rB r):=by
 unfold Kl at h
 refine mF func87 ntmps87 R λV=>aU<|mA R<|aZ<|aS λX Z A=>aU<|mM R<|sQ R (DT R underlying9 iL)<|mM R<|aZ<|Ze<|BK h λo1 m B C=>?_
 have J1:∀(O:Unit) (T:NN),o1=.nrm O→X ⟨[(0,rS l)],[],(T 0),28⟩:=by
  intro O T e
  have h1:=B _ e
  exact Z _<|aU<|mM R<|sQ R (DT R underlying9 iL)<|sQ R (Cd R iL iL)<|mM R<|vM R<|vQ R (DT R underlying9<|iR R)<|vQ R (En R (iR R) iL)<|xN R<|mA R<|aZ<|Zi<|yB h1 R
 refine Zw (λ(E:Int) w=>⟨[(0,rS l),(5,rL l),(6,rI E)],[],(w 0),28⟩) (AH [V]) m wk ?_
 intro E w v1 F q
 have U:M2 l E=some v1:=F;unfold M2 at U
 refine aU<|xS R<|aZ<|aT λc6=>cI R U (λI=>?_) λI=>?_
 ·refine Zc<|c6 _<|aT λc7=>Ze<|aU<|mM R<|mA R<|aZ<|aU<|mM R<|mM R<|AE I λa0 j h4=>sQ R (CM R underlying9 iL iL λ_=>j)<|xS R<|mM R<|vM R<|vM R<|vQ R (CM R underlying9 (iR R) (iR R) λ_=>j)<|vQ R (BU R (iR R) iL)<|xO R<|aZ<|cI R h4 (λJ=>?_) λJ=>?_
  ·exact zB (C _<|xH q J) R id
  refine Zc<|c7 _<|aF [0,5,6] ?_
  exact aR<|AE J λx4 M h6=>xA R M<|mM R<|Zh<|Zt h6 (AH [(w 0)]) wk
 exact Zm<|A _ _ wk<|J1 _ (AH [(w 0)])<|xH q I
theorem Sv{w c r}(h:JR w c=some r):AX prog 45 [qb w,rB c] (rI r):=by
 unfold JR at h
 refine mF func45 ntmps45 R λn0=>aU<|mA R<|aZ<|aS λK2 c2 E=>aU<|mM R<|xL A8 R<|mM R<|aZ<|Ze<|BK h λo1 A F m=>?_
 have J1:∀(u2:Unit) (i5:NN),o1=.nrm u2→K2 ⟨[],[],(i5 0),54⟩:=by
  intro u2 i5 e
  have h1:=F _ e
  exact c2 _<|zI h1 R id
 refine Zw (λ(I:Int) B=>⟨[(0,qb w),(1,rB c),(7,rL w),(8,rI I)],[],(B 0),54⟩) (AH [n0]) A wk ?_
 intro I B v1 J j
 have h2:LM w c I=some v1:=J;unfold LM at h2
 refine aU<|xS R<|aZ<|aT λc6=>cI R h2 (λM=>?_) λM=>?_
 ·refine Zc<|c6 _<|aT λc7=>Ze<|aU<|mM R<|mA R<|aZ<|aT λc9=>aU<|mM R<|mM R<|AE M λC l h4=>xI A8 R l<|sQ R (BJ R EN iL)<|xV (.str C.Name) BB R<|AE h4 λr1 O h5=>cL (WF<|O) R<|sQ R (A6 R iL)<|aZ<|cI R h5 (λT=>?_) λT=>?_
  ·exact zI (m _<|xH j T) R id
  refine Zc<|c9 _<|aT λU=>aT λV=>aF [0,1,5,7,8] ?_
  refine aR<|mM R<|mM R<|xI A8 R l<|sQ R (BJ R II iL)<|xV (.str C.Value) BB R<|AE T λr2 X h7=>cL (Vh<|X) R<|sQ R (A6 R iL)<|mM R<|vM R<|vM R<|vQ R (BA R A8.slice (iR R) (iR R) (λ_=>R) λ_=>l)<|vQ R (BJ R II<|iR R)<|vQ R (Bs (d:=.str C.Value) R BB (iR R) R)<|vQ R (D2 R (iR R) iL)<|vQ R (AN R<|iR R)<|wQ R (AN R iL)<|wQ R (A6 R<|iR R)<|vQ R (Cm R (iR R)<|iR R)<|xN R<|aZ<|V _<|cI R h7 (λZ=>?_) λZ=>?_
  ·exact zI (m _<|xH j Z) R id
  refine Zc<|U _<|aT λa0=>aF [0,1,5,7,8] ?_
  refine ZA BY (by kernel_rfl) ?_
  refine qP R (AN R iL)<|qP R (BU R iL iL)<|qP R (AN R iL)<|qO R (AN R iL)<|qO R (AN R iL)<|AE Z λx5 a1 h9=>qO R (CJ R (iR R) iL<|Ae a1)<|AE h9 λx6 a2 a6=>qO R (BA R A8.slice (iR R) (iR R) (λ_=>R)<|Ae a2)<|qO R (BJ R EN<|iR R)<|qO R (Bs (d:=.str x6.Name) R BB (iR R) R)<|qO R (AN R iL)<|qO R (AN R iL)<|qO R (BA R A8.slice (iR R) (iR R) (λ_=>R) λ_=>l)<|qO R (BJ R EN<|iR R)<|qO R (Bs (d:=.str C.Name) R BB (iR R) R)<|qO R (Tw R (iR R)<|iR R)<|qP R (Bb R iL<|iR R)<|AQ.nil<|a0 _<|cI R a6 (λq=>?_) λq=>?_
  ·exact zI (m _<|xH j q) R id
  exact Zc<|c7 _<|aR<|AE q λx7 a7 a8=>xA R a7<|mM R<|Zh<|Zt a8 (AH [(B 0)]) wk
 exact Zm<|E _ _ wk<|J1 _ (AH [(B 0)])<|xH j M
theorem Su{k r}(h:Kc k=some r):AX prog 46 [rI k] (rB r):=by
 unfold Kc at h
 exact mF func46 ntmps46 R λj=>aU<|mA R<|aZ<|aU<|mM R<|xQ R<|mM R<|vM R<|vQ R (A5 R (iR R) iL)<|xO R<|mM R<|vM R<|vQ R (A5 R (iR R) iL)<|xO R<|mM R<|vM R<|vQ R (A5 R (iR R) iL)<|xO R<|mA R<|aZ<|Zi<|yB h R
theorem jy{k r}(h:O4 k=some r):AX prog 47 [rI k] (rB r):=by
 unfold O4 at h
 exact mF func47 ntmps47 R λj=>aU<|mA R<|aZ<|aU<|mM R<|xQ R<|mM R<|vM R<|vQ R (A5 R (iR R) iL)<|xO R<|mA R<|aZ<|Zi<|yB h R
theorem dD{j r}(h:Mn j=some r):AX prog 48 (Qt j) (rB r):=by
 unfold Mn at h
 exact mF func48 ntmps48 R λl=>aU<|sS R (A4 (cs:=(By j)) 1 R iL R R)<|mA R<|aZ<|aU<|lF Fc AI R R<|xQ R<|mM R<|vF Fp AI R R<|vQ R (A5 R (iR R) iL)<|xN R<|mM R<|vF Df Dr R R<|vQ R (DP R Bt.slice<|iR R)<|vQ R (A5 R (iR R) iL)<|xN R<|mM R<|vF Dk Dx R R<|vQ R (DP R CQ.slice<|iR R)<|vQ R (A5 R (iR R) iL)<|xN R<|mA R<|aZ<|Zi<|yB h R
theorem WE{k r}(h:MC k=some r):AX prog 49 [rI k] (rB r):=by
 unfold MC at h
 exact mF func49 ntmps49 R λj=>aU<|mA R<|aZ<|aU<|mM R<|xQ R<|mM R<|vM R<|vQ R (A5 R (iR R) iL)<|xO R<|mA R<|aZ<|Zi<|yB h R
theorem ed{k r}(h:Pq k=some r):AX prog 50 [rI k] (rB r):=by
 unfold Pq at h
 exact mF func50 ntmps50 R λj=>aU<|mA R<|aZ<|aU<|mM R<|xQ R<|mM R<|vM R<|vQ R (A5 R (iR R) iL)<|xO R<|mM R<|vM R<|vQ R (A5 R (iR R) iL)<|xO R<|mA R<|aZ<|Zi<|yB h R
theorem Vq{q r}(h:KC q=some r):AX prog 124 [rI q] (rB r):=by
 unfold KC at h
 exact mF func124 ntmps124 R λC=>aU<|mA R<|aZ<|aU<|mM R<|xQ R<|mM R<|vM R<|vQ R (A5 R (iR R) iL)<|xO R<|mM R<|vM R<|AE h λE j w=>vL (λhg=>DF<|Ae j hg) R<|xO R<|mM R<|vM R<|AE w λF l A=>vL (λhg=>DF<|Ae l hg) R<|xO R<|mM R<|vM R<|AE A λI m B=>vL (λhg=>DF<|Ae m hg) R<|xO R<|mA R<|aZ<|Zi<|yB B R
theorem lG{j r}(h:N8 j=some r):AX prog 88 (VH j) (rI r):=by
 unfold N8 at h
 refine mF func88 ntmps88 R λT=>aU<|sS R (A4 (cs:=(B9 j)) 1 R iL R R)<|mA R<|aZ<|aT λB=>aU<|lF Fh AI R R<|xQ R<|mM R<|vF DU AI R R<|vQ R (A5 R (iR R) iL)<|xN R<|mM R<|vF Fh AI R R<|vQ R (DV R (iR R) iL)<|vQ R (AN R<|iR R)<|wQ R (fB R DU iL fR R)<|wQ R (Ab (a:=rI j.Ref) R AI (iR R) R R)<|wQ R (DV R (iR R) iL)<|vQ R (Bb R (iR R)<|iR R)<|xO R<|aZ<|cI R h (λl=>?_) λl=>?_
 ·exact zI l R id
 refine Zc<|B _<|aT λC=>aT λE=>aG [1] [1] ?_
 refine aR<|lF Fh AI R R<|xU R<|mM R<|vF Fh AI R R<|AE l λU m F=>vL (λhg=>Vq<|Ae m hg) R<|vQ R (A6 R<|iR R)<|xN R<|mM R<|vF DU AI R R<|vQ R (DV R (iR R) iL)<|vQ R (AN R<|iR R)<|wQ R (fB R DU iL fR R)<|wQ R (Ab (a:=rI j.Ref) R AI (iR R) R R)<|AE F λI q J=>AO.stepW (.two R R R) R R (EJ (r:=rB I) (caps:=[]) (bs:=[rI j.Ref,rI 1,rI 1073741824]) R iL R ⟨⟨_,(iR R),.d R⟩,⟨_,iL,.d R⟩,⟨_,iL,.d R⟩,Za⟩ (λhg=>DF<|Ae q hg) R)<|wQ R (A6 R<|iR R)<|vQ R (Bb R (iR R)<|iR R)<|xO R<|aZ<|E _<|cI R J (λw=>?_) λw=>?_
 ·exact zI w R id
 refine Zc<|C _<|aT λM=>aG [1] [1] ?_
 exact aR<|lF Nf CP R R<|AE w λV A O=>cL (Sv<|A) R<|mA R<|aZ<|M _<|Zi<|yI O R
theorem YW{m a r}(h:Ib m a=some r):AX prog 51 [qe m,rB a] (rI r):=by
 unfold Ib at h
 refine mF func51 ntmps51 R λn0=>aU<|mA R<|aZ<|aS λK2 c2 C=>aU<|mM R<|xL Bx R<|mM R<|aZ<|Ze<|BK h λo1 q E w=>?_
 have J1:∀(u2:Unit) (i5:NN),o1=.nrm u2→K2 ⟨[(0,qe m),(1,rB a)],[],(i5 0),47⟩:=by
  intro u2 i5 e
  have h1:=E _ e
  refine c2 _<|aT λc4=>aU<|mM R<|mM R<|vM R<|vQ R (DP R Bx.slice<|iR R)<|vQ R (A5 R (iR R) iL)<|vQ R (AN R<|iR R)<|wQ R (AN R iL)<|wQ R (AN R iL)<|wQ R (DP R Bx.slice<|iR R)<|AE h1 λx4 F h2=>wQ R (CJ R (iR R) iL<|Ae F)<|AE h2 λx5 I h3=>wQ R (BA R Bx.slice (iR R) (iR R) (λ_=>R)<|Ae I)<|wQ R (BJ R Fh<|iR R)<|wQ R (Bs (d:=.int .i64 x5.Char) R AI (iR R) R)<|wQ R (DV R (iR R) iL)<|vQ R (Cm R (iR R)<|iR R)<|xN R<|aZ<|cI R h3 (λJ=>?_) λJ=>?_
  ·exact zI J R id
  exact Zc<|c4 _<|zI J R id
 refine Zw (λ(M:Int) B=>⟨[(0,qe m),(1,rB a),(8,rL m),(9,rI M)],[],(B 0),47⟩) (AH [n0]) q wk ?_
 intro M B v1 O j
 have h5:JS m a M=some v1:=O;unfold JS at h5
 refine aU<|xS R<|aZ<|aT λc9=>cI R h5 (λT=>?_) λT=>?_
 ·refine Zc<|c9 _<|aT λU=>Ze<|aU<|mM R<|mA R<|aZ<|aT λV=>aU<|mM R<|mM R<|AE T λx6 A h7=>xI Bx R A<|xB ((B9 x6)) Hc R<|AE h7 λe1 X h8=>cL (lG<|X) R<|mA R<|aZ<|aU<|mM R<|xU R<|aZ<|cI R h8 (λZ=>?_) λZ=>?_
  ·refine aT λa0=>aF [6] ?_
   exact aR<|mM R<|mA R<|aZ<|a0 _<|Zi<|yI (w _<|xH j Z) R
  refine Zc<|V _<|aT λa1=>aF [0,1,5,8,9] ?_
  refine aR<|mM R<|sQ R (A6 R iL)<|mM R<|vM R<|vM R<|vQ R (BA R Bx.slice (iR R) (iR R) (λ_=>R) λ_=>A)<|vQ R (BJ R Fh<|iR R)<|vQ R (Bs (d:=.int .i64 x6.Char) R AI (iR R) R)<|vQ R (DV R (iR R) iL)<|xN R<|aZ<|a1 _<|cI R Z (λl=>?_) λl=>?_
  ·exact zI (w _<|xH j l) R id
  exact Zc<|U _<|aR<|AE l λx7 a2 a6=>xA R a2<|mM R<|Zh<|Zt a6 (AH [(B 0)]) wk
 exact Zm<|C _ _ wk<|J1 _ (AH [(B 0)])<|xH j T
theorem dw{j r}(h:Px j=some r):AX prog 151 [rS j] (rB r):=by
 unfold Px at h
 exact mU jf R R R ⟨_,func151,R,R⟩ h
theorem Xx{l r}(h:OD l=some r):AX prog 125 [rS l] (rB r):=by
 unfold OD at h
 refine mF func125 ntmps125 R λE=>aU<|mA R<|aZ<|aT λc2=>aU<|mM R<|AE h λr1 F h1=>cL (dw<|F) R<|sQ R (A6 R iL)<|aZ<|cI R h1 (λI=>?_) λI=>?_
 ·exact zB I R id
 refine Zc<|c2 _<|aS λK5 c5 J=>aU<|mM R<|sS R (Xl 9 R underlying9 iL)<|aZ<|Ze<|BK I λo1 m M O=>?_
 have J1:∀(u2:Unit) (i5:NN),o1=.nrm u2→K5 ⟨[],[],(i5 0),21⟩:=by
  intro u2 i5 e
  have h3:=M _ e
  exact c5 _<|zB h3 R id
 refine Zw (λ(B:(Nat)) C=>⟨[(9,.ptr 9 E 0 0)],[(9,some<|.it E l B)],(C 0),21⟩) (AH [(E+1)]) m wk ?_
 intro B C v1 T q
 have U:E2 l B=some v1:=T;unfold E2 at U
 refine aT λc8=>AW.split (decide<|B<l.length) (λj=>?_) λj=>?_
 ·have V:=Dz j U
  refine aR<|sS R (ep R iL R λ_=>j)<|xX R<|aZ<|c8 _<|aT λc9=>aC R (λw=>?_) λw=>by cases w
  refine Zc<|c9 _<|Ze<|aU<|xX R<|mA R<|aZ<|aU<|mM R<|xQ R<|mM R<|vM R<|vQ R (Dw R underlying21 underlying3<|iR R)<|AE V λr2 X h6=>vL (λhg=>Vq<|Ae X hg) R<|vQ R (A6 R<|iR R)<|xO R<|aZ<|cI R h6 (λZ=>?_) λZ=>?_
  ·exact zB (O _<|xH q Z) R id
  exact Zc<|Zt Z (AH [(C 0)]) wk
 ·have V:=D6 j U
  exact aR<|sS R (Yx R iL R λ_=>j)<|xX R<|aZ<|c8 _<|aT λa0=>aC R (λA=>by cases A) λA=>Zm<|J _ _ wk<|J1 _ (AH [(C 0)])<|xH q V
theorem fY{j r}(h:NF j=some r):AX prog 126 (UC j) (rB r):=by
 unfold NF at h
 exact mF func126 ntmps126 R λl=>aU<|sS R (A4 (cs:=(BR j)) 1 R iL R R)<|mA R<|aZ<|aU<|lF Gy BB R R<|sQ R (E5 R iL iL)<|mM R<|vF Dj AI R R<|vQ R (A5 R (iR R) iL)<|xN R<|mM R<|vF FY CP R R<|vQ R (DP R A8.slice<|iR R)<|vQ R (A5 R (iR R) iL)<|xN R<|mA R<|aZ<|Zi<|yB h R
theorem da{C b c n r}(h:M5 C b c n=some r):AX prog 89 [qc C,rI b,rI c,rB n] (rI r):=by
 unfold M5 at h
 refine mF func89 ntmps89 R λn0=>aU<|mA R<|aZ<|aS λK2 c2 U=>aU<|mM R<|xL Bt R<|mM R<|aZ<|Ze<|BK h λo1 E V l=>?_
 have J1:∀(u2:Unit) (i5:NN),o1=.nrm u2→K2 ⟨[],[],(i5 0),93⟩:=by
  intro u2 i5 e
  have h1:=V _ e
  exact c2 _<|zI h1 R id
 refine Zw (λ(X:Int) T=>⟨[(0,qc C),(1,rI b),(2,rI c),(3,rB n),(13,rL C),(14,rI X)],[],(T 0),93⟩) (AH [n0]) E wk ?_
 intro X T v1 Z j
 have h2:Mj C b c n X=some v1:=Z;unfold Mj at h2
 refine aU<|xS R<|aZ<|aT λc6=>cI R h2 (λh3=>?_) λh3=>?_
 ·refine Zc<|c6 _<|aT λc7=>Ze<|aU<|mM R<|mA R<|aZ<|aU<|mM R<|mM R<|AE h3 λF a0 h4=>xI Bt R a0<|xB ((BR F)) EO R<|sS R (BD (cs:=HO) 10 R Hx R R)<|Zk R R (A0 (ds:=(BR F)) R Hw iL R iL R R R R)<|aZ<|aT λa1=>aT λa2=>aR<|lF EP AI R R<|mM R<|AE h4 λx5 a6 h5=>sQ R (CJ R iL iL λ_=>a6)<|AE h5 λr1 a7 h6=>cL (DF<|a7) R<|sQ R (A6 R iL)<|mM R<|vF Ef AI R R<|vM R<|AE h6 λx6 a8 h7=>vQ R (CJ R (iR R) iL<|Ae a8)<|AE h7 λr2 aa h8=>vL (λhg=>DF<|Ae aa hg) R<|vQ R (A6 R<|iR R)<|xO R<|mM R<|vF Dj AI R R<|AE h8 λr3 ab h9=>vL (λhg=>DF<|Ae ab hg) R<|vQ R (A6 R<|iR R)<|xO R<|aZ<|a2 _<|cI R h9 (λm=>?_) λm=>?_
  ·exact zI (l _<|xH j m) R id
  refine Zc<|a1 _<|aT λac=>aT λad=>aG [0,1,2,3,9,10,13,14] [10] ?_
  refine aR<|lF Gy BB R R<|AE m λr4 ae af=>cL (Xx<|ae) R<|sQ R (A6 R iL)<|aZ<|ad _<|cI R af (λq=>?_) λq=>?_
  ·exact zI (l _<|xH j q) R id
  refine Zc<|ac _<|aT λag=>aU<|lF FY CP R R<|AE q λe1 ah ai=>cL (Sv<|ah) R<|mA R<|aZ<|aU<|mM R<|xU R<|aZ<|cI R ai (λw=>?_) λw=>?_
  ·refine aT λaj=>aF [11] ?_
   exact aR<|mM R<|mA R<|aZ<|aj _<|Zi<|yI (l _<|xH j w) R
  refine Zc<|ag _<|aT λak=>aT λal=>aG [0,1,2,3,9,10,13,14] [10] ?_
  refine aR<|mM R<|sQ R (A6 R iL)<|mM R<|vQ R (EK R EO iL R R)<|AE w λr5 an ao=>vL (λhg=>fY<|Ae an hg) R<|xN R<|aZ<|al _<|cI R ao (λA=>?_) λA=>?_
  ·exact zI (l _<|xH j A) R id
  refine Zc<|ak _<|aT λaq=>?_
  refine ZA BY (by kernel_rfl) ?_
  refine qP R (AN R iL)<|qP R (BU R iL iL)<|qP R (AN R iL)<|qO R (fB R EP iL fR R)<|qO R (Ab (a:=rI F.Row) R AI (iR R) R R)<|qO R (AN R iL)<|qO R (AN R iL)<|AE A λx7 I ar=>qO R (CJ R (iR R) iL<|Ae I)<|AE ar λx8 J au=>qO R (BA R Bt.slice (iR R) (iR R) (λ_=>R)<|Ae J)<|qO R (BJ R EP<|iR R)<|qO R (Bs (d:=.int .i64 x8.Row) R AI (iR R) R)<|qO R (B1 R (iR R)<|iR R)<|qO R (AN R<|iR R)<|qT R (fB R EP iL fR R)<|qT R (Ab (a:=rI F.Row) R AI (iR R) R R)<|qT R (AN R iL)<|qT R (AN R iL)<|qT R (CJ R (iR R) iL λh=>Ae I (pU.1 h).1)<|qT R (BA R Bt.slice (iR R) (iR R) (λ_=>R) λh=>Ae J (pU.1 h).1)<|qT R (BJ R EP<|iR R)<|qT R (Bs (d:=.int .i64 x8.Row) R AI (iR R) R)<|qT R (A5 R (iR R)<|iR R)<|qT R (AN R<|iR R)<|qT R (fB R Ef iL fR R)<|qT R (Ab (a:=rI F.Col) R AI (iR R) R R)<|qT R (AN R iL)<|qT R (AN R iL)<|AE au λx9 av aw=>qT R (CJ R (iR R) iL<|Ae av)<|AE aw λax M ay=>qT R (BA R Bt.slice (iR R) (iR R) (λ_=>R)<|Ae M)<|qT R (BJ R Ef<|iR R)<|qT R (Bs (d:=.int .i64 ax.Col) R AI (iR R) R)<|qT R (En R (iR R)<|iR R)<|qT R (Bb R (iR R)<|iR R)<|qO R (Cm R (iR R)<|iR R)<|qP R (Bb R iL<|iR R)<|AQ.nil<|aq _<|cI R ay (λB=>?_) λB=>?_
  ·exact zI (l _<|xH j B) R id
  refine Zc<|c7 _<|aF [0,1,2,3,13,14] ?_
  exact aR<|AE B λb0 O az=>xA R O<|mM R<|Zh<|Zt az (AH [((T 0)+1)]) wk
 exact Zm<|U _ _ wk<|J1 _ (AH [(T 0)])<|xH j h3
theorem lO{j a c r}(h:Mm j a c=some r):AX prog 90 [.agg<|A3 j,rI a,rI c] (rB r):=by
 unfold Mm at h
 exact mF func90 ntmps90 R λZ=>aU<|sS R (A4 (cs:=(A3 j)) 3 R iL R R)<|mA R<|aZ<|aT λF=>aR<|lF CY AI R R<|mM R<|AE h λx1 l I=>sQ R (CJ R iL iL λ_=>l)<|AE I λr2 m J=>cL (DF<|m) R<|mM R<|vF DB AI R R<|vM R<|AE J λx2 q M=>vQ R (CJ R (iR R) iL<|Ae q)<|AE M λr3 w O=>vL (λhg=>DF<|Ae w hg) R<|xN R<|mM R<|vF GR AI R R<|vM R<|vF CY AI R R<|AE O λx3 A T=>vQ R (CJ R (iR R) (iR R)<|Ae A)<|AE T λr4 B U=>vL (λhg=>DF<|Ae B hg) R<|xN R<|mM R<|vF F4 AI R R<|vM R<|vF DB AI R R<|AE U λx4 C V=>vQ R (CJ R (iR R) (iR R)<|Ae C)<|AE V λr5 E X=>vL (λhg=>DF<|Ae E hg) R<|xN R<|mA R<|aZ<|F _<|Zi<|yB X R
theorem ff{j l r}(h:Nl j l=some r):AX prog 91 [.agg<|A3 j,.agg<|A3 l] (rB r):=by
 unfold Nl at h
 refine mF func91 ntmps91 R λM=>aU<|sS R (A4 (cs:=(A3 j)) 2 R iL R R)<|sS R (A4 (cs:=(A3 l)) 3 R iL R R)<|mA R<|aZ<|aT λB=>?_
 refine ZA BY (by kernel_rfl) ?_
 refine qP R (fB R CY iL fR R)<|qP R (Ab (a:=rI j.Row) R AI iL R R)<|qP R (fB R CY iL fR R)<|qP R (Ab (a:=rI l.Row) R AI iL R R)<|qP R (Tf R iL iL)<|qP R (fB R DB iL fR R)<|qP R (Ab (a:=rI j.Col) R AI iL R R)<|qP R (fB R DB iL fR R)<|qP R (Ab (a:=rI l.Col) R AI iL R R)<|qP R (Tf R iL iL)<|qP R (EI R iL)<|qP R (EI R iL)<|AQ.nil<|B _<|aT λC=>aG [2,3,5,6] [2,3] ?_
 exact aR<|mM R<|lF CY AI R R<|lF GR AI R R<|AE h λO m E=>xA R m<|lF CY AI R R<|lF GR AI R R<|AE E λT q F=>xA R q<|sQ R (U9 R iL iL)<|xS R<|mM R<|vM R<|vF DB AI R R<|vF F4 AI R R<|AE F λU w I=>vQ R (JY R (iR R) (iR R)<|Ae w)<|vF DB AI R R<|vF F4 AI R R<|AE I λV A J=>vQ R (JY R (iR R) (iR R)<|Ae A)<|vQ R (U9 R (iR R)<|iR R)<|vQ R (B1 R (iR R)<|iR R)<|xN R<|mA R<|aZ<|C _<|Zi<|yB J R
theorem gQ{j r}(h:Nh j=some r):AX prog 52 (Qt j) (rI r):=by
 unfold Nh at h
 refine mF func52 ntmps52 R λA=>aU<|sS R (A4 (cs:=(By j)) 1 R iL R R)<|mA R<|aZ<|aT λc2=>aU<|lF Fc AI R R<|AE h λr1 aa h1=>cL (DF<|aa) R<|sQ R (A6 R iL)<|mM R<|vF Fp AI R R<|AE h1 λr2 ab h2=>vL (λhg=>DF<|Ae ab hg) R<|vQ R (A6 R<|iR R)<|xO R<|aZ<|cI R h2 (λh3=>?_) λh3=>?_
 ·exact zI h3 R id
 refine Zc<|c2 _<|aT λc5=>aT λc6=>aG [1] [1] ?_
 refine aR<|lF Df Dr R R<|lF Fc AI R R<|lF Fp AI R R<|AE h3 λe1 ac h4=>cL (da<|ac) R<|mA R<|aZ<|c6 _<|aU<|mM R<|xU R<|aZ<|cI R h4 (λh5=>?_) λh5=>?_
 ·refine aT λc8=>aF [3] ?_
  exact aR<|mM R<|mA R<|aZ<|c8 _<|Zi<|yI h5 R
 refine Zc<|c5 _<|aS λK9 c9 ad=>aT λae=>aG [1] [1] ?_
 refine aR<|lF Dk Dx R R<|xL CQ R<|mM R<|aZ<|ae _<|Ze<|BK h5 λo1 U af w=>?_
 have J1:∀(u2:Unit) (i5:NN),o1=.nrm u2→K9 ⟨[],[],(i5 0),104⟩:=by
  intro u2 i5 e
  have h6:=af _ e
  exact c9 _<|zI h6 R id
 refine Zw (λ(B:Int) T=>⟨[(1,.ptr 1 A 0 0),(29,rL j.Merges),(30,rI B)],[(1,some<|.box A 44<|By j)],(T 0),104⟩) (AH [(A+1)]) U wk ?_
 intro B T v1 ag q
 have h7:Mv j B=some v1:=ag;unfold Mv at h7
 refine aU<|xS R<|aZ<|aT λah=>cI R h7 (λh8=>?_) λh8=>?_
 ·refine Zc<|ah _<|aS λai aj V=>Ze<|aU<|mM R<|mA R<|aZ<|aU<|lF Dk Dx R R<|mM R<|AE h8 λm ak h9=>xI CQ R ak<|xB ((A3 m)) Cp R<|sS R (BD (cs:=FC) 5 R Hq R R)<|Zk R R (A0 (ds:=(A3 m)) R GM iL R iL R R R R)<|aZ<|aT λal=>aU<|xC Cp R<|lF Fc AI R R<|lF Fp AI R R<|AE h9 λr3 an ao=>cL (lO<|an) R<|sQ R (A6 R iL)<|aZ<|cI R ao (λC=>?_) λC=>?_
  ·exact zI (w _<|xH q C) R id
  refine Zc<|al _<|aT λaq=>aT λar=>aG [1,4,5,29,30] [1,5] ?_
  refine aR<|lF GR AI R R<|xQ R<|mM R<|vF F4 AI R R<|vQ R (A5 R (iR R) iL)<|xN R<|aZ<|ar _<|cI R C (λE=>?_) λE=>?_
  ·exact zI (w _<|xH q E) R id
  refine Zc<|aq _<|aT λau=>aT λav=>?_
  refine ZA BY (by kernel_rfl) ?_
  refine qP R (AN R iL)<|qP R (BU R iL iL)<|qP R (AN R iL)<|qO R (fB R CY iL fR R)<|qO R (Ab (a:=rI m.Row) R AI (iR R) R R)<|qO R (fB R Dk iL fR R)<|qO R (Ab (a:=qd j.Merges) R Dx (iR R) R R)<|qO R (AN R iL)<|AE E λx5 X aw=>qO R (CJ R (iR R) iL<|Ae X)<|AE aw λx6 Z ax=>qO R (BA R CQ.slice (iR R) (iR R) (λ_=>R)<|Ae Z)<|qO R (BJ R CY<|iR R)<|qO R (Bs (d:=.int .i64 x6.Row) R AI (iR R) R)<|qO R (B1 R (iR R)<|iR R)<|qO R (AN R<|iR R)<|qT R (fB R CY iL fR R)<|qT R (Ab (a:=rI m.Row) R AI (iR R) R R)<|qT R (fB R Dk iL fR R)<|qT R (Ab (a:=qd j.Merges) R Dx (iR R) R R)<|qT R (AN R iL)<|qT R (CJ R (iR R) iL λh=>Ae X (pU.1 h).1)<|qT R (BA R CQ.slice (iR R) (iR R) (λ_=>R) λh=>Ae Z (pU.1 h).1)<|qT R (BJ R CY<|iR R)<|qT R (Bs (d:=.int .i64 x6.Row) R AI (iR R) R)<|qT R (A5 R (iR R)<|iR R)<|qT R (AN R<|iR R)<|qT R (fB R DB iL fR R)<|qT R (Ab (a:=rI m.Col) R AI (iR R) R R)<|qT R (fB R Dk iL fR R)<|qT R (Ab (a:=qd j.Merges) R Dx (iR R) R R)<|qT R (AN R iL)<|AE ax λx7 ay az=>qT R (CJ R (iR R) iL<|Ae ay)<|AE az λx8 b0 b1=>qT R (BA R CQ.slice (iR R) (iR R) (λ_=>R)<|Ae b0)<|qT R (BJ R DB<|iR R)<|qT R (Bs (d:=.int .i64 x8.Col) R AI (iR R) R)<|qT R (En R (iR R)<|iR R)<|qT R (Bb R (iR R)<|iR R)<|qO R (Cm R (iR R)<|iR R)<|qP R (Bb R iL<|iR R)<|AQ.nil<|av _<|cI R b1 (λF=>?_) λF=>?_
  ·exact zI (w _<|xH q F) R id
  refine Zc<|au _<|aT λb2=>aG [1,4,5,29,30] [1,5] ?_
  refine aR<|mM R<|mM R<|aZ<|b2 _<|Ze<|BK F λo2 a0 b3 b4=>?_
  have J2:∀(u4:Unit) (I:NN),o2=.nrm u4→ai ⟨[(1,.ptr 1 A 0 0),(29,rL j.Merges),(30,rI B)],[(1,some<|.box A 44<|By j)],(I 0),104⟩:=by
   intro u4 I e
   have b5:=b3 _ e
   exact aj _<|aR<|AE b5 λbg a1 b6=>xA R a1<|mM R<|Zh<|Zt b6 (AH [(I 0)]) wk
  refine Zw (λ(J:Int) i8=>⟨[(1,.ptr 1 A 0 0),(5,.ptr 5 (T 0) 0 0),(29,rL j.Merges),(30,rI B),(91,rI B),(92,rI J)],[(1,some<|.box A 44<|By j),(5,some<|.box (T 0) 86<|A3 m)],(i8 0),104⟩) (AH [((T 0)+1)]) a0 wk ?_
  intro J i8 v2 b7 a2
  have a6:MD j B m J=some v2:=b7;unfold MD at a6
  refine aU<|xS R<|aZ<|aT λb8=>cI R a6 (λM=>?_) λM=>?_
  ·refine Zc<|b8 _<|aT λb9=>Ze<|aU<|mM R<|mA R<|aZ<|aT λba=>?_
   refine ZA BY (by kernel_rfl) ?_
   refine qP R (EK R Cp iL R R)<|qP R (fB R Dk iL fR R)<|qP R (Ab (a:=qd j.Merges) R Dx iL R R)<|qP R (AN R iL)<|AE M λl a7 bb=>qP R (BA R CQ.slice iL iL (λ_=>R) λ_=>a7)<|qP R (CV (cs:=(A3 l)) R Cp iL R R)<|AE bb λr4 bc bd=>AQ.stepC R R R (r:=rB r4) (caps:=[]) (bs:=[.agg<|A3 m,.agg<|A3 l]) R iL R ⟨⟨_,iL,.g (cs:=[.int .i64 m.Row,.int .i64 m.Col,.int .i64 m.H,.int .i64 m.W]) R R⟩,⟨_,iL,.g (cs:=[.int .i64 l.Row,.int .i64 l.Col,.int .i64 l.H,.int .i64 l.W]) R R⟩,Za⟩ (λ_=>ff<|bc) R<|AQ.nil<|ba _<|cI R bd (λO=>?_) λO=>?_
   ·refine aT λbe=>aF [] ?_
    exact aR<|mA R<|aZ<|be _<|Zi<|yI (w _<|q _ (Zf<|b4 _<|xH a2 O).symm) R
   refine Zc<|b9 _<|aG [1,5,29,30,91,92] [1,5] ?_
   exact aR<|AE O λbh a8 bf=>xA R a8<|mM R<|Zh<|Zt bf (AH [(i8 0)]) wk
  exact Zm<|V _ _ wk<|J2 _ (AH [(i8 0)])<|xH a2 M
 exact Zm<|ad _ _ wk<|J1 _ (AH [(T 0)])<|xH q h8
theorem jT{k j r}(h:OG k j=some r):AX prog 53 [rI k,qc j] (rI r):=by
 unfold OG at h
 refine mF func53 ntmps53 R λZ=>aU<|mA R<|aZ<|aS λK2 c2 A=>aU<|mM R<|xL Bt R<|mM R<|aZ<|Ze<|BK h λo1 l B C=>?_
 have J1:∀(T:Unit) (U:NN),o1=.nrm T→K2 ⟨[],[],(U 0),43⟩:=by
  intro T U e
  have h1:=B _ e
  exact c2 _<|zI h1 R id
 refine Zw (λ(E:Int) w=>⟨[(0,rI k),(1,qc j),(7,rL j),(8,rI E)],[],(w 0),43⟩) (AH [Z]) l wk ?_
 intro E w v1 F m
 have V:Nw k j E=some v1:=F;unfold Nw at V
 refine aU<|xS R<|aZ<|aT λc6=>cI R V (λI=>?_) λI=>?_
 ·refine Zc<|c6 _<|aT λc7=>Ze<|aU<|mM R<|mA R<|aZ<|aT λc9=>aR<|mM R<|xQ R<|mM R<|vM R<|vM R<|AE I λX q h4=>vQ R (BA R Bt.slice (iR R) (iR R) (λ_=>R)<|Ae q)<|vQ R (BJ R Gy<|iR R)<|vQ R (Bs (d:=.str X.Text) R BB (iR R) R)<|vQ R (D2 R (iR R) iL)<|vQ R (AN R<|iR R)<|wQ R (AN R iL)<|wQ R (AN R iL)<|wQ R (BA R Bt.slice (iR R) (iR R) (λ_=>R) λh=>Ae q (pU.1 h).1)<|wQ R (BJ R FY<|iR R)<|wQ R (Bs (d:=.sl<|X.Attrs.map AG.row) R CP (iR R) R)<|wQ R (DP R A8.slice<|iR R)<|wQ R (BU R (iR R) iL)<|vQ R (Cm R (iR R)<|iR R)<|xN R<|mM R<|vM R<|vQ R (A5 R (iR R) iL)<|vQ R (AN R<|iR R)<|wQ R (AN R iL)<|wQ R (AN R iL)<|AE h4 λx5 J h5=>wQ R (BA R Bt.slice (iR R) (iR R) (λ_=>R)<|Ae J)<|wQ R (BJ R Dj<|iR R)<|wQ R (Bs (d:=.int .i64 x5.Ref) R AI (iR R) R)<|wQ R (DV R (iR R) iL)<|vQ R (Bb R (iR R)<|iR R)<|xO R<|aZ<|c9 _<|cI R h5 (λM=>?_) λM=>?_
  ·exact zI (C _<|xH m M) R id
  refine Zc<|c7 _<|aF [0,1,7,8] ?_
  exact aR<|AE M λx6 O h7=>xA R O<|mM R<|Zh<|Zt h7 (AH [(w 0)]) wk
 exact Zm<|A _ _ wk<|J1 _ (AH [(w 0)])<|xH m I
theorem cK{l r}(h:OE l=some r):AX prog 92 [rS l] (rB r):=by
 unfold OE at h
 refine mF func92 ntmps92 R λZ=>aU<|mA R<|aZ<|aS λK2 c2 B=>aU<|mM R<|sQ R (DT R underlying9 iL)<|mM R<|aZ<|Ze<|BK h λo1 m C E=>?_
 have J1:∀(U:Unit) (V:NN),o1=.nrm U→K2 ⟨[(0,rS l)],[],(V 0),36⟩:=by
  intro U V e
  have h1:=C _ e
  exact c2 _<|aU<|mM R<|sQ R (DT R underlying9 iL)<|sQ R (Cd R iL iL)<|mM R<|vM R<|vQ R (DT R underlying9<|iR R)<|vQ R (En R (iR R) iL)<|xN R<|mM R<|vM R<|vM R<|vQ R (DT R underlying9<|iR R)<|AE h1 λx4 F h2=>vQ R (CJ R (iR R) iL<|Ae F)<|AE h2 λa0 q h3=>vQ R (CM R underlying9 (iR R) (iR R)<|Ae q)<|vQ R (DV R (iR R) iL)<|xN R<|mA R<|aZ<|Zi<|yB h3 R
 refine Zw (λ(I:Int) A=>⟨[(0,rS l),(5,rL l),(6,rI I)],[],(A 0),36⟩) (AH [Z]) m wk ?_
 intro I A v1 J w
 have X:Ja l I=some v1:=J;unfold Ja at X
 refine aU<|xS R<|aZ<|aT λc6=>cI R X (λM=>?_) λM=>?_
 ·refine Zc<|c6 _<|aT λc7=>Ze<|aU<|mM R<|mA R<|aZ<|aU<|mM R<|mM R<|AE M λa1 j h6=>sQ R (CM R underlying9 iL iL λ_=>j)<|xS R<|mM R<|vM R<|vM R<|vQ R (CM R underlying9 (iR R) (iR R) λ_=>j)<|vQ R (BU R (iR R) iL)<|xO R<|aZ<|cI R h6 (λO=>?_) λO=>?_
  ·exact zB (E _<|xH w O) R id
  refine Zc<|c7 _<|aF [0,5,6] ?_
  exact aR<|AE O λx5 T h8=>xA R T<|mM R<|Zh<|Zt h8 (AH [(A 0)]) wk
 exact Zm<|B _ _ wk<|J1 _ (AH [(A 0)])<|xH w M
theorem gq{j l r}(h:LS j l=some r):AX prog 93 [.agg<|BW j,.agg<|BW l] (rB r):=by
 unfold LS at h
 exact mF func93 ntmps93 R λm=>aU<|sS R (A4 (cs:=(BW j)) 2 R iL R R)<|sS R (A4 (cs:=(BW l)) 3 R iL R R)<|mA R<|aZ<|aU<|lF HC AI R R<|lF HC AI R R<|xS R<|mM R<|vF HC AI R R<|vF HC AI R R<|vQ R (A5 R (iR R)<|iR R)<|vQ R (AN R<|iR R)<|wQ R (fB R Jv iL fR R)<|wQ R (Ab (a:=rI j.Site) R AI (iR R) R R)<|wQ R (fB R Jv iL fR R)<|wQ R (Ab (a:=rI l.Site) R AI (iR R) R R)<|wQ R (B1 R (iR R)<|iR R)<|vQ R (Bb R (iR R)<|iR R)<|xO R<|mA R<|aZ<|Zi<|yB h R
theorem Y6{B r}(h:N3 B=some r):AX prog 54 [qf B] (rI r):=by
 unfold N3 at h
 refine mF func54 ntmps54 R λn0=>aU<|mA R<|aZ<|aS λK2 c2 a1=>aU<|mM R<|xL Da R<|mM R<|aZ<|Ze<|BK h λo1 X a2 l=>?_
 have J1:∀(u2:Unit) (i5:NN),o1=.nrm u2→K2 ⟨[],[],(i5 0),91⟩:=by
  intro u2 i5 e
  have h1:=a2 _ e
  exact c2 _<|zI h1 R id
 refine Zw (λ(Z:Int) C=>⟨[(0,qf B),(6,rL B),(7,rI Z)],[],(C 0),91⟩) (AH [n0]) X wk ?_
 intro Z C v1 a6 j
 have h2:L3 B Z=some v1:=a6;unfold L3 at h2
 refine aU<|xS R<|aZ<|aT λc6=>cI R h2 (λh3=>?_) λh3=>?_
 ·refine Zc<|c6 _<|aT λc7=>Ze<|aU<|mM R<|mA R<|aZ<|aU<|mM R<|mM R<|AE h3 λq a7 h4=>xI Da R a7<|xB ((BW q)) GG R<|sS R (BD (cs:=OS) 4 R PL R R)<|Zk R R (A0 (ds:=(BW q)) R P7 iL R iL R R R R)<|aZ<|aT λa8=>aU<|lF FO AI R R<|xU R<|mM R<|vF FO AI R R<|vQ R (DV R (iR R) iL)<|xN R<|aZ<|cI R h4 (λh5=>?_) λh5=>?_
  ·exact zI (l _<|xH j h5) R id
  refine Zc<|a8 _<|aT λaa=>aT λab=>aG [0,3,4,6,7] [4] ?_
  refine aR<|lF HC AI R R<|AE h5 λr1 ac h6=>cL (DF<|ac) R<|sQ R (A6 R iL)<|mM R<|vF Jv AI R R<|AE h6 λr2 ad h7=>vL (λhg=>DF<|Ae ad hg) R<|vQ R (A6 R<|iR R)<|xO R<|mM R<|vF Ex AI R R<|AE h7 λr3 ae h8=>vL (λhg=>DF<|Ae ae hg) R<|vQ R (A6 R<|iR R)<|xO R<|aZ<|ab _<|cI R h8 (λh9=>?_) λh9=>?_
  ·exact zI (l _<|xH j h9) R id
  refine Zc<|aa _<|aS λaf ag A=>aU<|lF FO AI R R<|xQ R<|aZ<|BK h9 λp1 a0 ah m=>?_
  have J2:∀(u3:Unit) (i6:NN),p1=.nrm u3→af ⟨[(0,qf B),(3,rI Z),(4,.ptr 4 (C 0) 0 0),(6,rL B),(7,rI Z)],[(4,some<|.box (C 0) 129<|BW q)],(i6 0),91⟩:=by
   intro u3 i6 e
   have ai:=ah _ e
   refine ag _<|aT λaj=>?_
   refine ZA BY (by kernel_rfl) ?_
   refine qP R (AN R iL)<|qP R (BU R iL iL)<|qP R (AN R iL)<|qO R (AN R iL)<|qO R (AN R iL)<|AE ai λx5 ak al=>qO R (CJ R (iR R) iL<|Ae ak)<|AE al λw an ao=>qO R (BA R Da.slice (iR R) (iR R) (λ_=>R)<|Ae an)<|qO R (CV (cs:=(BW w)) R GG (iR R) R R)<|qO R (EK R GG iL R R)<|AE ao λr4 aq ar=>OL (.one R R R) R R (r:=rB r4) (caps:=[]) (bs:=[.agg<|BW w,.agg<|BW q]) R iL R ⟨⟨_,(iR R),.g (cs:=[.int .i64 w.Clock,.int .i64 w.Site,.int .i64 w.Kind,.int .i64 w.Item,.int .i64 w.Parent,.str w.Place,.str w.Name,.str w.Value]) R R⟩,⟨_,(iR R),.g (cs:=[.int .i64 q.Clock,.int .i64 q.Site,.int .i64 q.Kind,.int .i64 q.Item,.int .i64 q.Parent,.str q.Place,.str q.Name,.str q.Value]) R R⟩,Za⟩ (λhg=>gq<|Ae aq hg) R<|qO R (A6 R<|iR R)<|qP R (Bb R iL<|iR R)<|AQ.nil<|aj _<|cI R ar (λE=>?_) λE=>?_
   ·exact zI (l _<|xH j E) R id
   exact Zc<|c7 _<|aR<|AE E λx7 au av=>xA R au<|mM R<|Zh<|Zt av (AH [(i6 0)]) wk
  refine aC R (λF=>?_) λF=>?_
  ·have I:=Dz F a0
   refine aT λaw=>aT λax=>aG [0,3,4,6,7] [4] ?_
   refine aR<|lF Kf BB R R<|sQ R (D2 R iL iL)<|mM R<|vF Ii BB R R<|vQ R (D2 R (iR R) iL)<|xO R<|aZ<|ax _<|cI R I (λJ=>?_) λJ=>?_
   ·refine aT λay=>aF [] ?_
    exact aR<|mA R<|aZ<|ay _<|Zi<|yI (l _<|j _ (Zf<|m _ (Zf J).symm).symm) R
   refine Zc<|aw _<|aT λaz=>aU<|lF Fy AI R R<|AE J λr5 b0 b1=>cL (DF<|b0) R<|sQ R (A6 R iL)<|aZ<|cI R b1 (λM=>?_) λM=>?_
   ·refine aT λb2=>aF [] ?_
    exact aR<|mA R<|aZ<|b2 _<|Zi<|yI (l _<|j _ (Zf<|m _ (Zf M).symm).symm) R
   refine Zc<|az _<|aT λb3=>aG [0,3,4,6,7] [4] ?_
   refine aR<|lF Kv BB R R<|AE M λr6 b4 b5=>cL (cK<|b4) R<|sQ R (A6 R iL)<|aZ<|b3 _<|cI R b5 (λO=>?_) λO=>?_
   ·refine aT λb6=>aF [] ?_
    exact aR<|mA R<|aZ<|b6 _<|Zi<|yI (l _<|j _ (Zf<|m _ (Zf O).symm).symm) R
   exact Zc<|A _ _ wk<|J2 _ (AH [((C 0)+1)]) (Zf O).symm
  ·have I:=D6 F a0
   refine aT λb7=>aT λb8=>aG [0,3,4,6,7] [4] ?_
   refine aR<|lF Fy AI R R<|xU R<|mM R<|vF Kv BB R R<|vQ R (D2 R (iR R) iL)<|xO R<|aZ<|b8 _<|cI R I (λT=>?_) λT=>?_
   ·refine aT λb9=>aF [] ?_
    exact aR<|mA R<|aZ<|b9 _<|Zi<|yI (l _<|j _ (Zf<|m _ (Zf T).symm).symm) R
   refine Zc<|b7 _<|aT λba=>aU<|lF Kf BB R R<|AE T λr7 bb bc=>cL (WF<|bb) R<|sQ R (A6 R iL)<|aZ<|cI R bc (λU=>?_) λU=>?_
   ·refine aT λbd=>aF [] ?_
    exact aR<|mA R<|aZ<|bd _<|Zi<|yI (l _<|j _ (Zf<|m _ (Zf U).symm).symm) R
   refine Zc<|ba _<|aT λbe=>aG [0,3,4,6,7] [4] ?_
   refine aR<|lF Ii BB R R<|sQ R (D2 R iL iL)<|mM R<|vF Ii BB R R<|AE U λr8 bf bg=>vL (λhg=>Vh<|Ae bf hg) R<|vQ R (A6 R<|iR R)<|xN R<|aZ<|be _<|cI R bg (λV=>?_) λV=>?_
   ·refine aT λbh=>aF [] ?_
    exact aR<|mA R<|aZ<|bh _<|Zi<|yI (l _<|j _ (Zf<|m _ (Zf V).symm).symm) R
   exact Zc<|A _ _ wk<|J2 _ (AH [((C 0)+1)]) (Zf V).symm
 exact Zm<|a1 _ _ wk<|J1 _ (AH [(C 0)])<|xH j h3
theorem jS{n1 r}(h:Mk n1=some r):AX prog 26 (Gc n1) (rI r):=by
 unfold Mk at h
 refine mF func26 ntmps26 R λn0=>aU<|sS R (A4 (cs:=(Ax n1)) 1 R iL R R)<|mA R<|aZ<|aT λc2=>aU<|lF Cn AI R R<|AE h λr1 E h1=>cL (DF<|E) R<|sQ R (A6 R iL)<|aZ<|cI R h1 (λF=>?_) λF=>?_
 ·exact zI F R id
 refine Zc<|c2 _<|aT λc5=>aU<|lF CO AI R R<|AE F λr2 I h3=>cL (DF<|I) R<|sQ R (A6 R iL)<|mM R<|vF Cn AI R R<|vQ R (A5 R (iR R) iL)<|vQ R (AN R<|iR R)<|wQ R (fB R CO iL fR R)<|wQ R (Ab (a:=rI n1.Kind) R AI (iR R) R R)<|wQ R (DV R (iR R) iL)<|vQ R (Bb R (iR R)<|iR R)<|xO R<|mM R<|vF Cn AI R R<|vQ R (DV R (iR R) iL)<|vQ R (AN R<|iR R)<|wQ R (fB R CO iL fR R)<|wQ R (Ab (a:=rI n1.Kind) R AI (iR R) R R)<|wQ R (A5 R (iR R) iL)<|vQ R (Bb R (iR R)<|iR R)<|xO R<|aZ<|cI R h3 (λJ=>?_) λJ=>?_
 ·exact zI J R id
 refine Zc<|c5 _<|aT λc8=>aT λc9=>aG [1] [1] ?_
 refine aR<|lF Lj CP R R<|AE J λe1 M h5=>cL (Sv<|M) R<|mA R<|aZ<|c9 _<|aU<|mM R<|xU R<|aZ<|cI R h5 (λO=>?_) λO=>?_
 ·exact aU<|mM R<|mA R<|aZ<|Zi<|yI O R
 refine Zc<|c8 _<|aU<|lF CO AI R R<|AE O λr3 w h7=>cL (Su<|w) R<|mM R<|vF CO AI R R<|AE h7 λr4 T h8=>vL (λhg=>jy<|Ae T hg) R<|xO R<|mA R<|aZ<|aT λU=>aT λV=>aG [1,4] [1] ?_
 refine aR<|lF ET Ea R R<|xL Bx R<|sQ R (BU R iL iL)<|mM R<|vM R<|vQ R (A6 R<|iR R)<|xN R<|mM R<|vQ R (fB R Ds iL fR R)<|vQ R (Hg (ds:=(By n1.Grid)) R Gb (iR R) R R R)<|AE h8 λr5 X h9=>vL (λhg=>dD<|Ae X hg) R<|vQ R (A6 R<|iR R)<|vQ R (AN R<|iR R)<|wQ R (fB R CO iL fR R)<|wQ R (Ab (a:=rI n1.Kind) R AI (iR R) R R)<|AE h9 λr6 Z a0=>AO.stepW (.two R R R) R R (EJ (r:=rB r6) (caps:=[]) (bs:=[rI n1.Kind]) R iL R ⟨⟨_,(iR R),.d R⟩,Za⟩ (λhg=>WE<|Ae Z hg) R)<|wQ R (A6 R<|iR R)<|vQ R (Bb R (iR R)<|iR R)<|xO R<|mM R<|vF FX GL R R<|vQ R (DP R Da.slice<|iR R)<|vQ R (BU R (iR R) iL)<|vQ R (AN R<|iR R)<|wQ R (fB R CO iL fR R)<|wQ R (Ab (a:=rI n1.Kind) R AI (iR R) R R)<|AE a0 λr7 a1 a2=>AO.stepW (.two R R R) R R (EJ (r:=rB r7) (caps:=[]) (bs:=[rI n1.Kind]) R iL R ⟨⟨_,(iR R),.d R⟩,Za⟩ (λhg=>ed<|Ae a1 hg) R)<|wQ R (A6 R<|iR R)<|vQ R (Bb R (iR R)<|iR R)<|xO R<|aZ<|V _<|cI R a2 (λj=>?_) λj=>?_
 ·exact zI j R id
 refine Zc<|U _<|aT λa6=>aT λa7=>aG [1,4] [1] ?_
 refine aR<|mM R<|aZ<|a7 _<|cI R j (λl=>?_) λl=>?_
 ·refine aT λa8=>?_
  refine ZA BY (by kernel_rfl) ?_
  exact qP R (fB R ET iL fR R)<|qP R (Ab (a:=qe n1.Flow) R Ea iL R R)<|qP R (fB R CO iL fR R)<|qP R (Ab (a:=rI n1.Kind) R AI iL R R)<|AQ.stepC R R R (r:=rB r3) (caps:=[]) (bs:=[rI n1.Kind]) R iL R ⟨⟨_,iL,.d R⟩,Za⟩ (λ_=>Su<|w) R<|AE l λr9 aa ab=>AQ.stepC R R R (r:=rI r9) (caps:=[]) (bs:=[qe n1.Flow,rB r3]) R iL R ⟨⟨_,iL,.d R⟩,⟨_,iL,.d R⟩,Za⟩ (λ_=>YW<|aa) R<|qP R (EI R iL)<|AQ.nil<|a8 _<|Zi<|yI ab R
 refine Zc<|a6 _<|aT λac=>aU<|lF CO AI R R<|AE l λal A ad=>cL (WE<|A) R<|aZ<|cI R ad (λm=>?_) λm=>?_
 ·refine aT λae=>aU<|sQ R (fB R Ds iL fR R)<|sQ R (Hg (ds:=(By n1.Grid)) R Gb iL R R R)<|AE m λe2 af ag=>cL (gQ<|af) R<|mA R<|aZ<|aU<|mM R<|xU R<|aZ<|cI R ag (λq=>?_) λq=>?_
  ·refine aT λah=>aF [5] ?_
   exact aR<|mM R<|mA R<|aZ<|ah _<|Zi<|yI q R
  refine Zc<|ae _<|aT λai=>aG [1] [1] ?_
  exact aR<|lF CO AI R R<|sQ R (fB R Ds iL fR R)<|lF Df Dr R R<|AE q λan B aj=>cL (jT<|B) R<|mA R<|aZ<|ai _<|Zi<|yI aj R
 exact Zc<|ac _<|aU<|lF FX GL R R<|AE m λao C ak=>cL (Y6<|C) R<|mA R<|aZ<|Zi<|yI ak R
theorem kD{n1 r}(h:M0 n1=some r):AX prog 28 (Gc n1) (.r<|.sl<|r.map<|Ad .i64):=by
 unfold M0 at h
 refine mF func28 ntmps28 R λj=>aU<|sS R (A4 (cs:=(Ax n1)) 1 R iL R R)<|mA R<|aZ<|aU<|mA R<|aZ<|aS λK3 c3 a7=>aU<|lF ET Ea R R<|xL Bx R<|mM R<|aZ<|Ze<|BP h λo1 a0 a8=>?_
 have J1:∀(w:List Int) (i5:NN),o1=w→K3 ⟨[(1,.ptr 1 j 0 0),(3,.own 5003<|i5 0)],[(1,some<|.box j 47<|Ax n1),(5003,some<|.arr (i5 0) 3 1<|w.map<|Ad .i64)],(i5 1),56⟩:=by
  intro w i5 e
  have h1:=a8 _ e
  refine c3 _<|aS λK5 c5 aa=>aU<|sQ R (fB R Ds iL fR R)<|lF Df Dr R R<|xL Bt R<|mM R<|aZ<|Ze<|BP h1 λo2 a1 ab=>?_
  have J2:∀(A:List Int) (I:NN),o2=A→K5 ⟨[(3,.own 5003<|I 0)],[(5003,some<|.arr (I 0) 3 1<|A.map<|Ad .i64)],(I 1),56⟩:=by
   intro A I e
   have h2:=ab _ e
   exact c5 _<|aU<|mM R<|mA R<|aZ<|Zi<|Cf (P:=prog) (λ(r:(List Int))=>.r<|.sl<|r.map<|Ad .i64) h2 iL<|.t<|.one<|.own R
  refine CX (λ(x5:Int) (B:List Int) i8=>⟨[(1,.ptr 1 j 0 0),(3,.own 5003<|i8 0),(32,rL n1.Grid.Cells),(33,rI x5)],[(1,some<|.box j 47<|Ax n1),(5003,some<|.arr (i8 0) 3 1<|B.map<|Ad .i64)],(i8 1),56⟩) (AH [(i5 0),(i5 1)]) a1 wk ?_
  intro x5 B i8 v1 ac ad
  have h3:PX n1 x5 B=some v1:=ac;unfold PX at h3
  refine aU<|xS R<|aZ<|aT λc9=>cI R h3 (λh4=>?_) λh4=>?_
  ·refine Zc<|c9 _<|aS λae af O=>Ze<|BP h4 λp1 ag ah=>?_
   have J3:∀(C:List Int) (m:NN),p1=C→ae ⟨[(1,.ptr 1 j 0 0),(3,.own 5003<|m 0),(32,rL n1.Grid.Cells),(33,rI x5)],[(1,some<|.box j 47<|Ax n1),(5003,some<|.arr (m 0) 3 1<|C.map<|Ad .i64)],(m 1),56⟩:=by
    intro C m e
    have h5:=ah _ e
    exact af _<|aR<|AE h5 λx7 ai h6=>xA R ai<|mM R<|Zh<|ZF h6 (AH [(m 0),(m 1)]) wk
   refine aU<|mM R<|mA R<|aZ<|aU<|sQ R (fB R Ds iL fR R)<|lF Df Dr R R<|mM R<|AE ag λx8 a2 h7=>xI Bt R a2<|sQ R (BJ R Dj iL)<|xV (.int .i64 x8.Ref) AI R<|xU R<|aZ<|cI R h7 (λh8=>?_) λh8=>?_
   ·refine aG [1,3,5,32,33] [1,5003] ?_
    exact aR<|mM R<|sQ R (fB R Ds iL fR R)<|lF Df Dr R R<|mM R<|xI Bt R a2<|sQ R (BJ R Dj iL)<|xV (.int .i64 x8.Ref) AI R<|sS R (Bu 52 R B0 (f:=(Ad .i64)) (l:=([x8.Ref]:List Int)) ⟨R,⟨_,iL,R⟩,Za⟩ R (λ_=>R) R)<|AE h8 λaj J h9=>sS R (DL R B0 iL R (.inr<|.inl ⟨_,_,iL,R⟩) J)<|mA R<|Zh<|O _ _ wk<|J3 _ (AH [((i8 1)+1),((i8 1)+2)]) (Zf h9).symm
   exact Zc<|O _ _ wk<|J3 _ (AH [(i8 0),(i8 1)]) (Zf h8).symm
  exact Zm<|aa _ _ wk<|J2 _ (AH [(i8 0),(i8 1)])<|xH ad h4
 refine CX (λ(x2:Int) (E:List Int) F=>⟨[(1,.ptr 1 j 0 0),(3,.own 5003<|F 0),(8,rL n1.Flow),(9,rI x2)],[(1,some<|.box j 47<|Ax n1),(5003,some<|.arr (F 0) 3 1<|E.map<|Ad .i64)],(F 1),56⟩) (AH [(j+1),(j+2)]) a0 (Zx (Zx (G0 3 5003 3 1 (by decide) R)<|by exact Am.cv (e':=[(0,.agg<|Ax n1),(1,.ptr 1 j 0 0),(2,cZ),(3,.own 5003<|j+1),(6,.ptr 1 j 0 3),(7,qe n1.Flow),(8,rL n1.Flow),(9,rI 0)]) (h':=[(1,some<|.box j 47<|Ax n1),(5003,some<|.arr (j+1) 3 1<|([]:List Int).map<|Ad .i64)]) ⟨jL,jL,jL,jL,jL,jL,jL,jL,Za⟩ ⟨.inl R,.inl R,Za⟩ nL) wk) ?_
 intro x2 E F v2 ak al
 have a6:OW n1 x2 E=some v2:=ak;unfold OW at a6
 refine aU<|xS R<|aZ<|aT λan=>cI R a6 (λV=>?_) λV=>?_
 ·refine Zc<|an _<|aS λao aq T=>Ze<|BP V λp2 ar au=>?_
  have J4:∀(l:List Int) (q:NN),p2=l→ao ⟨[(1,.ptr 1 j 0 0),(3,.own 5003<|q 0),(8,rL n1.Flow),(9,rI x2)],[(1,some<|.box j 47<|Ax n1),(5003,some<|.arr (q 0) 3 1<|l.map<|Ad .i64)],(q 1),56⟩:=by
   intro l q e
   have av:=au _ e
   exact aq _<|aR<|AE av λx9 aw ax=>xA R aw<|mM R<|Zh<|ZF ax (AH [(q 0),(q 1)]) wk
  refine aU<|mM R<|mA R<|aZ<|aU<|lF ET Ea R R<|mM R<|AE ar λX U ay=>xI Bx R U<|sQ R (BJ R DU iL)<|xV (.int .i64 X.Ref) AI R<|xU R<|aZ<|cI R ay (λZ=>?_) λZ=>?_
  ·refine aG [1,3,4,8,9] [1,5003] ?_
   exact aR<|mM R<|lF ET Ea R R<|mM R<|xI Bx R U<|sQ R (BJ R DU iL)<|xV (.int .i64 X.Ref) AI R<|sS R (Bu 26 R B0 (f:=(Ad .i64)) (l:=([X.Ref]:List Int)) ⟨R,⟨_,iL,R⟩,Za⟩ R (λ_=>R) R)<|AE Z λaz M b0=>sS R (DL R B0 iL R (.inr<|.inl ⟨_,_,iL,R⟩) M)<|mA R<|Zh<|T _ _ wk<|J4 _ (AH [((F 1)+1),((F 1)+2)]) (Zf b0).symm
  exact Zc<|T _ _ wk<|J4 _ (AH [(F 0),(F 1)]) (Zf Z).symm
 exact Zm<|a7 _ _ wk<|J1 _ (AH [(F 0),(F 1)])<|xH al V
theorem RO{d1 i r}(h:H8 d1 i=some r):AX prog 55 [.agg [qa d1.Nodes],rI i] (rI r):=by
 unfold H8 at h
 refine mF func55 ntmps55 R λq=>aU<|sS R (A4 (cs:=[qa d1.Nodes]) 2 R iL R R)<|mA R<|aZ<|aS λX Z w=>aU<|lF Bi Bk R R<|xL BH R<|mM R<|aZ<|Ze<|BK h λo1 j A B=>?_
 have J1:∀(T:Unit) (U:NN),o1=.nrm T→X ⟨[],[],(U 0),22⟩:=by
  intro T U e
  have h1:=A _ e
  exact Z _<|zI h1 R id
 refine Zw (λ(C:Int) m=>⟨[(1,rI i),(2,.ptr 2 q 0 0),(8,rL d1.Nodes),(9,rI C)],[(2,some<|.box q 24 [qa d1.Nodes])],(m 0),22⟩) (AH [(q+1)]) j wk ?_
 intro C m v1 E l
 have V:Lw d1 i C=some v1:=E;unfold Lw at V
 refine aU<|xS R<|aZ<|aT λc6=>cI R V (λF=>?_) λF=>?_
 ·refine Zc<|c6 _<|aT λc7=>Ze<|aU<|mM R<|mA R<|aZ<|aU<|lF Bi Bk R R<|mM R<|AE F λx4 I h4=>xI BH R I<|sQ R (BJ R Cn iL)<|xV (.int .i64 x4.ID) AI R<|mM R<|xQ R<|aZ<|cI R h4 (λJ=>?_) λJ=>?_
  ·refine aT λM=>aF [5] ?_
   exact aR<|mM R<|mA R<|aZ<|M _<|Zi<|yI (B _<|xH l J) R
  refine Zc<|c7 _<|aG [1,2,8,9] [2] ?_
  exact aR<|AE J λx5 O h6=>xA R O<|mM R<|Zh<|Zt h6 (AH [(m 0)]) wk
 exact Zm<|w _ _ wk<|J1 _ (AH [(m 0)])<|xH l F
theorem fz{p k r}(h:NI p k=some r):AX prog 56 [rI p,rI k] (rB r):=by
 unfold NI at h
 refine mF func56 ntmps56 R λI=>aU<|mA R<|aZ<|aT λc2=>aU<|mM R<|aZ<|Ze<|aS λK4 c4 j=>aU<|xQ R<|mA R<|aZ<|BP h λp1 J U=>?_
 have M:∀(V:Bool) (T:NN),p1=V→K4 ⟨[(0,rI p),(5,rI k),(6,rB V)],[],(T 0),51⟩:=by
  intro V T e
  have h1:=U _ e
  refine c4 _<|cI R h1 (λX=>?_) λX=>?_
  ·exact aU<|mM R<|xQ R<|mA R<|aZ<|Zi<|yB X R
  refine aU<|xQ R<|mA R<|aZ<|cI R X (λZ=>?_) λZ=>?_
  ·exact aU<|mM R<|xQ R<|mM R<|vM R<|vQ R (A5 R (iR R) iL)<|xO R<|mM R<|vM R<|vQ R (A5 R (iR R) iL)<|xO R<|mA R<|aZ<|Zi<|yB Z R
  refine aU<|xQ R<|mA R<|aZ<|cI R Z (λh4=>?_) λh4=>?_
  ·exact aU<|mM R<|xQ R<|mA R<|aZ<|Zi<|yB h4 R
  refine aU<|xQ R<|mA R<|aZ<|cI R h4 (λh5=>?_) λh5=>?_
  ·exact aU<|mM R<|xQ R<|mM R<|vM R<|vQ R (A5 R (iR R) iL)<|xO R<|mA R<|aZ<|Zi<|yB h5 R
  refine aU<|xQ R<|mA R<|aZ<|cI R h5 (λh6=>?_) λh6=>?_
  ·refine aT λa0=>aF [0] ?_
   exact aR<|mM R<|AE h6 λr1 a1 h7=>cL (Su<|a1) R<|mA R<|aZ<|a0 _<|Zi<|yB h7 R
  refine aT λa2=>aF [0,5] ?_
  refine aR<|xQ R<|mA R<|aZ<|a2 _<|cI R h6 (λh8=>?_) λh8=>?_
  ·exact aU<|mM R<|xQ R<|mA R<|aZ<|Zi<|yB h8 R
  refine aS λa6 a7 l=>aU<|xQ R<|mA R<|aZ<|BP h8 λp2 O a8=>?_
  have J2:∀(x2:Bool) (i2:NN),p2=x2→a6 ⟨[(0,rI p),(46,rB x2)],[],(i2 0),51⟩:=by
   intro x2 i2 e
   have h9:=a8 _ e
   refine a7 _<|cI R h9 (λm=>?_) λm=>?_
   ·exact aU<|mM R<|xQ R<|mA R<|aZ<|Zi<|yB m R
   exact Zc<|c2 _<|zB m R id
  refine aC R (λq=>?_) λq=>?_
  ·have w:=Dz q O
   exact Zc<|l _ _ wk<|J2 _ (AH [(T 0)]) (Zf w).symm
  ·have w:=D6 q O
   exact aR<|xQ R<|mA R<|Zh<|l _ _ wk<|J2 _ (AH [(T 0)]) (Zf w).symm
 refine aC R (λA=>?_) λA=>?_
 ·have B:=Dz A J
  exact Zc<|j _ _ wk<|M _ (AH [I]) (Zf B).symm
 ·have B:=D6 A J
  refine aU<|xQ R<|mA R<|aZ<|cI R B (λC=>?_) λC=>?_
  ·exact Zc<|j _ _ wk<|M _ (AH [I]) (Zf C).symm
  refine aU<|xQ R<|mA R<|aZ<|cI R C (λE=>?_) λE=>?_
  ·exact Zc<|j _ _ wk<|M _ (AH [I]) (Zf E).symm
  refine aU<|xQ R<|mA R<|aZ<|cI R E (λF=>?_) λF=>?_
  ·exact Zc<|j _ _ wk<|M _ (AH [I]) (Zf F).symm
  exact aR<|xQ R<|mA R<|Zh<|j _ _ wk<|M _ (AH [I]) (Zf F).symm
theorem dy{d1 k a r}(h:L1 d1 k a=some r):AX prog 27 [.agg [qa d1.Nodes],rI k,.r<|.sl<|a.map<|Ad .i64] (rI r):=by
 unfold L1 at h
 refine mF func27 ntmps27 R λw=>aU<|sS R (A4 (cs:=[qa d1.Nodes]) 3 R iL R R)<|mA R<|aZ<|aS λK2 c2 A=>aU<|mM R<|xL B0 R<|mM R<|aZ<|Ze<|BK h λo1 l B m=>?_
 have J1:∀(u2:Unit) (i5:NN),o1=.nrm u2→K2 ⟨[],[],(i5 0),32⟩:=by
  intro u2 i5 e
  have h1:=B _ e
  exact c2 _<|zI h1 R id
 refine Zw (λ(C:Int) q=>⟨[(1,rI k),(2,.r<|.sl<|a.map<|Ad .i64),(3,.ptr 3 w 0 0),(10,rL a),(11,rI C)],[(3,some<|.box w 24 [qa d1.Nodes])],(q 0),32⟩) (AH [(w+1)]) l wk ?_
 intro C q v1 E j
 have h2:Ki d1 k a C=some v1:=E;unfold Ki at h2
 refine aU<|xS R<|aZ<|aT λc6=>cI R h2 (λF=>?_) λF=>?_
 ·refine Zc<|c6 _<|aT λc7=>Ze<|aU<|mM R<|mA R<|aZ<|aT λc9=>?_
  refine ZA BY (by kernel_rfl) ?_
  refine qP R (EK R CG iL R R)<|qP R (AN R iL)<|qP R (AN R iL)<|AE F λx4 I h4=>qP R (BA R B0.slice iL iL (λ_=>R) λ_=>I)<|qP R (Bs (d:=.int .i64 x4) R AI iL R)<|AE h4 λk1 J h5=>AQ.stepC R R R (r:=rI k1) (caps:=[]) (bs:=[.agg [qa d1.Nodes],rI x4]) R iL R ⟨⟨_,iL,.g (cs:=[.sl<|d1.Nodes.map AK.row]) R R⟩,⟨_,iL,.d R⟩,Za⟩ (λ_=>RO<|J) R<|qP R (EI R iL)<|AQ.nil<|c9 _<|aT λM=>aT λO=>aG [1,2,3,8,10,11] [3] ?_
  refine aR<|mM R<|xS R<|aZ<|O _<|cI R h5 (λT=>?_) λT=>?_
  ·exact zI (m _<|xH j T) R id
  refine Zc<|M _<|aU<|mM R<|lF Bi Bk R R<|mM R<|AE T λx5 U h7=>xI BH R U<|sQ R (BJ R CO iL)<|xV (.int .i64 x5.Kind) AI R<|AE h7 λr1 V h8=>cL (fz<|V) R<|sQ R (A6 R iL)<|aZ<|cI R h8 (λX=>?_) λX=>?_
  ·exact zI (m _<|xH j X) R id
  refine Zc<|c7 _<|aG [1,2,3,10,11] [3] ?_
  exact aR<|AE X λx6 Z a0=>xA R Z<|mM R<|Zh<|Zt a0 (AH [(q 0)]) wk
 exact Zm<|A _ _ wk<|J1 _ (AH [(q 0)])<|xH j F
theorem dP{d1 r}(h:Lc d1=some r):AX prog 8 [.agg [qa d1.Nodes]] (rI r):=by
 unfold Lc at h
 refine mF func8 ntmps8 R λj=>aU<|sS R (A4 (cs:=[qa d1.Nodes]) 1 R iL R R)<|mA R<|aZ<|aT λc2=>aU<|lF Bi Bk R R<|xL BH R<|xQ R<|aZ<|cI R h (λh1=>?_) λh1=>?_
 ·exact zI h1 R id
 refine Zc<|c2 _<|aS λK5 c5 a0=>aU<|lF Bi Bk R R<|xL BH R<|mM R<|aZ<|Ze<|BK h1 λo1 C a1 E=>?_
 have J1:∀(u2:Unit) (i5:NN),o1=.nrm u2→K5 ⟨[(1,.ptr 1 j 0 0)],[(1,some<|.box j 24 [qa d1.Nodes])],(i5 0),81⟩:=by
  intro u2 i5 e
  have h2:=a1 _ e
  refine c5 _<|aS λK7 c7 a2=>aU<|lF Bi Bk R R<|xL BH R<|mM R<|aZ<|Ze<|BK h2 λo2 F a6 a7=>?_
  have J2:∀(u4:Unit) (I:NN),o2=.nrm u4→K7 ⟨[],[],(I 0),81⟩:=by
   intro u4 I e
   have h3:=a6 _ e
   exact c7 _<|zI h3 R id
  refine Zw (λ(m:Int) i8=>⟨[(1,.ptr 1 j 0 0),(59,rL d1.Nodes),(60,rI m)],[(1,some<|.box j 24 [qa d1.Nodes])],(i8 0),81⟩) (AH [(i5 0)]) F wk ?_
  intro m i8 v1 a8 J
  have h4:JQ d1 m=some v1:=a8;unfold JQ at h4
  refine aU<|xS R<|aZ<|aT λaa=>cI R h4 (λh5=>?_) λh5=>?_
  ·refine Zc<|aa _<|aT λab=>Ze<|aU<|mM R<|mA R<|aZ<|aT λac=>AE h5 λl M h6=>AE h6 λr1 ad h7=>?_
   refine rP 13 [pO 63<|.agg [qa d1.Nodes],pO 64<|.ptr 1 j 0 0,pO 65<|qa d1.Nodes,pO 66<|rI m,pO 67<|.rop (AK.row l) 0,pO 68<|.rop (AK.row l) 1,pO 69<|rI l.Kind,pO 70<|.ptr 1 j 0 0,pO 71<|qa d1.Nodes,pO 72<|rI m,pO 73<|.rop (AK.row l) 0,pO 74<|.agg<|Ax l,pO 75<|.r<|.sl<|r1.map<|Ad .i64] BY R (by exact⟨oB [(1,.ptr 1 j 0 0)] [(1,some<|.box j 24 [qa d1.Nodes])]<|EK R CG (.inl R) R R,oB [(1,.ptr 1 j 0 0)] [(1,some<|.box j 24 [qa d1.Nodes])]<|fB R Bi (.inl R) (λ_=>R) R,oB [(64,.ptr 1 j 0 0)] [(1,some<|.box j 24 [qa d1.Nodes])]<|Ab (a:=qa d1.Nodes) R Bk (.inl R) R R,oB [(5,rI m)] []<|AN R<|.inl R,oB [(65,qa d1.Nodes),(66,rI m)] []<|BA R BH.slice (.inl R) (.inl R) (λ_=>R) λ_=>M,oB [(67,.rop (AK.row l) 0)] []<|BJ R CO<|.inl R,oB [(68,.rop (AK.row l) 1)] []<|Bs (d:=.int .i64 l.Kind) R AI (.inl R) R,oB [(1,.ptr 1 j 0 0)] [(1,some<|.box j 24 [qa d1.Nodes])]<|fB R Bi (.inl R) (λ_=>R) R,oB [(70,.ptr 1 j 0 0)] [(1,some<|.box j 24 [qa d1.Nodes])]<|Ab (a:=qa d1.Nodes) R Bk (.inl R) R R,oB [(5,rI m)] []<|AN R<|.inl R,oB [(71,qa d1.Nodes),(72,rI m)] []<|BA R BH.slice (.inl R) (.inl R) (λ_=>R) λ_=>M,oB [(73,.rop (AK.row l) 0)] []<|CV (cs:=(Ax l)) R Cs (.inl R) R R,oD (λ_=>[(74,.agg<|Ax l)]) (λ_=>[]) λG1 e h' n=>DK (r:=.r<|.sl<|r1.map<|Ad .i64) (caps:=[]) (bs:=(Gc l)) R (.inl R) R ⟨.inl ⟨(.inl R),R⟩,Za⟩ λ_=>kD<|ad,Za⟩) λG1 n1=>?_
   refine Bg [1,5,59,60,61,62,63,64,65,66,67,68,69,70,71,72,73,74,75] [1] ?_
   refine AE h7 λe1 ae h8=>cL (dy<|ae) R<|mA R<|aZ<|ac _<|aT λaf=>aG [1,6,59,60] [1] ?_
   refine aR<|mM R<|xU R<|aZ<|af _<|cI R h8 (λh9=>?_) λh9=>?_
   ·exact aU<|mM R<|mA R<|aZ<|Zi<|yI (a7 _<|xH J h9) R
   exact Zc<|ab _<|aR<|AE h9 λx8 ag ah=>xA R ag<|mM R<|Zh<|Zt ah (AH [n1]) wk
  exact Zm<|a2 _ _ wk<|J2 _ (AH [(i8 0)])<|xH J h5
 refine Zw (λ(x2:Int) i3=>⟨[(1,.ptr 1 j 0 0),(13,rL d1.Nodes),(14,rI x2)],[(1,some<|.box j 24 [qa d1.Nodes])],(i3 0),81⟩) (AH [(j+1)]) C wk ?_
 intro x2 i3 v2 ai q
 have O:KX d1 x2=some v2:=ai;unfold KX at O
 refine aU<|xS R<|aZ<|aT λaj=>cI R O (λw=>?_) λw=>?_
 ·refine Zc<|aj _<|aT λak=>Ze<|aU<|mM R<|mA R<|aZ<|aT λal=>aU<|lF Bi Bk R R<|mM R<|AE w λx9 T an=>xI BH R T<|xB ((Ax x9)) Cs R<|AE an λe2 ao aq=>cL (jS<|ao) R<|mA R<|aZ<|aU<|mM R<|xU R<|aZ<|cI R aq (λA=>?_) λA=>?_
  ·refine aT λar=>aF [4] ?_
   exact aR<|mM R<|mA R<|aZ<|ar _<|Zi<|yI (E _<|xH q A) R
  refine Zc<|al _<|aT λau=>aG [1,3,13,14] [1] ?_
  refine ZA BY (by kernel_rfl) ?_
  refine qP R (AN R iL)<|qP R (A5 R iL iL)<|qP R (AN R iL)<|qO R (fB R Bi iL fR R)<|qO R (Ab (a:=qa d1.Nodes) R Bk (iR R) R R)<|AE A λav U aw=>qO R (BA R BH.slice (iR R) iL (λ_=>R)<|Ae U)<|qO R (BJ R Cn<|iR R)<|qO R (Bs (d:=.int .i64 av.ID) R AI (iR R) R)<|qO R (DV R (iR R) iL)<|qP R (Bb R iL<|iR R)<|qP R (AN R iL)<|qO R (AN R iL)<|qO R (BU R (iR R) iL)<|qO R (AN R<|iR R)<|qT R (fB R Bi iL fR R)<|qT R (Ab (a:=qa d1.Nodes) R Bk (iR R) R R)<|qT R (AN R iL)<|qT R (BA R BH.slice (iR R) (iR R) (λ_=>R) λ_=>T)<|qT R (BJ R Cn<|iR R)<|qT R (Bs (d:=.int .i64 x9.ID) R AI (iR R) R)<|qT R (fB R Bi iL fR R)<|qT R (Ab (a:=qa d1.Nodes) R Bk (iR R) R R)<|qT R (AN R iL)<|AE aw λb1 V ax=>qT R (CJ R (iR R) iL<|Ae V)<|AE ax λay X az=>qT R (BA R BH.slice (iR R) (iR R) (λ_=>R)<|Ae X)<|qT R (BJ R Cn<|iR R)<|qT R (Bs (d:=.int .i64 ay.ID) R AI (iR R) R)<|qT R (En R (iR R)<|iR R)<|qO R (Bb R (iR R)<|iR R)<|qP R (Cm R iL<|iR R)<|AQ.nil<|au _<|cI R az (λB=>?_) λB=>?_
  ·exact zI (E _<|xH q B) R id
  exact Zc<|ak _<|aR<|AE B λb2 Z b0=>xA R Z<|mM R<|Zh<|Zt b0 (AH [(i3 0)]) wk
 exact Zm<|a0 _ _ wk<|J1 _ (AH [(i3 0)])<|xH q w
theorem TM{j i r}(h:Ju j i=some r):AX prog 11 [qh j,rI i] (rI r):=by
 unfold Ju at h
 refine mF func11 ntmps11 R λX=>aU<|mA R<|aZ<|aS λZ c2 w=>aU<|mM R<|xL OO R<|mM R<|aZ<|Ze<|BK h λo1 l A B=>?_
 have J1:∀(T:Unit) (U:NN),o1=.nrm T→Z ⟨[],[],(U 0),20⟩:=by
  intro T U e
  have h1:=A _ e
  exact c2 _<|zI h1 R id
 refine Zw (λ(C:Int) q=>⟨[(0,qh j),(1,rI i),(7,rL j),(8,rI C)],[],(q 0),20⟩) (AH [X]) l wk ?_
 intro C q v1 E m
 have V:LW j i C=some v1:=E;unfold LW at V
 refine aU<|xS R<|aZ<|aT λc6=>cI R V (λF=>?_) λF=>?_
 ·refine Zc<|c6 _<|aT λc7=>Ze<|aU<|mM R<|mA R<|aZ<|aU<|mM R<|mM R<|AE F λx4 I h4=>xI OO R I<|sQ R (BJ R LJ iL)<|xV (.int .i64 x4.ID) AI R<|mM R<|xQ R<|aZ<|cI R h4 (λJ=>?_) λJ=>?_
  ·refine aT λM=>aF [5] ?_
   exact aR<|mM R<|mA R<|aZ<|M _<|Zi<|yI (B _<|xH m J) R
  refine Zc<|c7 _<|aF [0,1,7,8] ?_
  exact aR<|AE J λx5 O h6=>xA R O<|mM R<|Zh<|Zt h6 (AH [(q 0)]) wk
 exact Zm<|w _ _ wk<|J1 _ (AH [(q 0)])<|xH m F
theorem jE{q b c r}(h:MP q b c=some r):AX prog 57 [.agg<|By q,rI b,rI c] (.agg<|A3 r):=by
 unfold MP at h
 refine mF func57 ntmps57 R λj=>aU<|sS R (A4 (cs:=(By q)) 3 R iL R R)<|sS R (BD (cs:=FC) 6 R Hq R R)<|aZ<|aS λK2 c2 C=>aU<|lF Dk Dx R R<|xL CQ R<|mM R<|aZ<|Ze<|BK h λo1 w E F=>?_
 have J1:∀(u2:Unit) (i5:NN),o1=.nrm u2→K2 ⟨[(1,rI b),(2,rI c),(6,.ptr 6 (j+1) 0 0)],[(6,some<|.box (j+1) 86 FC)],(i5 0),47⟩:=by
  intro u2 i5 e
  have h1:=E _ e
  refine c2 _<|aT λc4=>aR<|mM R<|mM R ?_
  refine sQ R (B7 R Wp (q:=[(0,_),(1,_),(2,_),(3,_)]) (by exact⟨R,R,R,iL,R,R,R,iL,R,R,R,iL,R,R,R,iL,Za⟩) (cs:=[rI b,rI c,rI 1,rI 1])<|by rfl) ?_
  exact Zk R R (A0 (ds:=[rI b,rI c,rI 1,rI 1]) R GM iL R iL R R R R)<|aZ<|c4 _<|Zi<|Cf (P:=prog) (λ(r:Aj)=>.agg<|A3 r) h1 iL<|.a Cp R R R<|.g (cs:=[.int .i64 b,.int .i64 c,.int .i64 1,.int .i64 1]) R R
 refine Zw (λ(I:Int) B=>⟨[(1,rI b),(2,rI c),(3,.ptr 3 j 0 0),(6,.ptr 6 (j+1) 0 0),(11,rL q.Merges),(12,rI I)],[(3,some<|.box j 44<|By q),(6,some<|.box (j+1) 86 FC)],(B 0),47⟩) (AH [(j+2)]) w wk ?_
 intro I B v1 J A
 have h2:IN q b c I=some v1:=J;unfold IN at h2
 refine aU<|xS R<|aZ<|aT λc6=>cI R h2 (λM=>?_) λM=>?_
 ·refine Zc<|c6 _<|aT λc7=>Ze<|aU<|mM R<|mA R<|aZ<|aU<|lF Dk Dx R R<|mM R<|AE M λl O h4=>xI CQ R O<|xB ((A3 l)) Cp R<|sS R (BD (cs:=FC) 8 R Hq R R)<|Zk R R (A0 (ds:=(A3 l)) R GM iL R iL R R R R)<|aZ<|aT λT=>aR<|mM R<|lF CY AI R R<|lF CY AI R R<|lF GR AI R R<|AE h4 λx5 U h5=>xA R U<|AE h5 λx6 V h6=>sQ R (CJ R iL iL λ_=>V)<|AE h6 λr1 X h7=>cL (DF<|X) R<|mM R<|vM R<|vF DB AI R R<|vF DB AI R R<|vF F4 AI R R<|AE h7 λx7 Z h8=>vQ R (JY R (iR R) (iR R)<|Ae Z)<|AE h8 λx8 a0 h9=>vQ R (CJ R (iR R) iL<|Ae a0)<|AE h9 λr2 a1 a2=>vL (λhg=>DF<|Ae a1 hg) R<|xN R<|aZ<|T _<|cI R a2 (λm=>?_) λm=>?_
  ·refine aT λa6=>aG [6,8] [6,8] ?_
   exact aR<|xC Cp R<|Zk R R (A0 (ds:=(A3 l)) R GM iL R iL R R R R)<|aZ<|a6 _<|Zi<|Cf (P:=prog) (λ(r:Aj)=>.agg<|A3 r) (F _<|xH A m) iL<|.a Cp R R R<|.g (cs:=[.int .i64 l.Row,.int .i64 l.Col,.int .i64 l.H,.int .i64 l.W]) R R
  refine Zc<|c7 _<|aG [1,2,3,6,11,12] [3,6] ?_
  exact aR<|AE m λx9 a7 a8=>xA R a7<|mM R<|Zh<|Zt a8 (AH [((B 0)+1)]) wk
 exact Zm<|C _ _ wk<|J1 _ (AH [(B 0)])<|xH A M
theorem Mr{j i r}(h:Hu j i=some r):AX prog 96 [qg j,rI i] (rI r):=by
 unfold Hu at h
 refine mF func96 ntmps96 R λX=>aU<|mA R<|aZ<|aS λZ c2 w=>aU<|mM R<|xL BM R<|mM R<|aZ<|Ze<|BK h λo1 l A B=>?_
 have J1:∀(T:Unit) (U:NN),o1=.nrm T→Z ⟨[],[],(U 0),20⟩:=by
  intro T U e
  have h1:=A _ e
  exact c2 _<|zI h1 R id
 refine Zw (λ(C:Int) q=>⟨[(0,qg j),(1,rI i),(7,rL j),(8,rI C)],[],(q 0),20⟩) (AH [X]) l wk ?_
 intro C q v1 E m
 have V:G5 j i C=some v1:=E;unfold G5 at V
 refine aU<|xS R<|aZ<|aT λc6=>cI R V (λF=>?_) λF=>?_
 ·refine Zc<|c6 _<|aT λc7=>Ze<|aU<|mM R<|mA R<|aZ<|aU<|mM R<|mM R<|AE F λx4 I h4=>xI BM R I<|sQ R (BJ R EG iL)<|xV (.int .i64 x4.Item) AI R<|mM R<|xQ R<|aZ<|cI R h4 (λJ=>?_) λJ=>?_
  ·refine aT λM=>aF [5] ?_
   exact aR<|mM R<|mA R<|aZ<|M _<|Zi<|yI (B _<|xH m J) R
  refine Zc<|c7 _<|aF [0,1,7,8] ?_
  exact aR<|AE J λx5 O h6=>xA R O<|mM R<|Zh<|Zt h6 (AH [(q 0)]) wk
 exact Zm<|w _ _ wk<|J1 _ (AH [(q 0)])<|xH m F
end Go.Proofs.YtmogkkigacadpaaGreatDoor.Al
