/- Walks, as printed. -/
import Derived.Test.YtdafahjmopdleaaGreatDoorPL2
import Derived.Test.YtdafahjmopdleaaGreatDoorProg
set_option linter.all false
set_option maxHeartbeats 4000000
set_option maxRecDepth 20000
set_option linter.unusedVariables false
namespace Go.Proofs.YtdafahjmopdleaaGreatDoor.Al
open Go.Proofs Go.Proofs.Tryz
@[reducible] noncomputable def CX t:=(prog.info? t).map (λi=>(i.zero,i.size,i.bytes))
theorem BJ:prog.follows .mixedOrders=true:=by kernel_rfl
theorem RK:CX 100=some (some<|.agg #[.int .i64 0,.int .i64 0,.slice none 0 0,.slice none 0 0],4,64):=by kernel_rfl
theorem SB:CX 102=some (some<|.agg #[.int .i64 0,.int .i64 0,.slice none 0 0,.slice none 0 0,.int .i64 0,.int .i64 0,.slice none 0 0,.slice none 0 0,.slice none 0 0,.slice none 0 0,.string ⟨#[]⟩],11,192):=by kernel_rfl
theorem SA:CX 140=some (some<|.agg #[.int .i64 0,.int .i64 0,.string ⟨#[]⟩,.int .i64 0,.slice none 0 0],5,64):=by kernel_rfl
theorem dO:CX 142=some (some<|.agg #[.int .i64 0,.int .i64 0],2,16):=by kernel_rfl
theorem Vt:CX 158=some (some<|.agg #[.bool false,.bool false,.bool false,.bool false,.bool false],5,5):=by kernel_rfl
theorem Uc:CX 176=some (some<|.agg #[.int .i64 0,.int .i64 0,.int .i64 0,.int .i64 0,.int .i64 0,.string ⟨#[]⟩,.string ⟨#[]⟩,.string ⟨#[]⟩],8,88):=by kernel_rfl
theorem tL:CX 193=some (some<|.agg #[.slice none 0 0,.slice none 0 0,.int .i64 0],3,56):=by kernel_rfl
theorem jW:CX 196=some (some<|.agg #[.slice none 0 0,.int .i64 0],2,32):=by kernel_rfl
theorem R3:CX 205=some (some<|.agg #[.int .u8 0,.int .u8 0],2,2):=by kernel_rfl
theorem Rx:CX 211=some (some<|.agg #[.int .i64 0,.int .i64 0,.int .i64 0,.int .i64 0],4,32):=by kernel_rfl
theorem fL:CX 22=some (some<|.slice none 0 0,1,24):=by kernel_rfl
theorem la:CX 24=some (some<|.agg #[.slice none 0 0],1,24):=by kernel_rfl
theorem SY:CX 26=some (some<|.agg #[.int .i64 0,.int .i64 0,.int .i64 0],3,24):=by kernel_rfl
theorem Ci:CX 3=some (some<|.int .i64 0,1,8):=by kernel_rfl
theorem Nb:CX 36=some (some<|.slice none 0 0,1,24):=by kernel_rfl
theorem Ir:CX 39=some (some<|.slice none 0 0,1,24):=by kernel_rfl
theorem M3:CX 4=some (some<|.bool false,1,1):=by kernel_rfl
theorem VS:CX 40=some (some<|.slice none 0 0,1,24):=by kernel_rfl
theorem R4:CX 41=some (some<|.slice none 0 0,1,24):=by kernel_rfl
theorem Ww:CX 43=some (some<|.agg #[.int .i64 0,.int .i64 0,.slice none 0 0,.slice none 0 0],4,64):=by kernel_rfl
theorem Wi:CX 44=some (some<|.slice none 0 0,1,24):=by kernel_rfl
theorem LF:CX 46=some (some<|.agg #[.int .i64 0,.int .i64 0,.slice none 0 0,.slice none 0 0,.int .i64 0,.int .i64 0,.slice none 0 0,.slice none 0 0,.slice none 0 0],9,152):=by kernel_rfl
theorem Sv:CX 5=some (some<|.int .u8 0,1,1):=by kernel_rfl
theorem M6:CX 51=some (some<|.agg #[.int .i64 0,.int .i64 0,.slice none 0 0],3,40):=by kernel_rfl
theorem Q3:CX 58=some (some<|.agg #[.string ⟨#[]⟩,.string ⟨#[]⟩],2,32):=by kernel_rfl
theorem YQ:CX 63=some (some<|.slice none 0 0,1,24):=by kernel_rfl
theorem WW:CX 65=some (some<|.slice none 0 0,1,24):=by kernel_rfl
theorem XK:CX 66=some (some<|.slice none 0 0,1,24):=by kernel_rfl
theorem W8:CX 67=some (some<|.slice none 0 0,1,24):=by kernel_rfl
theorem T1:CX 69=some (some<|.agg #[.slice none 0 0,.slice none 0 0,.slice none 0 0],3,72):=by kernel_rfl
theorem RS:CX 70=some (some<|.slice none 0 0,1,24):=by kernel_rfl
theorem W3:CX 72=some (some<|.slice none 0 0,1,24):=by kernel_rfl
theorem TA:CX 74=some (some<|.agg #[.slice none 0 0,.slice none 0 0,.slice none 0 0,.slice none 0 0,.slice none 0 0],5,120):=by kernel_rfl
theorem Vf:CX 76=some (some<|.agg #[.int .i64 0,.int .i64 0,.int .i64 0,.int .i64 0,.slice none 0 0,.slice none 0 0,.int .i64 0,.int .i64 0,.slice none 0 0,.slice none 0 0,.slice none 0 0,.slice none 0 0,.slice none 0 0,.slice none 0 0,.slice none 0 0,.slice none 0 0,.slice none 0 0,.slice none 0 0,.slice none 0 0],19,360):=by kernel_rfl
theorem Im:CX 9=some (some<|.string ⟨#[]⟩,1,16):=by kernel_rfl
theorem FH:CS prog 100 (.agg #[.int .i64 0,.int .i64 0,.slice none 0 0,.slice none 0 0]):=CS.of RK
theorem T3:CS prog 102 (.agg #[.int .i64 0,.int .i64 0,.slice none 0 0,.slice none 0 0,.int .i64 0,.int .i64 0,.slice none 0 0,.slice none 0 0,.slice none 0 0,.slice none 0 0,.string ⟨#[]⟩]):=CS.of SB
theorem Ma:CS prog 140 (.agg #[.int .i64 0,.int .i64 0,.string ⟨#[]⟩,.int .i64 0,.slice none 0 0]):=CS.of SA
theorem pt:CS prog 158 (.agg #[.bool false,.bool false,.bool false,.bool false,.bool false]):=CS.of Vt
theorem cC:CS prog 176 (.agg #[.int .i64 0,.int .i64 0,.int .i64 0,.int .i64 0,.int .i64 0,.string ⟨#[]⟩,.string ⟨#[]⟩,.string ⟨#[]⟩]):=CS.of Uc
theorem UZ:CS prog 193 (.agg #[.slice none 0 0,.slice none 0 0,.int .i64 0]):=CS.of tL
theorem rq:CS prog 205 (.agg #[.int .u8 0,.int .u8 0]):=CS.of R3
theorem ez:CS prog 211 (.agg #[.int .i64 0,.int .i64 0,.int .i64 0,.int .i64 0]):=CS.of Rx
theorem O3:CS prog 26 (.agg #[.int .i64 0,.int .i64 0,.int .i64 0]):=CS.of SY
theorem YL:CS prog 39 (.slice none 0 0):=CS.of Ir
theorem Xw:CS prog 46 (.agg #[.int .i64 0,.int .i64 0,.slice none 0 0,.slice none 0 0,.int .i64 0,.int .i64 0,.slice none 0 0,.slice none 0 0,.slice none 0 0]):=CS.of LF
theorem Ee:CS prog 51 (.agg #[.int .i64 0,.int .i64 0,.slice none 0 0]):=CS.of M6
theorem KW:CS prog 58 (.agg #[.string ⟨#[]⟩,.string ⟨#[]⟩]):=CS.of Q3
theorem Yp:CS prog 69 (.agg #[.slice none 0 0,.slice none 0 0,.slice none 0 0]):=CS.of T1
theorem sY:CS prog 74 (.agg #[.slice none 0 0,.slice none 0 0,.slice none 0 0,.slice none 0 0,.slice none 0 0]):=CS.of TA
theorem En:Bj prog 100 4:=Bj.of underlying100 rfl RK
theorem L1:Bj prog 102 11:=Bj.of underlying102 rfl SB
theorem Fx:Bj prog 140 5:=Bj.of underlying140 rfl SA
theorem ZI:Bj prog 142 2:=Bj.of underlying142 rfl dO
theorem Ij:Bj prog 176 8:=Bj.of underlying176 rfl Uc
theorem oX:Bj prog 205 2:=Bj.of underlying205 rfl R3
theorem E1:Bj prog 211 4:=Bj.of underlying211 rfl Rx
theorem EF:Bj prog 24 1:=Bj.of underlying24 rfl la
theorem D8:Bj prog 26 3:=Bj.of underlying26 rfl SY
theorem No:Bj prog 43 4:=Bj.of underlying43 rfl Ww
theorem Fs:Bj prog 46 9:=Bj.of underlying46 rfl LF
theorem Cj:Bj prog 51 3:=Bj.of underlying51 rfl M6
theorem CJ:Bj prog 58 2:=Bj.of underlying58 rfl Q3
theorem cF:Bj prog 69 3:=Bj.of underlying69 rfl T1
theorem T7:Bj prog 74 5:=Bj.of underlying74 rfl TA
theorem WQ:Bj prog 76 19:=Bj.of underlying76 rfl Vf
theorem nr:HW 0=some (Fe.flatMap<|Aj .u8):=by kernel_rfl
theorem rc:HW 1=some (Re.flatMap Iq.row):=by kernel_rfl
theorem Kb:DV prog 100 [(0,1),(1,1),(2,1),(3,1)] [.int .i64 0,.int .i64 0,.slice none 0 0,.slice none 0 0]:=DV.of underlying100 (λw=>by kernel_rfl) RK
theorem N7:DV prog 102 [(0,9),(9,1),(10,1)] [.int .i64 0,.int .i64 0,.slice none 0 0,.slice none 0 0,.int .i64 0,.int .i64 0,.slice none 0 0,.slice none 0 0,.slice none 0 0,.slice none 0 0,.string ⟨#[]⟩]:=DV.of underlying102 (λw=>by kernel_rfl) SB
theorem ux:Qu prog 158 [(0,1),(1,1),(2,1),(3,1),(4,1)] [.bool false,.bool false,.bool false,.bool false,.bool false]:=Qu.of (n:=5) (e:=4) underlying158 M3 (kK<|by decide) Vt
theorem Tz:DV prog 196 [(0,1),(1,1)] [.slice none 0 0,.int .i64 0]:=DV.of underlying196 (λw=>by kernel_rfl) jW
theorem KM:DV prog 26 [(0,1),(1,1),(2,1)] [.int .i64 0,.int .i64 0,.int .i64 0]:=DV.of underlying26 (λw=>by kernel_rfl) SY
theorem sZ:DV prog 43 [(0,1),(1,1),(2,1),(3,1)] [.int .i64 0,.int .i64 0,.slice none 0 0,.slice none 0 0]:=DV.of underlying43 (λw=>by kernel_rfl) Ww
theorem s6:DV prog 46 [(0,1),(1,1),(2,1),(3,1),(4,4),(8,1)] [.int .i64 0,.int .i64 0,.slice none 0 0,.slice none 0 0,.int .i64 0,.int .i64 0,.slice none 0 0,.slice none 0 0,.slice none 0 0]:=DV.of underlying46 (λw=>by kernel_rfl) LF
theorem KZ:DV prog 51 [(0,1),(1,1),(2,1)] [.int .i64 0,.int .i64 0,.slice none 0 0]:=DV.of underlying51 (λw=>by kernel_rfl) M6
theorem GY:DV prog 58 [(0,1),(1,1)] [.string ⟨#[]⟩,.string ⟨#[]⟩]:=DV.of underlying58 (λw=>by kernel_rfl) Q3
theorem om:DV prog 69 [(0,1),(1,1),(2,1)] [.slice none 0 0,.slice none 0 0,.slice none 0 0]:=DV.of underlying69 (λw=>by kernel_rfl) T1
theorem nF:DV prog 76 [(0,1),(1,1),(2,9),(11,1),(12,1),(13,5),(18,1)] [.int .i64 0,.int .i64 0,.int .i64 0,.int .i64 0,.slice none 0 0,.slice none 0 0,.int .i64 0,.int .i64 0,.slice none 0 0,.slice none 0 0,.slice none 0 0,.slice none 0 0,.slice none 0 0,.slice none 0 0,.slice none 0 0,.slice none 0 0,.slice none 0 0,.slice none 0 0,.slice none 0 0]:=DV.of underlying76 (λw=>by kernel_rfl) Vf
theorem uC:F4 prog 100 1 1:=F4.of underlying100 rfl rfl underlying3 rfl
theorem lv:F4 prog 100 3 3:=F4.of underlying100 rfl rfl underlying36 rfl
theorem nO:F4 prog 51 0 0:=F4.of underlying51 rfl rfl underlying3 rfl
theorem tx:F4 prog 51 2 2:=F4.of underlying51 rfl rfl underlying39 rfl
theorem s7:Eu prog 142 [some<|.int .i64,some<|.int .i64]:=Eu.of underlying142 (by kernel_rfl) (by kernel_rfl)<|by exact⟨rfl,rfl,underlying3,rfl,rfl,underlying3,trivial⟩
theorem lO:Eu prog 176 [some<|.int .i64,some<|.int .i64,some<|.int .i64,some<|.int .i64,some<|.int .i64,some .string,some .string,some .string]:=Eu.of underlying176 (by kernel_rfl) (by kernel_rfl)<|by exact⟨rfl,rfl,underlying3,rfl,rfl,underlying3,rfl,rfl,underlying3,rfl,rfl,underlying3,rfl,rfl,underlying3,rfl,rfl,underlying9,rfl,rfl,underlying9,rfl,rfl,underlying9,trivial⟩
theorem Yu:Eu prog 211 [some<|.int .i64,some<|.int .i64,some<|.int .i64,some<|.int .i64]:=Eu.of underlying211 (by kernel_rfl) (by kernel_rfl)<|by exact⟨rfl,rfl,underlying3,rfl,rfl,underlying3,rfl,rfl,underlying3,rfl,rfl,underlying3,trivial⟩
theorem VE:Eu prog 26 [some<|.int .i64,some<|.int .i64,some<|.int .i64]:=Eu.of underlying26 (by kernel_rfl) (by kernel_rfl)<|by exact⟨rfl,rfl,underlying3,rfl,rfl,underlying3,rfl,rfl,underlying3,trivial⟩
theorem eL:Eu prog 58 [some .string,some .string]:=Eu.of underlying58 (by kernel_rfl) (by kernel_rfl)<|by exact⟨rfl,rfl,underlying9,rfl,rfl,underlying9,trivial⟩
theorem CG:AY prog 100 0 0:=AY.of underlying100 rfl rfl Ci<|by decide
theorem EM:AY prog 100 1 1:=AY.of underlying100 rfl rfl Ci<|by decide
theorem Dt:AY prog 100 2 2:=AY.of underlying100 rfl rfl Ir<|by decide
theorem EK:AY prog 100 3 3:=AY.of underlying100 rfl rfl Nb<|by decide
theorem TZ:AY prog 102 0 0:=AY.of underlying102 rfl rfl LF<|by decide
theorem M9:AY prog 102 1 9:=AY.of underlying102 rfl rfl YQ<|by decide
theorem cT:AY prog 102 2 10:=AY.of underlying102 rfl rfl Im<|by decide
theorem GE:AY prog 140 0 0:=AY.of underlying140 rfl rfl Ci<|by decide
theorem HR:AY prog 140 1 1:=AY.of underlying140 rfl rfl Ci<|by decide
theorem Hp:AY prog 140 2 2:=AY.of underlying140 rfl rfl Im<|by decide
theorem FY:AY prog 140 3 3:=AY.of underlying140 rfl rfl Ci<|by decide
theorem HU:AY prog 140 4 4:=AY.of underlying140 rfl rfl Ir<|by decide
theorem Le:AY prog 142 0 0:=AY.of underlying142 rfl rfl Ci<|by decide
theorem Wq:AY prog 142 1 1:=AY.of underlying142 rfl rfl Ci<|by decide
theorem I8:AY prog 176 0 0:=AY.of underlying176 rfl rfl Ci<|by decide
theorem Ll:AY prog 176 1 1:=AY.of underlying176 rfl rfl Ci<|by decide
theorem HL:AY prog 176 2 2:=AY.of underlying176 rfl rfl Ci<|by decide
theorem X4:AY prog 176 3 3:=AY.of underlying176 rfl rfl Ci<|by decide
theorem QP:AY prog 176 4 4:=AY.of underlying176 rfl rfl Ci<|by decide
theorem R9:AY prog 176 5 5:=AY.of underlying176 rfl rfl Im<|by decide
theorem UK:AY prog 176 6 6:=AY.of underlying176 rfl rfl Im<|by decide
theorem MW:AY prog 176 7 7:=AY.of underlying176 rfl rfl Im<|by decide
theorem GP:AY prog 193 0 0:=AY.of underlying193 rfl rfl RS<|by decide
theorem Ov:AY prog 193 1 1:=AY.of underlying193 rfl rfl Nb<|by decide
theorem Ft:AY prog 193 2 2:=AY.of underlying193 rfl rfl Ci<|by decide
theorem L7:AY prog 196 0 0:=AY.of underlying196 rfl rfl RS<|by decide
theorem Lz:AY prog 196 1 1:=AY.of underlying196 rfl rfl Ci<|by decide
theorem qx:AY prog 205 0 0:=AY.of underlying205 rfl rfl Sv<|by decide
theorem nR:AY prog 205 1 1:=AY.of underlying205 rfl rfl Sv<|by decide
theorem EG:AY prog 211 0 0:=AY.of underlying211 rfl rfl Ci<|by decide
theorem E5:AY prog 211 1 1:=AY.of underlying211 rfl rfl Ci<|by decide
theorem IN:AY prog 211 2 2:=AY.of underlying211 rfl rfl Ci<|by decide
theorem H8:AY prog 211 3 3:=AY.of underlying211 rfl rfl Ci<|by decide
theorem Dy:AY prog 24 0 0:=AY.of underlying24 rfl rfl fL<|by decide
theorem Ka:AY prog 26 0 0:=AY.of underlying26 rfl rfl Ci<|by decide
theorem G4:AY prog 26 1 1:=AY.of underlying26 rfl rfl Ci<|by decide
theorem Je:AY prog 26 2 2:=AY.of underlying26 rfl rfl Ci<|by decide
theorem Ge:AY prog 43 0 0:=AY.of underlying43 rfl rfl Ci<|by decide
theorem Gr:AY prog 43 1 1:=AY.of underlying43 rfl rfl Ci<|by decide
theorem GG:AY prog 43 2 2:=AY.of underlying43 rfl rfl VS<|by decide
theorem Fh:AY prog 43 3 3:=AY.of underlying43 rfl rfl R4<|by decide
theorem Ex:AY prog 46 0 0:=AY.of underlying46 rfl rfl Ci<|by decide
theorem Cy:AY prog 46 1 1:=AY.of underlying46 rfl rfl Ci<|by decide
theorem Ub:AY prog 46 2 2:=AY.of underlying46 rfl rfl Ir<|by decide
theorem E8:AY prog 46 3 3:=AY.of underlying46 rfl rfl Nb<|by decide
theorem GO:AY prog 46 4 4:=AY.of underlying46 rfl rfl Ww<|by decide
theorem KD:AY prog 46 5 8:=AY.of underlying46 rfl rfl Wi<|by decide
theorem D1:AY prog 51 0 0:=AY.of underlying51 rfl rfl Ci<|by decide
theorem Ea:AY prog 51 1 1:=AY.of underlying51 rfl rfl Ci<|by decide
theorem CR:AY prog 51 2 2:=AY.of underlying51 rfl rfl Ir<|by decide
theorem CO:AY prog 58 0 0:=AY.of underlying58 rfl rfl Im<|by decide
theorem Hv:AY prog 58 1 1:=AY.of underlying58 rfl rfl Im<|by decide
theorem LC:AY prog 69 0 0:=AY.of underlying69 rfl rfl WW<|by decide
theorem XO:AY prog 69 1 1:=AY.of underlying69 rfl rfl XK<|by decide
theorem Ve:AY prog 69 2 2:=AY.of underlying69 rfl rfl W8<|by decide
theorem Sc:AY prog 74 0 0:=AY.of underlying74 rfl rfl W3<|by decide
theorem UH:AY prog 74 1 1:=AY.of underlying74 rfl rfl W3<|by decide
theorem SV:AY prog 74 2 2:=AY.of underlying74 rfl rfl VS<|by decide
theorem RP:AY prog 74 3 3:=AY.of underlying74 rfl rfl R4<|by decide
theorem Kq:AY prog 74 4 4:=AY.of underlying74 rfl rfl R4<|by decide
theorem LP:AY prog 76 0 0:=AY.of underlying76 rfl rfl Ci<|by decide
theorem P3:AY prog 76 1 1:=AY.of underlying76 rfl rfl Ci<|by decide
theorem T9:AY prog 76 2 2:=AY.of underlying76 rfl rfl LF<|by decide
theorem R6:AY prog 76 3 11:=AY.of underlying76 rfl rfl Ir<|by decide
theorem Mt:AY prog 76 4 12:=AY.of underlying76 rfl rfl RS<|by decide
theorem Sf:AY prog 76 5 13:=AY.of underlying76 rfl rfl TA<|by decide
theorem S2:AY prog 76 6 18:=AY.of underlying76 rfl rfl Wi<|by decide
theorem Uf:Bn prog 149 9 1 16:=Bn.of underlying149 Im rfl rfl<|by decide
theorem DJ:Bn prog 22 46 9 152:=Bn.of underlying22 LF rfl rfl<|by decide
theorem GK:Bn prog 30 76 19 360:=Bn.of underlying30 Vf rfl rfl<|by decide
theorem Ah:Bn prog 36 51 3 40:=Bn.of underlying36 M6 rfl rfl<|by decide
theorem Ac:Bn prog 39 58 2 32:=Bn.of underlying39 Q3 rfl rfl<|by decide
theorem Cq:Bn prog 40 140 5 64:=Bn.of underlying40 SA rfl rfl<|by decide
theorem Cn:Bn prog 41 211 4 32:=Bn.of underlying41 Rx rfl rfl<|by decide
theorem FI:Bn prog 44 176 8 88:=Bn.of underlying44 Uc rfl rfl<|by decide
theorem B9:Bn prog 63 3 1 8:=Bn.of underlying63 Ci rfl rfl<|by decide
theorem Jt:Bn prog 65 36 1 24:=Bn.of underlying65 Nb rfl rfl<|by decide
theorem MV:Bn prog 66 4 1 1:=Bn.of underlying66 M3 rfl rfl<|by decide
theorem WX:Bn prog 67 39 1 24:=Bn.of underlying67 Ir rfl rfl<|by decide
theorem Bx:Bn prog 70 100 4 64:=Bn.of underlying70 RK rfl rfl<|by decide
theorem Ej:Bn prog 72 142 2 16:=Bn.of underlying72 dO rfl rfl<|by decide
theorem nz:Jv prog 4 [.bool false]:=Jv.of M3 rfl
theorem WG:Jv prog 51 [.int .i64 0,.int .i64 0,.sl []]:=Jv.of M6 rfl
theorem Dw:Bh prog 22:=Bh.of underlying22 rfl fL
theorem AJ:Bh prog 3:=Bh.of underlying3 rfl Ci
theorem B2:Bh prog 36:=Bh.of underlying36 rfl Nb
theorem BA:Bh prog 39:=Bh.of underlying39 rfl Ir
theorem XR:Bh prog 4:=Bh.of underlying4 rfl M3
theorem FA:Bh prog 40:=Bh.of underlying40 rfl VS
theorem DR:Bh prog 41:=Bh.of underlying41 rfl R4
theorem Gk:Bh prog 44:=Bh.of underlying44 rfl Wi
theorem YG:Bh prog 5:=Bh.of underlying5 rfl Sv
theorem Ok:Bh prog 63:=Bh.of underlying63 rfl YQ
theorem ON:Bh prog 65:=Bh.of underlying65 rfl WW
theorem Zy:Bh prog 66:=Bh.of underlying66 rfl XK
theorem dI:Bh prog 67:=Bh.of underlying67 rfl W8
theorem EE:Bh prog 70:=Bh.of underlying70 rfl RS
theorem JH:Bh prog 72:=Bh.of underlying72 rfl W3
theorem BC:Bh prog 9:=Bh.of underlying9 rfl Im
theorem oS:Pa prog 158 5 4 1:=⟨underlying158,DG M3⟩
theorem qk:Pa prog 203 256 5 1:=⟨underlying203,DG Sv⟩
theorem jw:Pa prog 206 16 205 2:=⟨underlying206,DG R3⟩
theorem FT:∃i,prog.info? 100=some i∧i.size=4:=DG RK
theorem Ih:∃i,prog.info? 102=some i∧i.size=11:=DG SB
theorem Mq:∃i,prog.info? 140=some i∧i.size=5:=DG SA
theorem rE:∃i,prog.info? 158=some i∧i.size=5:=DG Vt
theorem bN:∃i,prog.info? 176=some i∧i.size=8:=DG Uc
theorem rG:∃i,prog.info? 205=some i∧i.size=2:=DG R3
theorem fg:∃i,prog.info? 211=some i∧i.size=4:=DG Rx
theorem IL:∃i,prog.info? 26=some i∧i.size=3:=DG SY
theorem G7:∃i,prog.info? 3=some i∧i.size=1:=DG Ci
theorem S8:∃i,prog.info? 36=some i∧i.size=1:=DG Nb
theorem F9:∃i,prog.info? 39=some i∧i.size=1:=DG Ir
theorem qn:∃i,prog.info? 4=some i∧i.size=1:=DG M3
theorem WD:∃i,prog.info? 46=some i∧i.size=9:=DG LF
theorem DT:∃i,prog.info? 51=some i∧i.size=3:=DG M6
theorem JU:∃i,prog.info? 58=some i∧i.size=2:=DG Q3
theorem lb:∃i,prog.info? 63=some i∧i.size=1:=DG YQ
theorem mN:∃i,prog.info? 65=some i∧i.size=1:=DG WW
theorem qU:∃i,prog.info? 66=some i∧i.size=1:=DG XK
theorem mK:∃i,prog.info? 67=some i∧i.size=1:=DG W8
theorem ZT:∃i,prog.info? 69=some i∧i.size=3:=DG T1
theorem SS:∃i,prog.info? 70=some i∧i.size=1:=DG RS
theorem lJ:∃i,prog.info? 74=some i∧i.size=5:=DG TA
@[reducible] def qa(l:List AC):AV:=.r<|.sl<|l.map AC.row
@[reducible] def qb(l:List AD):AV:=.r<|.sl<|l.map AD.row
@[reducible] def qc(l:List As):AV:=.r<|.sl<|l.map As.row
@[reducible] def qd(l:List AI):AV:=.r<|.sl<|l.map AI.row
@[reducible] def qe(l:List Aw):AV:=.r<|.sl<|l.map Aw.row
@[reducible] def qf(l:List BN):AV:=.r<|.sl<|l.map BN.row
@[reducible] def qg(l:List Ag):AV:=.r<|.sl<|l.map Ag.row
@[reducible] def qh(l:List DK):AV:=.r<|.sl<|l.map DK.row
@[reducible] def qi(l:List BE):AV:=.r<|.sl<|l.map BE.row
set_option linter.defProp false
@[reducible] def oP(x:BE):List AV:=[.agg [rI<|x.Kind,rI<|x.Node,rI<|x.New.ID,rI<|x.New.Kind,qa x.New.Attrs,qb x.New.Flow,rI<|x.New.Grid.Rows,rI<|x.New.Grid.Cols,qe x.New.Grid.Cells,qc x.New.Grid.Merges,qf x.New.Draw,qa x.Attrs,qd x.Steps,qh x.Grid.Rows,qh x.Grid.Cols,qe x.Grid.Cells,qc x.Grid.Split,qc x.Grid.Merge,qf x.Draw]]
@[reducible] def EA(x:BE):List AV:=[rI<|x.Kind,rI<|x.Node,rI<|x.New.ID,rI<|x.New.Kind,qa x.New.Attrs,qb x.New.Flow,rI<|x.New.Grid.Rows,rI<|x.New.Grid.Cols,qe x.New.Grid.Cells,qc x.New.Grid.Merges,qf x.New.Draw,qa x.Attrs,qd x.Steps,qh x.Grid.Rows,qh x.Grid.Cols,qe x.Grid.Cells,qc x.Grid.Split,qc x.Grid.Merge,qf x.Draw]
@[reducible] def BG(x:CN):List AV:=[rI<|x.node.ID,rI<|x.node.Kind,qa x.node.Attrs,qb x.node.Flow,rI<|x.node.Grid.Rows,rI<|x.node.Grid.Cols,qe x.node.Grid.Cells,qc x.node.Grid.Merges,qf x.node.Draw,.r<|.sl<|x.shown.map<|Aj .i64,.r<|.str x.author]
@[reducible] def Fp:List AV:=[rI<|0,rI<|0,.cst<|.slice none 0 0,.cst<|.slice none 0 0,rI<|0,rI<|0,.cst<|.slice none 0 0,.cst<|.slice none 0 0,.cst<|.slice none 0 0,.cst<|.slice none 0 0,.r<|.str []]
@[reducible] def Lf:List AV:=[rI<|0,rI<|0,.cst<|.slice none 0 0,.cst<|.slice none 0 0,rI<|0,rI<|0,.cst<|.slice none 0 0,.cst<|.slice none 0 0,.cst<|.slice none 0 0]
@[reducible] def NW(x:Ag):List AV:=[.agg [rI<|x.ID,rI<|x.Kind,qa x.Attrs,qb x.Flow,rI<|x.Grid.Rows,rI<|x.Grid.Cols,qe x.Grid.Cells,qc x.Grid.Merges,qf x.Draw]]
@[reducible] def mm(x:BN):List AV:=[.agg [rI<|x.Clock,rI<|x.Site,rI<|x.Kind,rI<|x.Item,rI<|x.Parent,.r<|.str x.Place,.r<|.str x.Name,.r<|.str x.Value]]
@[reducible] def Bd(x:Ag):List AV:=[rI<|x.ID,rI<|x.Kind,qa x.Attrs,qb x.Flow,rI<|x.Grid.Rows,rI<|x.Grid.Cols,qe x.Grid.Cells,qc x.Grid.Merges,qf x.Draw]
@[reducible] def Ck(x:BN):List AV:=[rI<|x.Clock,rI<|x.Site,rI<|x.Kind,rI<|x.Item,rI<|x.Parent,.r<|.str x.Place,.r<|.str x.Name,.r<|.str x.Value]
@[reducible] def HB(x:Bk):List AV:=[.r<|.sl<|x.Adds.map<|EC AD.row,.r<|.sl<|x.Cuts.map Ed,.r<|.sl<|x.Attrs.map<|EC AC.row]
@[reducible] def XQ(x:AC):List AV:=[.agg [.r<|.str x.Name,.r<|.str x.Value],.agg [.r<|.str [],.r<|.str []]]
@[reducible] def Wk(x:AC):List AV:=[.agg [.r<|.str [],.r<|.str []],.agg [.r<|.str x.Name,.r<|.str x.Value]]
@[reducible] def fr(x:Aw):List AV:=[.agg [rI<|x.Row,rI<|x.Col,.r<|.str x.Text,rI<|x.Ref,qa x.Attrs]]
@[reducible] def Iu:List AV:=[.cst<|.slice none 0 0,.cst<|.slice none 0 0,.cst<|.slice none 0 0]
@[reducible] def CA(x:Aw):List AV:=[rI<|x.Row,rI<|x.Col,.r<|.str x.Text,rI<|x.Ref,qa x.Attrs]
@[reducible] def EH:List AV:=[rI<|0,rI<|0,.cst<|.slice none 0 0,.cst<|.slice none 0 0]
@[reducible] def Vh:List AV:=[rI<|0,rI<|1,.cst<|.slice none 0 0,.cst<|.slice none 0 0]
@[reducible] def NY:List AV:=[rI<|0,rI<|0,.r<|.str [],rI<|0,.cst<|.slice none 0 0]
@[reducible] def gM:List AV:=[rB<|false,rB<|false,rB<|false,rB<|false,rB<|false]
@[reducible] def WH(x:BW):List AV:=[.agg [rI<|x.Rows,rI<|x.Cols,qe x.Cells,qc x.Merges]]
@[reducible] def Di(x:EY):List AV:=[qh x.Rows,qh x.Cols,qe x.Cells,qc x.Split,qc x.Merge]
@[reducible] def N6:List AV:=[.cst<|.slice none 0 0,.cst<|.slice none 0 0,rI<|0]
@[reducible] def Rm(x:AI):List AV:=[.agg [rI<|x.Kind,rI<|x.N,qa x.Attrs,qb x.Elems]]
@[reducible] def Da(x:BW):List AV:=[rI<|x.Rows,rI<|x.Cols,qe x.Cells,qc x.Merges]
@[reducible] def Bq(x:AI):List AV:=[rI<|x.Kind,rI<|x.N,qa x.Attrs,qb x.Elems]
@[reducible] def BT(x:As):List AV:=[rI<|x.Row,rI<|x.Col,rI<|x.H,rI<|x.W]
@[reducible] def Z8(x:AD):List AV:=[.agg [rI<|x.Char,rI<|x.Ref,qa x.Attrs]]
@[reducible] def LM:List AV:=[rI<|10,rI<|0,.cst<|.slice none 0 0]
@[reducible] def Eo:List AV:=[rI<|0,rI<|0,.cst<|.slice none 0 0]
@[reducible] def Sh:List AV:=[.r<|.str [99,117,116],.r<|.str []]
@[reducible] def BF(x:AC):List AV:=[.r<|.str x.Name,.r<|.str x.Value]
@[reducible] def Ad(x:AD):List AV:=[rI<|x.Char,rI<|x.Ref,qa x.Attrs]
@[reducible] def A5(x:BK):List AV:=[rI<|x.Node,rI<|x.From,rI<|x.To]
@[reducible] def vm{T r:Int}{x:Exit}{s:St}{j:ResultVar}:=@Cz Int prog T r x s j λr=>rI r
@[reducible] def vl{T r:Bool}{x:Exit}{s:St}{j:ResultVar}:=@Cz Bool prog T r x s j λr=>rB r
@[reducible] def yI:=@ZD prog
@[reducible] def yB:=@gw prog
@[reducible] def Za:=@trivial
@[reducible] def Zb:=@wo
@[reducible] def Zd:=@AW.skip
@[reducible] def Zf:=@AW.block
@[reducible] def Zh:=@AN.nil
@[reducible] def Zj:=@AW.ret
@[reducible] def Zk:=@iu
@[reducible] def Zm:=@Ak.trans
@[reducible] def Zn:=@AW.exit
@[reducible] def Zo:=@vP
@[reducible] def Zt:=@AT.step
@[reducible] def Zw:=@wx
@[reducible] def Zx:=@TP.mk
@[reducible] def Zz:=@vV
@[reducible] def ZA:=@iz
@[reducible] def ZC:=@Ak.cv
@[reducible] def ZH:=@Sd.mk
@[reducible] def ZL:=@ve
@[reducible] def ZM:=@QC.mk
@[reducible] def ZR:=@vU
@[reducible] def R:=@rfl
set_option maxHeartbeats 4000000 in
set_option maxRecDepth 100000 in
theorem eM{r}(h:gN=some r):AO prog 94 [] (rB r):=by
 unfold gN at h
 cases h
 exact AO.runX [] (λp hp=>by cases hp) [] [] 40 1000000 BJ func94 R R R<|by kernel_rfl
set_option maxHeartbeats 4000000 in
set_option maxRecDepth 100000 in
theorem pN{r}(h:bB=some r):AO prog 46 [] (rB r):=by
 unfold bB at h
 cases h
 exact AO.runX [(94,true)] (λp hp=>by simp only[wM,yx,zZ] at hp;subst hp;exact eM rfl) [] [139,49] 40 1000000 BJ func46 rfl rfl rfl<|by kernel_rfl
set_option maxHeartbeats 4000000 in
set_option maxRecDepth 100000 in
theorem pa{r}(h:QK=some r):AO prog 8 [] (rB r):=by
 unfold QK at h
 cases h
 exact AO.runX [(94,true),(46,true)] (λp hp=>by simp only[wM,yx,zZ] at hp;rcases hp with rfl | rfl<;>first | exact eM rfl | exact pN rfl) [44,11,106,120,107,108,102,47,52] [139,49,66] 40 1000000 BJ func8 rfl rfl rfl<|by kernel_rfl
theorem gt{j r}(h:Nv j=some r):AO prog 164 [rS j] (rB r):=by
 unfold Nv at h
 refine mF func164 ntmps164 R λn0=>aU<|mA R<|aZ<|aT λC2=>aU<|mM R<|sQ R (Bo R iL iL)<|mM R<|vM R<|vQ R (DE R underlying9<|iR R)<|vQ R (BD R (iR R) iL)<|xO R<|mM R<|vM R<|AG h λa0 l h1=>vQ R (DP R underlying9 (iR R) iL<|AP l)<|vQ R (B7 R (iR R) iL)<|xO R<|mM R<|vM R<|AG h1 λa1 q h2=>vQ R (DP R underlying9 (iR R) iL<|AP q)<|vQ R (BD R (iR R) iL)<|xO R<|aZ<|cI R h2 (λB=>?_) λB=>?_
 ·exact zB B R id
 refine Zd<|C2 _<|aS λK5 C5 C=>aT λC6=>aF [0] ?_
 refine aR<|mM R<|sQ R (DE R underlying9 iL)<|mM R<|aZ<|C6 _<|Zf<|BI B λo1 u E F=>?_
 have J1:∀(X:Unit) (Y:NN),o1=.nrm X→K5 ⟨[],[],(Y 0),53⟩:=by
  intro X Y e
  have h4:=E _ e
  exact C5 _<|zB h4 R id
 refine Zz (λ(I:Int) A=>⟨[(0,rS j),(23,rL j),(24,rI I)],[],(A 0),53⟩) (AH [n0]) u wk ?_
 intro I A v1 J w
 have Z:NA j I=some v1:=J;unfold NA at Z
 refine aU<|xS R<|aZ<|aT λC9=>cI R Z (λM=>?_) λM=>?_
 ·refine Zd<|C9 _<|aT λO=>Zf<|aU<|mM R<|mA R<|aZ<|aU<|mM R<|mM R<|AG M λc1 T h7=>sQ R (DP R underlying9 iL iL λ_=>T)<|mA R<|aZ<|aU<|mM R<|xS R<|mM R<|vM R<|vQ R (BD R (iR R) iL)<|xO R<|mM R<|vM R<|vQ R (B7 R (iR R) iL)<|vQ R (AK R<|iR R)<|wQ R (AK R iL)<|wQ R (BD R (iR R) iL)<|vQ R (CM R (iR R)<|iR R)<|xN R<|mM R<|vM R<|vQ R (Cf R (iR R) iL)<|xN R<|mM R<|vM R<|vQ R (Cf R (iR R) iL)<|xN R<|aZ<|cI R h7 (λU=>?_) λU=>?_
  ·exact zB (F _<|xH w U) R id
  refine Zd<|O _<|aF [0,23,24] ?_
  exact aR<|AG U λx4 V h9=>xA R V<|mM R<|Zh<|Zx h9 (AH [(A 0)]) wk
 exact Zn<|C _ _ wk<|J1 _ (AH [(A 0)])<|xH w M
theorem YI{l r}(h:Jo l=some r):AO prog 98 [rS l] (rB r):=by
 unfold Jo at h
 refine mF func98 ntmps98 R λY=>aU<|mA R<|aZ<|aT λZ=>aU<|mM R<|sQ R (Bo R iL iL)<|mM R<|vM R<|vQ R (DE R underlying9<|iR R)<|vQ R (BD R (iR R) iL)<|xO R<|aZ<|cI R h (λA=>?_) λA=>?_
 ·exact zB A R id
 refine Zd<|Z _<|aS λK5 c5 B=>aU<|mM R<|sQ R (DE R underlying9 iL)<|mM R<|aZ<|Zf<|BI A λo1 q C E=>?_
 have J1:∀(U:Unit) (V:NN),o1=.nrm U→K5 ⟨[],[],(V 0),27⟩:=by
  intro U V e
  have h2:=C _ e
  exact c5 _<|zB h2 R id
 refine Zz (λ(F:Int) w=>⟨[(0,rS l),(12,rL l),(13,rI F)],[],(w 0),27⟩) (AH [Y]) q wk ?_
 intro F w v1 I u
 have X:RY l F=some v1:=I;unfold RY at X
 refine aU<|xS R<|aZ<|aT λc9=>cI R X (λJ=>?_) λJ=>?_
 ·refine Zd<|c9 _<|aT λM=>Zf<|aU<|mM R<|mA R<|aZ<|aU<|mM R<|mM R<|AG J λa0 j h5=>sQ R (DP R underlying9 iL iL λ_=>j)<|xS R<|mM R<|vM R<|vM R<|vQ R (DP R underlying9 (iR R) (iR R) λ_=>j)<|vQ R (BD R (iR R) iL)<|xO R<|aZ<|cI R h5 (λO=>?_) λO=>?_
  ·exact zB (E _<|xH u O) R id
  refine Zd<|M _<|aF [0,12,13] ?_
  exact aR<|AG O λx4 T h7=>xA R T<|mM R<|Zh<|Zx h7 (AH [(w 0)]) wk
 exact Zn<|B _ _ wk<|J1 _ (AH [(w 0)])<|xH u J
theorem gD{u b r}(h:M7 u b=some r):AO prog 119 [qa u,rB b] (rI r):=by
 unfold M7 at h
 refine mF func119 ntmps119 R λn0=>aU<|mA R<|aZ<|aS λK2 c2 C=>aU<|mM R<|xL Ac R<|mM R<|aZ<|Zf<|BI h λo1 w E l=>?_
 have J1:∀(u2:Unit) (i5:NN),o1=.nrm u2→K2 ⟨[],[],(i5 0),48⟩:=by
  intro u2 i5 e
  have h1:=E _ e
  exact c2 _<|zI h1 R id
 refine Zz (λ(F:Int) A=>⟨[(0,qa u),(1,rB b),(7,qa u),(8,rL u),(9,rI F)],[],(A 0),48⟩) (AH [n0]) w wk ?_
 intro F A v1 I j
 have h2:Mf u b F=some v1:=I;unfold Mf at h2
 refine aU<|xS R<|aZ<|aT λc6=>cI R h2 (λJ=>?_) λJ=>?_
 ·refine Zd<|c6 _<|aT λc7=>Zf<|aU<|mM R<|AG J λB M h4=>xI Ac R M<|xB ((BF B)) CJ R<|sS R (BB (cs:=[.r<|.str [],.r<|.str []]) 6 R KW R R)<|mA R<|Zk R R (Af (ds:=(BF B)) R JU iL R iL R R R R)<|aZ<|Zf<|aU<|lF CO BC R R<|AG h4 λr1 O h5=>cL (gt<|O) R<|sQ R (A0 R iL)<|mA R<|aZ<|cI R h5 (λT=>?_) λT=>?_
  ·exact zI (l _<|xH j T) R id
  refine aT λU=>aG [0,1,5,6,7,8,9] [6] ?_
  refine aR<|lF Hv BC R R<|AG T λr2 V h7=>cL (YI<|V) R<|sQ R (A0 R iL)<|mM R<|vM R<|vQ R (AK R<|iR R)<|wQ R (fB R Hv iL fR R)<|wQ R (AZ (a:=rS B.Value) R BC (iR R) R R)<|wQ R (Bo R (iR R) iL)<|vQ R (BP R (iR R)<|iR R)<|vQ R (A0 R<|iR R)<|xN R<|mA R<|aZ<|U _<|cI R h7 (λX=>?_) λX=>?_
  ·exact zI (l _<|xH j X) R id
  refine aT λY=>?_
  refine ZA BJ (by kernel_rfl) ?_
  refine qP R (AK R iL)<|qP R (BD R iL iL)<|qP R (AK R iL)<|qO R (fB R CO iL fR R)<|qO R (AZ (a:=rS B.Name) R BC (iR R) R R)<|qO R (AK R iL)<|qO R (AK R iL)<|AG X λx5 Z h9=>qO R (CF R (iR R) iL<|AP Z)<|AG h9 λx6 a0 a1=>qO R (Ap R Ac.slice (iR R) (iR R) (λ_=>R)<|AP a0)<|qO R (A2 R CO<|iR R)<|qO R (BU (d:=.str x6.Name) R BC (iR R) R)<|qO R (hJ R (iR R)<|iR R)<|qP R (BP R iL<|iR R)<|qP R (Do R iL)<|AQ.nil<|Y _<|cI R a1 (λq=>?_) λq=>?_
  ·exact zI (l _<|xH j q) R id
  refine Zd<|c7 _<|aF [0,1,7,8,9] ?_
  exact aR<|AG q λx7 a2 a6=>xA R a2<|mM R<|Zh<|Zx a6 (AH [((A 0)+1)]) wk
 exact Zn<|C _ _ wk<|J1 _ (AH [(A 0)])<|xH j J
theorem US{l r}(h:Hu l=some r):AO prog 85 [qa l] (rI r):=by
 unfold Hu at h
 exact mF func85 ntmps85 R λu=>aU<|mA R<|aZ<|aU<|mM R<|AG h λw j q=>cL (gD<|j) R<|mA R<|aZ<|Zj<|yI q R
theorem X2{k r}(h:IC k=some r):AO prog 96 [rI k] (rB r):=by
 unfold IC at h
 exact mF func96 ntmps96 R λj=>aU<|mA R<|aZ<|aU<|mM R<|xQ R<|mM R<|vM R<|vQ R (Aq R (iR R) iL)<|xO R<|mM R<|vM R<|vQ R (Aq R (iR R) iL)<|xO R<|mM R<|vM R<|vQ R (Aq R (iR R) iL)<|xO R<|mA R<|aZ<|Zj<|yB h R
theorem kX{k r}(h:Mc k=some r):AO prog 167 [rI k] (rB r):=by
 unfold Mc at h
 exact mF func167 ntmps167 R λj=>aU<|mA R<|aZ<|aU<|mM R<|xQ R<|mM R<|vM R<|vQ R (Aq R (iR R) iL)<|xO R<|mA R<|aZ<|Zj<|yB h R
theorem uZ{k r}(h:Mi k=some r):AO prog 135 [rI k] (rB r):=by
 unfold Mi at h
 exact mF func135 ntmps135 R λj=>aU<|mA R<|aZ<|aU<|mM R<|xQ R<|mM R<|vM R<|vQ R (Aq R (iR R) iL)<|xO R<|mA R<|aZ<|Zj<|yB h R
theorem rF{s a r}(h:Qj s a=some r):AO prog 192 [qc s,qc a] (rB r):=by
 unfold Qj at h
 refine mF func192 ntmps192 R λZ=>aU<|mA R<|aZ<|aT λc2=>aU<|mM R<|xL Cn R<|mM R<|xL Cn R<|xU R<|aZ<|cI R h (λu=>?_) λu=>?_
 ·exact zB u R id
 refine Zd<|c2 _<|aS λK5 c5 w=>aU<|mM R<|xL Cn R<|mM R<|aZ<|Zf<|BI u λo1 j A B=>?_
 have J1:∀(V:Unit) (X:NN),o1=.nrm V→K5 ⟨[],[],(X 0),26⟩:=by
  intro V X e
  have h2:=A _ e
  exact c5 _<|zB h2 R id
 refine Zz (λ(C:Int) q=>⟨[(0,qc s),(1,qc a),(12,rL s),(13,rI C)],[],(q 0),26⟩) (AH [Z]) j wk ?_
 intro C q v1 E l
 have Y:Ol s a C=some v1:=E;unfold Ol at Y
 refine aU<|xS R<|aZ<|aT λc9=>cI R Y (λF=>?_) λF=>?_
 ·refine Zd<|c9 _<|aT λI=>Zf<|aU<|mM R<|mA R<|aZ<|aT λJ=>?_
  refine ZA BJ (by kernel_rfl) ?_
  refine qP R (AK R iL)<|qP R (AK R iL)<|AG F λx4 M h5=>qP R (Ap R Cn.slice iL iL (λ_=>R) λ_=>M)<|qP R (CU (cs:=(BT x4)) R E1 iL R R)<|qP R (AK R iL)<|qP R (AK R iL)<|AG h5 λx5 O h6=>qP R (Ap R Cn.slice iL iL (λ_=>R) λ_=>O)<|qP R (CU (cs:=(BT x5)) R E1 iL R R)<|qP R (KF R Yu iL iL R)<|AQ.nil<|J _<|cI R h6 (λT=>?_) λT=>?_
  ·exact zB (B _<|xH l T) R id
  refine Zd<|I _<|aF [0,1,12,13] ?_
  exact aR<|AG T λx6 U h8=>xA R U<|mM R<|Zh<|Zx h8 (AH [(q 0)]) wk
 exact Zn<|w _ _ wk<|J1 _ (AH [(q 0)])<|xH l F
theorem Vi{j u r}(h:Gz j u=some r):AO prog 185 [qa j,qa u] (rB r):=by
 unfold Gz at h
 refine mF func185 ntmps185 R λn0=>aU<|mA R<|aZ<|aT λc2=>aU<|mM R<|xL Ac R<|mM R<|xL Ac R<|xU R<|aZ<|cI R h (λA=>?_) λA=>?_
 ·exact zB A R id
 refine Zd<|c2 _<|aS λK5 c5 B=>aU<|mM R<|xL Ac R<|mM R<|aZ<|Zf<|BI A λo1 l C E=>?_
 have J1:∀(Y:Unit) (Z:NN),o1=.nrm Y→K5 ⟨[],[],(Z 0),26⟩:=by
  intro Y Z e
  have h2:=C _ e
  exact c5 _<|zB h2 R id
 refine Zz (λ(F:Int) w=>⟨[(0,qa j),(1,qa u),(12,rL j),(13,rI F)],[],(w 0),26⟩) (AH [n0]) l wk ?_
 intro F w v1 I q
 have h3:Pk j u F=some v1:=I;unfold Pk at h3
 refine aU<|xS R<|aZ<|aT λc9=>cI R h3 (λJ=>?_) λJ=>?_
 ·refine Zd<|c9 _<|aT λM=>Zf<|aU<|mM R<|mA R<|aZ<|aT λO=>?_
  refine ZA BJ (by kernel_rfl) ?_
  refine qP R (AK R iL)<|qP R (AK R iL)<|AG J λx4 T h5=>qP R (Ap R Ac.slice iL iL (λ_=>R) λ_=>T)<|qP R (CU (cs:=(BF x4)) R CJ iL R R)<|qP R (AK R iL)<|qP R (AK R iL)<|AG h5 λx5 U h6=>qP R (Ap R Ac.slice iL iL (λ_=>R) λ_=>U)<|qP R (CU (cs:=(BF x5)) R CJ iL R R)<|qP R (KF R eL iL iL R)<|AQ.nil<|O _<|cI R h6 (λV=>?_) λV=>?_
  ·exact zB (E _<|xH q V) R id
  refine Zd<|M _<|aF [0,1,12,13] ?_
  exact aR<|AG V λx6 X h8=>xA R X<|mM R<|Zh<|Zx h8 (AH [(w 0)]) wk
 exact Zn<|B _ _ wk<|J1 _ (AH [(w 0)])<|xH q J
theorem sP{j l r}(h:OS j l=some r):AO prog 194 [.agg<|CA j,.agg<|CA l] (rB r):=by
 unfold OS at h
 exact mF func194 ntmps194 R λA=>aU<|sS R (Ay (cs:=(CA j)) 2 R iL R R)<|sS R (Ay (cs:=(CA l)) 3 R iL R R)<|mA R<|aZ<|aT λu=>aR<|lF GE AJ R R<|lF GE AJ R R<|xQ R<|mM R<|vF HR AJ R R<|vF HR AJ R R<|vQ R (Aq R (iR R)<|iR R)<|xN R<|mM R<|vF Hp BC R R<|vF Hp BC R R<|vQ R (Bo R (iR R)<|iR R)<|xN R<|mM R<|vF FY AJ R R<|vF FY AJ R R<|vQ R (Aq R (iR R)<|iR R)<|xN R<|mM R<|vF HU BA R R<|vF HU BA R R<|AG h λB q w=>vL (λhg=>Vi<|AP q hg) R<|xN R<|mA R<|aZ<|u _<|Zj<|yB w R
theorem pq{s a r}(h:Qo s a=some r):AO prog 193 [qe s,qe a,.fn 194 []] (rB r):=by
 unfold Qo at h
 refine mF func193 ntmps193 R λn0=>aU<|mA R<|aZ<|aT λc2=>aU<|mM R<|xL Cq R<|mM R<|xL Cq R<|xU R<|aZ<|cI R h (λu=>?_) λu=>?_
 ·exact zB u R id
 refine Zd<|c2 _<|aS λK5 c5 w=>aU<|mM R<|xL Cq R<|mM R<|aZ<|Zf<|BI u λo1 j A B=>?_
 have J1:∀(X:Unit) (Y:NN),o1=.nrm X→K5 ⟨[],[],(Y 0),32⟩:=by
  intro X Y e
  have h2:=A _ e
  exact c5 _<|zB h2 R id
 refine Zz (λ(C:Int) q=>⟨[(1,qe a),(2,.fn 194 []),(15,qe s),(16,rL s),(17,rI C)],[],(q 0),32⟩) (AH [n0]) j wk ?_
 intro C q v1 E l
 have Z:RM s a C=some v1:=E;unfold RM at Z
 refine aU<|xS R<|aZ<|aT λc9=>cI R Z (λF=>?_) λF=>?_
 ·refine Zd<|c9 _<|aT λI=>Zf<|aU<|mM R<|AG F λx4 J h5=>xI Cq R J<|xB ((CA x4)) Fx R<|sS R (BB (cs:=NY) 8 R Ma R R)<|mA R<|Zk R R (Af (ds:=(CA x4)) R Mq iL R iL R R R R)<|aZ<|aU<|mM R<|mM R<|AG h5 λx5 M h6=>xI Cq R M<|xB ((CA x5)) Fx R<|sS R (BB (cs:=NY) 9 R Ma R R)<|Zk R R (Af (ds:=(CA x5)) R Mq iL R iL R R R R)<|aZ<|aT λO=>aG [1,2,8,9,15,16,17] [8,9] ?_
  refine aR<|mM R<|xC Fx R<|xC Fx R<|AG h6 λr1 T h7=>cL (sP<|T) R<|sQ R (A0 R iL)<|aZ<|O _<|cI R h7 (λU=>?_) λU=>?_
  ·exact zB (B _<|xH l U) R id
  exact Zd<|I _<|aR<|AG U λx6 V h9=>xA R V<|mM R<|Zh<|Zx h9 (AH [((q 0)+2)]) wk
 exact Zn<|w _ _ wk<|J1 _ (AH [(q 0)])<|xH l F
theorem tc{j l r}(h:Lr j l=some r):AO prog 168 [.agg<|Da j,.agg<|Da l] (rB r):=by
 unfold Lr at h
 exact mF func168 ntmps168 R λC=>aU<|sS R (Ay (cs:=(Da j)) 2 R iL R R)<|sS R (Ay (cs:=(Da l)) 3 R iL R R)<|mA R<|aZ<|aU<|lF Ge AJ R R<|lF Ge AJ R R<|xQ R<|mM R<|vF Gr AJ R R<|vF Gr AJ R R<|vQ R (Aq R (iR R)<|iR R)<|xN R<|mM R<|vF Fh DR R R<|vF Fh DR R R<|AG h λE q w=>vL (λhg=>rF<|AP q hg) R<|xN R<|mM R<|vF GG FA R R<|vF GG FA R R<|AG w λA u B=>AN.stepW (.one R R R) R R (ER (r:=rB A) (caps:=[]) (bs:=[qe j.Cells,qe l.Cells,.fn 194 []]) R iL R ⟨⟨_,(iR R),.d R⟩,⟨_,(iR R),.d R⟩,⟨_,iL,.one<|.closed (.fn 194 []) R⟩,Za⟩ (λhg=>pq<|AP u hg) R)<|xN R<|mA R<|aZ<|Zj<|yB B R
theorem Wa{k r}(h:Jm k=some r):AO prog 169 [rI k] (rB r):=by
 unfold Jm at h
 exact mF func169 ntmps169 R λj=>aU<|mA R<|aZ<|aU<|mM R<|xQ R<|mM R<|vM R<|vQ R (Aq R (iR R) iL)<|xO R<|mM R<|vM R<|vQ R (Aq R (iR R) iL)<|xO R<|mA R<|aZ<|Zj<|yB h R
theorem YA{j r}(h:Jb j=some r):AO prog 99 [rI j] (rB r):=by
 unfold Jb at h
 exact mF func99 ntmps99 R λl=>aU<|mA R<|aZ<|aU<|mM R<|xQ R<|mM R<|vM R<|vQ R (Aq R (iR R) iL)<|xO R<|mM R<|vM R<|vQ R (Cs R (iR R) iL)<|vQ R (AK R<|iR R)<|wQ R (AK R iL)<|wQ R (B7 R (iR R) iL)<|vQ R (BP R (iR R)<|iR R)<|xO R<|mM R<|vM R<|vQ R (Cs R (iR R) iL)<|vQ R (AK R<|iR R)<|wQ R (AK R iL)<|wQ R (B7 R (iR R) iL)<|vQ R (BP R (iR R)<|iR R)<|xO R<|mM R<|vM R<|vQ R (BD R (iR R) iL)<|vQ R (AK R<|iR R)<|wQ R (AK R iL)<|wQ R (FC R (iR R) iL)<|vQ R (BP R (iR R)<|iR R)<|xO R<|mA R<|aZ<|Zj<|yB h R
theorem Zv{l r}(h:N9 l=some r):AO prog 117 (Z8 l) (rI r):=by
 unfold N9 at h
 refine mF func117 ntmps117 R λw=>aU<|sS R (Ay (cs:=(Ad l)) 1 R iL R R)<|mA R<|aZ<|aT λT=>Zf<|aU<|lF D1 AJ R R<|xU R<|lF Ea AJ R R<|xU R<|sQ R (hY R underlying4 iL iL)<|mA R<|aZ<|cI R h (λA=>?_) λA=>?_
 ·exact zI A R id
 refine aS λU V q=>aT λX=>aG [1] [1] ?_
 refine aR<|lF Ea AJ R R<|xQ R<|mM R<|vF D1 AJ R R<|AG A λr1 B Y=>vL (λhg=>YA<|AP B hg) R<|vQ R (A0 R<|iR R)<|xN R<|mA R<|aZ<|X _<|A3 Y λZ u C=>?_
 have M:∀(E:Bool) (O:NN),Z=E→U ⟨[(1,.ptr 1 w 0 0),(11,rB E)],[(1,some<|.box w 51<|Ad l)],(O 0),37⟩:=by
  intro E O e
  have h3:=C _ e
  refine V _<|cI R h3 (λF=>?_) λF=>?_
  ·exact zI F R id
  exact Zd<|T _<|aU<|lF CR BA R R<|AG F λr2 I h5=>cL (US<|I) R<|mA R<|aZ<|Zj<|yI h5 R
 refine aC R (λj=>?_) λj=>?_
 ·have J:=Br j u
  exact Zd<|q _ _ wk<|M _ (AH [(w+1)]) (Zb J).symm
 ·have J:=Bt j u
  refine aG [1] [1] ?_
  exact aR<|lF Ea AJ R R<|xU R<|mM R<|vF Ea AJ R R<|vQ R (B7 R (iR R) iL)<|vQ R (AK R<|iR R)<|wQ R (fB R Ea iL fR R)<|wQ R (AZ (a:=rI l.Ref) R AJ (iR R) R R)<|wQ R (BD R (iR R) iL)<|vQ R (CM R (iR R)<|iR R)<|xN R<|mA R<|Zh<|q _ _ wk<|M _ (AH [(w+1)]) (Zb J).symm
theorem uR{f1 a r}(h:Hm f1 a=some r):AO prog 170 [qb f1,rB a] (rI r):=by
 unfold Hm at h
 refine mF func170 ntmps170 R λn0=>aU<|mA R<|aZ<|aS λK2 c2 A=>aU<|mM R<|xL Ah R<|mM R<|aZ<|Zf<|BI h λo1 q B u=>?_
 have J1:∀(u2:Unit) (i5:NN),o1=.nrm u2→K2 ⟨[(0,qb f1),(1,rB a)],[],(i5 0),43⟩:=by
  intro u2 i5 e
  have h1:=B _ e
  refine c2 _<|aT λc4=>aU<|mM R<|mM R<|vM R<|vQ R (Bu R Ah.slice<|iR R)<|vQ R (Aq R (iR R) iL)<|vQ R (AK R<|iR R)<|wQ R (AK R iL)<|wQ R (AK R iL)<|wQ R (Bu R Ah.slice<|iR R)<|AG h1 λx4 C h2=>wQ R (CF R (iR R) iL<|AP C)<|AG h2 λx5 E h3=>wQ R (Ap R Ah.slice (iR R) (iR R) (λ_=>R)<|AP E)<|wQ R (A2 R D1<|iR R)<|wQ R (BU (d:=.int .i64 x5.Char) R AJ (iR R) R)<|wQ R (Cf R (iR R) iL)<|vQ R (CM R (iR R)<|iR R)<|xN R<|aZ<|cI R h3 (λF=>?_) λF=>?_
  ·exact zI F R id
  exact Zd<|c4 _<|zI F R id
 refine Zz (λ(I:Int) w=>⟨[(0,qb f1),(1,rB a),(8,qb f1),(9,rL f1),(10,rI I)],[],(w 0),43⟩) (AH [n0]) q wk ?_
 intro I w v1 J j
 have h5:KY f1 a I=some v1:=J;unfold KY at h5
 refine aU<|xS R<|aZ<|aT λc9=>cI R h5 (λM=>?_) λM=>?_
 ·refine Zd<|c9 _<|aT λO=>Zf<|aU<|AG M λx6 T h7=>xI Ah R T<|xB ((Ad x6)) Cj R<|sS R (BB (cs:=Eo) 6 R Ee R R)<|Zk R R (Af (ds:=(Ad x6)) R DT iL R iL R R R R)<|aZ<|aT λU=>aU<|xC Cj R<|AG h7 λe1 V h8=>cL (Zv<|V) R<|mA R<|aZ<|aU<|mM R<|xU R<|aZ<|cI R h8 (λX=>?_) λX=>?_
  ·refine aT λY=>aF [7] ?_
   exact aR<|mM R<|mA R<|aZ<|Y _<|Zj<|yI (u _<|xH j X) R
  refine Zd<|U _<|aU<|mM R<|sQ R (A0 R iL)<|mM R<|vF Ea AJ R R<|vQ R (Aq R (iR R) iL)<|xN R<|aZ<|cI R X (λl=>?_) λl=>?_
  ·exact zI (u _<|xH j l) R id
  refine Zd<|O _<|aF [0,1,8,9,10] ?_
  exact aR<|AG l λx7 Z a0=>xA R Z<|mM R<|Zh<|Zx a0 (AH [((w 0)+1)]) wk
 exact Zn<|A _ _ wk<|J1 _ (AH [(w 0)])<|xH j M
theorem qJ{s1 r}(h:LJ s1=some r):AO prog 109 [rS s1] (.tup [.r<|.int .i32 r.1,rI r.2]):=by
 unfold LJ at h
 refine mF func109 ntmps109 R λn0=>aU<|mA R<|mA R<|aZ<|aU<|mM R<|sQ R (DE R underlying9 iL)<|mA R<|aZ<|aT λc3=>aU<|mM R<|xS R<|aZ<|cI R h (λE=>?_) λE=>?_
 ·exact aU<|mA R<|mA R<|aZ<|Zj<|DD (P:=prog) (λ(r:Int × Int)=>.r<|.int .i32 r.1) (λ(r:Int × Int)=>rI r.2) E iL (.t<|.d R)<|.t<|.d R
 refine Zd<|c3 _<|aU<|mM R<|AG E λaf j h2=>sQ R (DP R underlying9 iL iL λ_=>j)<|mA R<|aZ<|aT λc7=>aR<|mM R<|AG h2 λx1 F h3=>?_
 refine sQ R (bA (f:=(Aj .u8)) (l:=Fe) R qk nr (by kernel_rfl) iL (λ_=>R) (by decide) λ_=>F) ?_
 refine xV (.int .u8 x1) YG R<|mA R<|aZ<|c7 _<|aT λc8=>aT λc9=>aF [0,4,5,6] ?_
 refine aR<|mM R<|sQ R (Cs R iL iL)<|aZ<|c9 _<|cI R h3 (λI=>?_) λI=>?_
 ·refine aU<|mM R<|sQ R (D2 R underlying5 underlying21 iL)<|sQ R (KC (b:=31) R iL iL)<|sQ R (R1 (b:=31) R iL iL)<|mA R<|aZ<|aT λJ=>aF [0,7] ?_
  exact aR<|mM R<|sQ R (DP R underlying9 iL iL λ_=>j)<|sQ R (D2 R underlying5 underlying21 iL)<|mM R<|sQ R (ew R iL iL)<|mM R<|sQ R (Gn R iL iL)<|sQ R (Jq R iL iL)<|mA R<|mA R<|aZ<|J _<|Zj<|DD (P:=prog) (λ(r:Int × Int)=>.r<|.int .i32 r.1) (λ(r:Int × Int)=>rI r.2) I iL (.t<|.d R)<|.t<|.d R
 refine Zd<|c8 _<|aU<|mM R<|sQ R (Gn R iL iL)<|sQ R (D2 R underlying5 underlying3 iL)<|mA R<|aZ<|aT λM=>aR<|mM R<|sQ R (R1 (b:=4) R iL iL)<|AG I λC O h5=>?_
 refine sQ R (bA (f:=Iq.row) (l:=Re) R jw rc (by kernel_rfl) iL (λ_=>R) (by decide) λ_=>O) ?_
 refine xB ([.r<|.int .u8 C.lo,.r<|.int .u8 C.hi]) oX R<|sS R (BB (cs:=[.r<|.int .u8 0,.r<|.int .u8 0]) 9 R rq R R)<|Zk R R (Af (ds:=[.r<|.int .u8 C.lo,.r<|.int .u8 C.hi]) R rG iL R iL R R R R)<|aZ<|M _<|aT λT=>aT λU=>aG [0,4,5,8,9] [9] ?_
 refine aR<|mM R<|mM R<|xS R<|aZ<|U _<|cI R h5 (λV=>?_) λV=>?_
 ·exact aU<|mA R<|mA R<|aZ<|Zj<|DD (P:=prog) (λ(r:Int × Int)=>.r<|.int .i32 r.1) (λ(r:Int × Int)=>rI r.2) V iL (.t<|.d R)<|.t<|.d R
 refine Zd<|T _<|aU<|mM R<|AG V λag w h7=>sQ R (DP R underlying9 iL iL λ_=>w)<|mA R<|aZ<|aT λX=>aU<|mM R<|lF qx YG R R<|xS R<|mM R<|vF nR YG R R<|vM R<|vQ R (B7 R (iR R)<|iR R)<|xO R<|aZ<|cI R h7 (λY=>?_) λY=>?_
 ·refine aT λZ=>aF [] ?_
  exact aR<|mA R<|mA R<|aZ<|Z _<|Zj<|DD (P:=prog) (λ(r:Int × Int)=>.r<|.int .i32 r.1) (λ(r:Int × Int)=>rI r.2) Y iL (.t<|.d R)<|.t<|.d R
 refine Zd<|X _<|aT λa0=>aT λa1=>aF [0,5,8,10] ?_
 refine aR<|mM R<|sQ R (FC R iL iL)<|aZ<|a1 _<|cI R Y (λh9=>?_) λh9=>?_
 ·exact aU<|mM R<|sQ R (Gn R iL iL)<|sQ R (D2 R underlying5 underlying21 iL)<|sQ R (KC (b:=6) R iL iL)<|mM R<|sQ R (Gn R iL iL)<|sQ R (D2 R underlying5 underlying21 iL)<|sQ R (Jq R iL iL)<|mA R<|mA R<|aZ<|Zj<|DD (P:=prog) (λ(r:Int × Int)=>.r<|.int .i32 r.1) (λ(r:Int × Int)=>rI r.2) h9 iL (.t<|.d R)<|.t<|.d R
 refine Zd<|a0 _<|aU<|mM R<|AG h9 λah A a2=>sQ R (DP R underlying9 iL iL λ_=>A)<|mA R<|aZ<|aT λa6=>aU<|mM R<|xS R<|mM R<|vM R<|vQ R (B7 R iL<|iR R)<|xO R<|aZ<|cI R a2 (λl=>?_) λl=>?_
 ·refine aT λa7=>aF [] ?_
  exact aR<|mA R<|mA R<|aZ<|a7 _<|Zj<|DD (P:=prog) (λ(r:Int × Int)=>.r<|.int .i32 r.1) (λ(r:Int × Int)=>rI r.2) l iL (.t<|.d R)<|.t<|.d R
 refine Zd<|a6 _<|aT λa8=>aT λaa=>aF [0,5,8,10,11] ?_
 refine aR<|mM R<|sQ R (FC R iL iL)<|aZ<|aa _<|cI R l (λq=>?_) λq=>?_
 ·exact aU<|mM R<|sQ R (Gn R iL iL)<|sQ R (D2 R underlying5 underlying21 iL)<|sQ R (KC (b:=12) R iL iL)<|mM R<|sQ R (Gn R iL iL)<|sQ R (D2 R underlying5 underlying21 iL)<|sQ R (KC (b:=6) R iL iL)<|sQ R (Jq R iL iL)<|mM R<|sQ R (Gn R iL iL)<|sQ R (D2 R underlying5 underlying21 iL)<|sQ R (Jq R iL iL)<|mA R<|mA R<|aZ<|Zj<|DD (P:=prog) (λ(r:Int × Int)=>.r<|.int .i32 r.1) (λ(r:Int × Int)=>rI r.2) q iL (.t<|.d R)<|.t<|.d R
 refine Zd<|a8 _<|aU<|mM R<|AG q λai B ab=>sQ R (DP R underlying9 iL iL λ_=>B)<|mA R<|aZ<|aT λac=>aU<|mM R<|xS R<|mM R<|vM R<|vQ R (B7 R iL<|iR R)<|xO R<|aZ<|cI R ab (λu=>?_) λu=>?_
 ·refine aT λad=>aF [] ?_
  exact aR<|mA R<|mA R<|aZ<|ad _<|Zj<|DD (P:=prog) (λ(r:Int × Int)=>.r<|.int .i32 r.1) (λ(r:Int × Int)=>rI r.2) u iL (.t<|.d R)<|.t<|.d R
 refine Zd<|ac _<|aT λae=>aF [5,10,11,12] ?_
 exact aR<|mM R<|sQ R (Gn R iL iL)<|sQ R (D2 R underlying5 underlying21 iL)<|sQ R (KC (b:=18) R iL iL)<|mM R<|sQ R (Gn R iL iL)<|sQ R (D2 R underlying5 underlying21 iL)<|sQ R (KC (b:=12) R iL iL)<|sQ R (Jq R iL iL)<|mM R<|sQ R (Gn R iL iL)<|sQ R (D2 R underlying5 underlying21 iL)<|sQ R (KC (b:=6) R iL iL)<|sQ R (Jq R iL iL)<|mM R<|sQ R (Gn R iL iL)<|sQ R (D2 R underlying5 underlying21 iL)<|sQ R (Jq R iL iL)<|mA R<|mA R<|aZ<|ae _<|Zj<|DD (P:=prog) (λ(r:Int × Int)=>.r<|.int .i32 r.1) (λ(r:Int × Int)=>rI r.2) u iL (.t<|.d R)<|.t<|.d R
theorem Vl{w r}(h:HH w=some r):AO prog 54 [rS w] (.tup [.r<|.int .i32 r.1,rI r.2]):=by
 unfold HH at h
 refine mF func54 ntmps54 R λM=>aU<|mA R<|mA R<|aZ<|aT λA=>aU<|mM R<|sQ R (Ds R iL iL)<|mM R<|vM R<|AG h λB j C=>vQ R (DP R underlying9 (iR R) iL<|AP j)<|vQ R (B7 R (iR R) iL)<|xN R<|aZ<|cI R C (λq=>?_) λq=>?_
 ·refine aT λE=>aF [0] ?_
  exact aR<|mM R<|AG q λF l I=>sQ R (DP R underlying9 iL iL λ_=>l)<|sQ R (D2 R underlying5 underlying21 iL)<|mA R<|mA R<|aZ<|E _<|Zj<|DD (P:=prog) (λ(r:Int × Int)=>.r<|.int .i32 r.1) (λ(r:Int × Int)=>rI r.2) I iL (.t<|.d R)<|.t<|.d R
 refine aF [0] ?_
 exact aR<|mM R<|DQ q λO T u J=>cL (qJ<|u) R<|mM R<|xX R<|xX R<|mA R<|mA R<|aZ<|A _<|Zj<|DD (P:=prog) (λ(r:Int × Int)=>.r<|.int .i32 r.1) (λ(r:Int × Int)=>rI r.2) J iL (.t<|.d R)<|.t<|.d R
theorem uI{O r}(h:RO O=some r):AO prog 216 [rS O] (rB r):=by
 unfold RO at h
 refine mF func216 ntmps216 R λX=>aU<|mA R<|aZ<|aS λY Z u=>Zf<|BI h λo1 j w A=>?_
 have J1:∀(T:Unit) (U:NN),o1=.nrm T→Y ⟨[],[],(U 0),31⟩:=by
  intro T U e
  have h1:=w _ e
  exact Z _<|zB h1 R id
 refine Zz (λ(B:List UInt8) q=>⟨[(0,rS B)],[],(q 0),31⟩) (AH [X]) j wk ?_
 intro B q v1 C l
 have V:Fm B=some v1:=C;unfold Fm at V
 refine aT λc4=>aU<|mM R<|sQ R (Ds R iL iL)<|aZ<|cI R V (λE=>?_) λE=>?_
 ·refine Zd<|c4 _<|Zf<|aU<|mM R<|DQ E λr1 r2 F h4=>cL (Vl<|F) R<|mM R<|xX R<|xX R<|mA R<|mA R<|aZ<|aT λc7=>aU<|mM R<|xQ R<|mM R<|vM R<|vQ R (Aq R (iR R) iL)<|xN R<|mM R<|vM R<|vQ R (Aq R (iR R) iL)<|xO R<|mM R<|vM R<|vQ R (D2 R underlying21 underlying3<|iR R)<|AG h4 λr3 I h5=>vL (λhg=>YA<|AP I hg) R<|vQ R (A0 R<|iR R)<|xO R<|aZ<|cI R h5 (λJ=>?_) λJ=>?_
  ·exact zB (A _<|xH l J) R id
  refine Zd<|c7 _<|aF [0,4] ?_
  refine aR<|mM R<|mM R<|AG J λs5 M h7=>?_
  refine sQ R (LT R underlying9 iL (by exact⟨_,iL⟩) (by exact R) λ_=>M) ?_
  exact mA R<|Zh<|Zx h7 (AH [(q 0)]) wk
 exact Zn<|u _ _ wk<|J1 _ (AH [(q 0)])<|xH l E
theorem mZ{j r}(h:Rb j=some r):AO prog 217 (fr j) (rB r):=by
 unfold Rb at h
 exact mF func217 ntmps217 R λl=>aU<|sS R (Ay (cs:=(CA j)) 1 R iL R R)<|mA R<|aZ<|aU<|lF Hp BC R R<|sQ R (Bo R iL iL)<|mM R<|vF FY AJ R R<|vQ R (Aq R (iR R) iL)<|xN R<|mM R<|vF HU BA R R<|vQ R (Bu R Ac.slice<|iR R)<|vQ R (Aq R (iR R) iL)<|xN R<|mA R<|aZ<|Zj<|yB h R
theorem gi{j r}(h:Rl j=some r):AO prog 243 [rI j] (rB r):=by
 unfold Rl at h
 exact mF func243 ntmps243 R λl=>aU<|mA R<|aZ<|aU<|mM R<|mM R<|xU R<|mA R<|aZ<|Zj<|yB h R
theorem SK{O T r}(h:Ja O T=some r):AO prog 222 [rI O,rI T] (rI r):=by
 unfold Ja at h
 refine mF func222 ntmps222 R λn0=>aU<|mA R<|aZ<|aU<|mM R<|AG h λq j U=>cL (gi<|j) R<|mA R<|aZ<|aU<|mM R<|AG U λu l V=>cL (gi<|l) R<|mA R<|aZ<|aT λX=>aU<|mM R<|aZ<|cI R V (λw=>?_) λw=>?_
 ·refine aT λY=>aT λZ=>aF [6] ?_
  refine aR<|mM R<|aZ<|Z _<|cI R w (λA=>?_) λA=>?_
  ·exact zI A R id
  exact Zd<|Y _<|zI A R id
 refine Zd<|X _<|aT λB=>aU<|mM R<|aZ<|cI R w (λC=>?_) λC=>?_
 ·exact zI C R id
 refine Zd<|B _<|aT λE=>aT λF=>aF [0,1] ?_
 refine aR<|mM R<|mM R<|xS R<|aZ<|F _<|cI R C (λI=>?_) λI=>?_
 ·exact zI I R id
 refine Zd<|E _<|aT λJ=>aU<|mM R<|mM R<|sQ R (BD R iL iL)<|aZ<|cI R I (λM=>?_) λM=>?_
 ·exact zI M R id
 exact Zd<|J _<|zI M R id
theorem Zp{v r}(h:N4 v=some r):AO prog 221 [.r<|.sl<|v.map<|Aj .i64] (rI r):=by
 unfold N4 at h
 refine mF func221 ntmps221 R λV=>aU<|mA R<|aZ<|aU<|mA R<|aZ<|aS λX Y u=>aU<|mM R<|xL B9 R<|mM R<|aZ<|Zf<|BI h λZ j w A=>?_
 have J1:∀(O:Unit) (T:NN),Z=.nrm O→X ⟨[(3,rI 0)],[],(T 0),18⟩:=by
  intro O T e
  have h1:=w _ e
  exact Y _<|aU<|mM R<|mA R<|aZ<|Zj<|yI h1 R
 refine Zz (λ(B:Int) q=>⟨[(3,rI 0),(6,.r<|.sl<|v.map<|Aj .i64),(7,rL v),(8,rI B)],[],(q 0),18⟩) (AH [V]) j wk ?_
 intro B q v1 C l
 have U:Ef v B=some v1:=C;unfold Ef at U
 refine aU<|xS R<|aZ<|aT λc7=>cI R U (λE=>?_) λE=>?_
 ·refine Zd<|c7 _<|aT λc8=>Zf<|aU<|AG E λx4 F h4=>xI B9 R F<|xV (.int .i64 x4) AJ R<|mA R<|aZ<|aU<|mM R<|mM R<|xU R<|aZ<|cI R h4 (λI=>?_) λI=>?_
  ·refine aT λJ=>aF [5] ?_
   exact aR<|mM R<|mA R<|aZ<|J _<|Zj<|yI (A _<|xH l I) R
  exact Zd<|c8 _<|aR<|AG I λx5 M h6=>xA R M<|mM R<|Zh<|Zx h6 (AH [(q 0)]) wk
 exact Zn<|u _ _ wk<|J1 _ (AH [(q 0)])<|xH l E
theorem tH{l q r}(h:NR l q=some r):AO prog 218 [.agg<|CA l,.agg<|CA q] (rI r):=by
 unfold NR at h
 refine mF func218 ntmps218 R λj=>aU<|sS R (Ay (cs:=(CA l)) 2 R iL R R)<|sS R (Ay (cs:=(CA q)) 3 R iL R R)<|mA R<|aZ<|aT λC=>AG h λu w E=>?_
 refine rP 9 [pO 5<|.ptr 2 j 0 0,pO 6<|rI l.Row,pO 7<|.ptr 3 (j+1) 0 0,pO 8<|rI q.Row,pO 9<|rI u,pO 10<|.ptr 2 j 0 1,pO 11<|rI l.Col,pO 12<|.ptr 3 (j+1) 0 1,pO 13<|rI q.Col] BJ R (by exact⟨oB [(2,.ptr 2 j 0 0)] [(2,some<|.box j 140<|CA l)]<|fB R GE (.inl R) (λ_=>R) R,oB [(5,.ptr 2 j 0 0)] [(2,some<|.box j 140<|CA l)]<|AZ (a:=rI l.Row) R AJ (.inl R) R R,oB [(3,.ptr 3 (j+1) 0 0)] [(3,some<|.box (j+1) 140<|CA q)]<|fB R GE (.inl R) (λ_=>R) R,oB [(7,.ptr 3 (j+1) 0 0)] [(3,some<|.box (j+1) 140<|CA q)]<|AZ (a:=rI q.Row) R AJ (.inl R) R R,oD (λ_=>[(6,rI l.Row),(8,rI q.Row)]) (λ_=>[]) λF e O n=>ER (r:=rI u) (caps:=[]) (bs:=[rI l.Row,rI q.Row]) R (.inl R) R ⟨⟨_,(.inl R),.d R⟩,⟨_,(.inl R),.d R⟩,Za⟩ (λ_=>SK<|w) R,oB [(2,.ptr 2 j 0 0)] [(2,some<|.box j 140<|CA l)]<|fB R HR (.inl R) (λ_=>R) R,oB [(10,.ptr 2 j 0 1)] [(2,some<|.box j 140<|CA l)]<|AZ (a:=rI l.Col) R AJ (.inl R) R R,oB [(3,.ptr 3 (j+1) 0 0)] [(3,some<|.box (j+1) 140<|CA q)]<|fB R HR (.inl R) (λ_=>R) R,oB [(12,.ptr 3 (j+1) 0 1)] [(3,some<|.box (j+1) 140<|CA q)]<|AZ (a:=rI q.Col) R AJ (.inl R) R R,Za⟩) λF T=>?_
 refine A7 [0,1,2,3,4,5,6,7,8,9,10,11,12,13] [2,3] ?_
 exact AG E λI A J=>cL (SK<|A) R<|sS R (Bw 15 R B9 (f:=(Aj .i64)) (l:=([u,I]:List Int)) ⟨R,⟨_,iL,R⟩,R,⟨_,iL,R⟩,Za⟩ R (λ_=>R) R)<|AG J λU B M=>cL (Zp<|B) R<|mA R<|aZ<|C _<|Zj<|yI M R
theorem nY{C a c n r}(h:RF C a c n=some r):AO prog 195 [qe C,rI a,rI c,rB n] (rI r):=by
 unfold RF at h
 refine mF func195 ntmps195 R λn0=>aU<|mA R<|aZ<|aS λK2 c2 I=>aU<|mM R<|xL Cq R<|mM R<|aZ<|Zf<|BI h λo1 E J l=>?_
 have J1:∀(u2:Unit) (i5:NN),o1=.nrm u2→K2 ⟨[],[],(i5 0),79⟩:=by
  intro u2 i5 e
  have h1:=J _ e
  exact c2 _<|zI h1 R id
 refine Zz (λ(M:Int) F=>⟨[(0,qe C),(1,rI a),(2,rI c),(3,rB n),(12,qe C),(13,rL C),(14,rI M)],[],(F 0),79⟩) (AH [n0]) E wk ?_
 intro M F v1 O j
 have h2:RU C a c n M=some v1:=O;unfold RU at h2
 refine aU<|xS R<|aZ<|aT λc6=>cI R h2 (λT=>?_) λT=>?_
 ·refine Zd<|c6 _<|aT λc7=>Zf<|aU<|mM R<|AG T λq U h4=>xI Cq R U<|xB ((CA q)) Fx R<|sS R (BB (cs:=NY) 10 R Ma R R)<|mA R<|Zk R R (Af (ds:=(CA q)) R Mq iL R iL R R R R)<|aZ<|aT λc9=>Zf<|aU<|lF GE AJ R R<|xS R<|mM R<|vF GE AJ R R<|vM R<|vQ R (Cs R (iR R)<|iR R)<|xO R<|mM R<|vF HR AJ R R<|vQ R (B7 R (iR R) iL)<|xO R<|mM R<|vF HR AJ R R<|vM R<|vQ R (Cs R (iR R)<|iR R)<|xO R<|mA R<|aZ<|cI R h4 (λV=>?_) λV=>?_
  ·exact zI (l _<|xH j V) R id
  refine aT λX=>aG [0,1,2,3,9,10,12,13,14] [10] ?_
  refine aR<|lF FY AJ R R<|xS R<|mM R<|vF FY AJ R R<|vQ R (BD R (iR R) iL)<|xO R<|mA R<|aZ<|X _<|cI R V (λY=>?_) λY=>?_
  ·exact zI (l _<|xH j Y) R id
  refine aU<|lF Hp BC R R<|AG Y λr1 Z h7=>cL (uI<|Z) R<|sQ R (A0 R iL)<|mA R<|aZ<|cI R h7 (λh8=>?_) λh8=>?_
  ·exact zI (l _<|xH j h8) R id
  refine Zd<|c9 _<|aT λa0=>aT λa1=>aG [0,1,2,3,9,10,12,13,14] [10] ?_
  refine aR<|lF HU BA R R<|AG h8 λe1 a2 h9=>cL (US<|a2) R<|mA R<|aZ<|a1 _<|aU<|mM R<|xU R<|aZ<|cI R h9 (λu=>?_) λu=>?_
  ·refine aT λa6=>aF [11] ?_
   exact aR<|mM R<|mA R<|aZ<|a6 _<|Zj<|yI (l _<|xH j u) R
  refine Zd<|a0 _<|aT λa7=>aU<|xC Fx R<|AG u λr2 a8 aa=>cL (mZ<|a8) R<|mM R<|vM R<|vQ R (A0 R<|iR R)<|xN R<|aZ<|cI R aa (λw=>?_) λw=>?_
  ·exact zI (l _<|xH j w) R id
  refine Zd<|a7 _<|aT λab=>aG [0,1,2,3,9,10,12,13,14] [10] ?_
  refine ZA BJ (by kernel_rfl) ?_
  refine qP R (AK R iL)<|qP R (BD R iL iL)<|qP R (AK R iL)<|qO R (AK R iL)<|qO R (AK R iL)<|AG w λx5 ac ad=>qO R (CF R (iR R) iL<|AP ac)<|AG ad λA ae af=>qO R (Ap R Cq.slice (iR R) (iR R) (λ_=>R)<|AP ae)<|qO R (CU (cs:=(CA A)) R Fx (iR R) R R)<|qO R (D5 R Fx iL R R)<|AG af λr3 ag ah=>HS (.one R R R) R R (r:=rI r3) (caps:=[]) (bs:=[.agg<|CA A,.agg<|CA q]) R iL R ⟨⟨_,(iR R),.g (cs:=[.int .i64 A.Row,.int .i64 A.Col,.str A.Text,.int .i64 A.Ref,.sl<|A.Attrs.map AC.row]) R R⟩,⟨_,(iR R),.g (cs:=[.int .i64 q.Row,.int .i64 q.Col,.str q.Text,.int .i64 q.Ref,.sl<|q.Attrs.map AC.row]) R R⟩,Za⟩ (λhg=>tH<|AP ag hg) R<|qO R (Cs R (iR R) iL)<|qP R (BP R iL<|iR R)<|AQ.nil<|ab _<|cI R ah (λB=>?_) λB=>?_
  ·exact zI (l _<|xH j B) R id
  exact Zd<|c7 _<|aR<|AG B λx7 ai aj=>xA R ai<|mM R<|Zh<|Zx aj (AH [((F 0)+1)]) wk
 exact Zn<|I _ _ wk<|J1 _ (AH [(F 0)])<|xH j T
theorem pV{j a c r}(h:PL j a c=some r):AO prog 196 [.agg<|BT j,rI a,rI c] (rB r):=by
 unfold PL at h
 refine mF func196 ntmps196 R λA=>aU<|sS R (Ay (cs:=(BT j)) 3 R iL R R)<|mA R<|aZ<|aU<|lF EG AJ R R<|sQ R (Cs R iL iL)<|mM R<|vF E5 AJ R R<|vQ R (Cs R (iR R) iL)<|xN R<|mM R<|vF IN AJ R R<|vQ R (Cs R (iR R) iL)<|xN R<|mM R<|vF H8 AJ R R<|vQ R (Cs R (iR R) iL)<|xN R<|mM R<|vF EG AJ R R<|vM R<|vQ R (B7 R (iR R)<|iR R)<|xN R<|mM R<|vF E5 AJ R R<|vM R<|vQ R (B7 R (iR R)<|iR R)<|xN R<|mM R<|vF IN AJ R R<|vM R<|vF EG AJ R R<|AG h λB l u=>vQ R (CF R (iR R) (iR R)<|AP l)<|vQ R (FC R (iR R)<|iR R)<|xN R<|mM R<|vF H8 AJ R R<|vM R<|vF E5 AJ R R<|AG u λC q w=>vQ R (CF R (iR R) (iR R)<|AP q)<|vQ R (FC R (iR R)<|iR R)<|xN R<|mA R<|aZ ?_
 exact Zj<|yB w R
theorem oF{j l r}(h:Qk j l=some r):AO prog 197 [.agg<|BT j,.agg<|BT l] (rB r):=by
 unfold Qk at h
 exact mF func197 ntmps197 R λq=>aU<|sS R (Ay (cs:=(BT j)) 2 R iL R R)<|sS R (Ay (cs:=(BT l)) 3 R iL R R)<|mA R<|aZ<|aU<|lF EG AJ R R<|lF EG AJ R R<|xS R<|mM R<|vF EG AJ R R<|vF EG AJ R R<|vQ R (Aq R (iR R)<|iR R)<|vQ R (AK R<|iR R)<|wQ R (fB R E5 iL fR R)<|wQ R (AZ (a:=rI j.Col) R AJ (iR R) R R)<|wQ R (fB R E5 iL fR R)<|wQ R (AZ (a:=rI l.Col) R AJ (iR R) R R)<|wQ R (B7 R (iR R)<|iR R)<|vQ R (BP R (iR R)<|iR R)<|xO R<|mA R<|aZ<|Zj<|yB h R
theorem uk{j l r}(h:Rj j l=some r):AO prog 200 [.agg<|BT j,.agg<|BT l] (rB r):=by
 unfold Rj at h
 exact mF func200 ntmps200 R λI=>aU<|sS R (Ay (cs:=(BT j)) 2 R iL R R)<|sS R (Ay (cs:=(BT l)) 3 R iL R R)<|mA R<|aZ<|aU<|lF EG AJ R R<|lF EG AJ R R<|lF IN AJ R R<|AG h λJ q B=>xA R q<|xS R<|mM R<|vF EG AJ R R<|vF EG AJ R R<|vF IN AJ R R<|AG B λM u C=>vQ R (G5 R (iR R) (iR R)<|AP u)<|vQ R (B7 R (iR R)<|iR R)<|xN R<|mM R<|vF E5 AJ R R<|vF E5 AJ R R<|vF H8 AJ R R<|AG C λO w E=>vQ R (G5 R (iR R) (iR R)<|AP w)<|vQ R (B7 R (iR R)<|iR R)<|xN R<|mM R<|vF E5 AJ R R<|vF E5 AJ R R<|vF H8 AJ R R<|AG E λT A F=>vQ R (G5 R (iR R) (iR R)<|AP A)<|vQ R (B7 R (iR R)<|iR R)<|xN R<|mA R<|aZ<|Zj<|yB F R
theorem oe{l:As}{q:As}{r:Bool}{j:Nat}(h:TD l q=some r):BY prog 199 1 [.agg<|BT q,.ptr 1000 j 0 0] [(1000,some<|.box j 211<|BT l)] (λu h'=>∃(i:Nat→Nat),u=rB r∧h'=[(1000,some<|.box j 211<|BT l)]):=by
 unfold TD at h
 refine Dq func199 R R ntmps199 (Zw R) λB=>aU<|sS R (Ay (cs:=(BT q)) 2 R iL R R)<|mA R<|aZ<|aU<|xC E1 R<|xC E1 R<|AG h λA w C=>cL (uk<|w) R<|mA R<|aZ ?_
 exact Zj<|ZM (s':=⟨[(3,rB A)],[(1000,some<|.box j 211<|BT l)],(B+1),7⟩) wk<|B8 (λ(r:Bool) u h'=>∃(i:Nat→Nat),u=rB r∧h'=[(1000,some<|.box j 211<|BT l)]) C<|by exact⟨rB A,[(1000,some<|.box j 211<|BT l)],R,⟨.inr R,Za⟩,R,R,AH [],R,R⟩
theorem tV{l:As}{q:List As}{r:Int}{j:Nat}(h:TI l q=some r):BY prog 219 1 [qc q,.fn 199 [.ptr 1000 j 0 0]] [(1000,some<|.box j 211<|BT l)] (λu h'=>∃(i:Nat→Nat),u=rI r∧h'=[(1000,some<|.box j 211<|BT l)]):=by
 unfold TI at h
 refine Dq func219 R R ntmps219 (Zw R) λn0=>aU<|mA R<|aZ<|aS λK2 c2 C=>aU<|mM R<|xL Cn R<|mM R<|aZ<|Zf<|BI h λo1 w E F=>?_
 have J1:∀(Z:Unit) (I:NN),o1=.nrm Z→K2 ⟨[],[(1000,some<|.box j 211<|BT l)],(I 0),19⟩:=by
  intro Z I e
  have h1:=E _ e
  refine c2 _<|aU<|mA R<|aZ ?_
  exact Zj<|ZM (s':=⟨[(4,rI<|(-1))],[(1000,some<|.box j 211<|BT l)],(I 0),19⟩) wk<|B8 (λ(r:Int) u h'=>∃(i:Nat→Nat),u=rI r∧h'=[(1000,some<|.box j 211<|BT l)]) h1<|by exact⟨rI<|(-1),[(1000,some<|.box j 211<|BT l)],R,⟨.inr R,Za⟩,R,R,AH [],R,R⟩
 refine Zz (λ(A:Int) J=>⟨[(0,qc q),(1,.fn 199 [.ptr 1000 j 0 0]),(7,rL q),(8,rI A)],[(1000,some<|.box j 211<|BT l)],(J 0),19⟩) (AH [n0]) w wk ?_
 intro A J v1 M B
 have h2:OW l q A=some v1:=M;unfold OW at h2
 refine aU<|xS R<|aZ<|aT λc6=>cI R h2 (λO=>?_) λO=>?_
 ·refine Zd<|c6 _<|aT λc7=>Zf<|aU<|mM R<|mA R<|aZ<|aT λc9=>aR<|mM R<|mM R<|mM R<|AG O λx4 T h4=>xI Cn R T<|xB ((BT x4)) E1 R<|AG h4 λr1 U h5=>?_
  refine Zo [1000] (hc:=[(1000,some<|.box j 211<|BT l)]) (bs:=[.agg<|BT x4]) (caps:=[.ptr 1000 j 0 0]) R R R R iL R ⟨.inl ⟨iL,R⟩,Za⟩ ⟨R,R,R,Za⟩ (by decide) (oe U) ?_
  intro i6 n1
  refine A7 [0,1,5,7,8,9,10,11,12,13,14,15,16] [1000] ?_
  refine aZ<|c9 _<|cI R h5 (λV=>?_) λV=>?_
  ·refine aT λX=>aG [5] [1000] ?_
   refine aR<|mM R<|mA R<|oZ X ?_
   exact Zj<|ZM (s':=⟨[(4,rI A)],[(1000,some<|.box j 211<|BT l)],n1,19⟩) wk<|B8 (λ(r:Int) u h'=>∃(i:Nat→Nat),u=rI r∧h'=[(1000,some<|.box j 211<|BT l)]) (F _<|xH B V)<|by exact⟨rI A,[(1000,some<|.box j 211<|BT l)],R,⟨.inr R,Za⟩,R,R,AH [],R,R⟩
  refine Zd<|c7 _<|aG [0,1,7,8] [1000] ?_
  exact aR<|AG V λx5 Y h7=>xA R Y<|mM R<|Zh<|Zx h7 (AH [n1]) wk
 exact Zn<|C _ _ wk<|J1 _ (AH [(J 0)])<|xH B O
theorem mG{l:As}{q:List As}{r:Bool}{j:Nat}(h:Ms l q=some r):BY prog 198 1 [qc q,.fn 199 [.ptr 1000 j 0 0]] [(1000,some<|.box j 211<|BT l)] (λu h'=>∃(i:Nat→Nat),u=rB r∧h'=[(1000,some<|.box j 211<|BT l)]):=by
 unfold Ms at h
 refine Dq func198 R R ntmps198 (Zw R) λF=>aU<|mA R<|aZ<|aT λB=>aR<|mM R<|mM R<|AG h λA w C=>?_
 refine Zo [1000] (hc:=[(1000,some<|.box j 211<|BT l)]) (bs:=[qc q,.fn 199 [.ptr 1000 j 0 0]]) (caps:=[]) R R R R iL R ⟨.inl ⟨iL,R⟩,.inl ⟨iL,R⟩,Za⟩ ⟨R,R,R,Za⟩ (by decide) (tV w) ?_
 intro I E
 refine A7 [0,1,4,5,6,7] [1000] ?_
 refine sQ R (Cs R iL iL)<|mA R<|oZ B ?_
 exact Zj<|ZM (s':=⟨[(4,rB<|(decide<|0≤A))],[(1000,some<|.box j 211<|BT l)],E,9⟩) wk<|B8 (λ(r:Bool) u h'=>∃(i:Nat→Nat),u=rB r∧h'=[(1000,some<|.box j 211<|BT l)]) C<|by exact⟨rB<|(decide<|0≤A),[(1000,some<|.box j 211<|BT l)],R,⟨.inr R,Za⟩,R,R,AH [],R,R⟩
theorem u5{q r}(h:O4 q=some r):AO prog 171 (WH q) (rI r):=by
 unfold O4 at h
 refine mF func171 ntmps171 R λI=>aU<|sS R (Ay (cs:=(Da q)) 1 R iL R R)<|mA R<|aZ<|aT λc2=>aU<|lF Ge AJ R R<|xS R<|mM R<|vF Ge AJ R R<|vQ R (BD R (iR R) iL)<|xO R<|mM R<|vF Gr AJ R R<|vQ R (B7 R (iR R) iL)<|xO R<|mM R<|vF Gr AJ R R<|vQ R (BD R (iR R) iL)<|xO R<|aZ<|cI R h (λJ=>?_) λJ=>?_
 ·exact zI J R id
 refine Zd<|c2 _<|aT λc5=>aT λc6=>aG [1] [1] ?_
 refine aR<|lF GG FA R R<|lF Ge AJ R R<|lF Gr AJ R R<|AG J λe1 M h2=>cL (nY<|M) R<|mA R<|aZ<|c6 _<|aU<|mM R<|xU R<|aZ<|cI R h2 (λO=>?_) λO=>?_
 ·refine aT λc8=>aF [3] ?_
  exact aR<|mM R<|mA R<|aZ<|c8 _<|Zj<|yI O R
 refine Zd<|c5 _<|aS λK9 c9 T=>aT λU=>aG [1] [1] ?_
 refine aR<|lF Fh DR R R<|xL Cn R<|mM R<|aZ<|U _<|Zf<|BI O λo1 F V l=>?_
 have J1:∀(u2:Unit) (i5:NN),o1=.nrm u2→K9 ⟨[],[],(i5 0),81⟩:=by
  intro u2 i5 e
  have h4:=V _ e
  exact c9 _<|zI h4 R id
 refine Zz (λ(X:Int) C=>⟨[(1,.ptr 1 I 0 0),(35,qc q.Merges),(36,rL q.Merges),(37,rI X)],[(1,some<|.box I 43<|Da q)],(C 0),81⟩) (AH [(I+1)]) F wk ?_
 intro X C v1 Y j
 have h5:O0 q X=some v1:=Y;unfold O0 at h5
 refine aU<|xS R<|aZ<|aT λZ=>cI R h5 (λh6=>?_) λh6=>?_
 ·refine Zd<|Z _<|aT λa0=>Zf<|aU<|mM R<|AG h6 λu a1 h7=>xI Cn R a1<|xB ((BT u)) E1 R<|sS R (BB (cs:=[rI 0,rI 0,rI 0,rI 0]) 5 R ez R R)<|mA R<|Zk R R (Af (ds:=(BT u)) R fg iL R iL R R R R)<|aZ<|Zf<|aU<|xC E1 R<|lF Ge AJ R R<|lF Gr AJ R R<|AG h7 λr1 a2 h8=>cL (pV<|a2) R<|sQ R (A0 R iL)<|mA R<|aZ<|cI R h8 (λh9=>?_) λh9=>?_
  ·exact zI (l _<|xH j h9) R id
  refine aT λa6=>aG [1,4,5,35,36,37] [1,5] ?_
  refine aR<|lF IN AJ R R<|xQ R<|mM R<|vF H8 AJ R R<|vQ R (Aq R (iR R) iL)<|xN R<|mA R<|aZ<|a6 _<|cI R h9 (λw=>?_) λw=>?_
  ·exact zI (l _<|xH j w) R id
  refine aT λa7=>?_
  refine ZA BJ (by kernel_rfl) ?_
  refine qP R (AK R iL)<|qP R (BD R iL iL)<|qP R (AK R iL)<|qO R (fB R Fh iL fR R)<|qO R (AZ (a:=qc q.Merges) R DR (iR R) R R)<|qO R (AK R iL)<|AG w λx5 a8 aa=>qO R (CF R (iR R) iL<|AP a8)<|AG aa λE ab ac=>qO R (Ap R Cn.slice (iR R) (iR R) (λ_=>R)<|AP ab)<|qO R (CU (cs:=(BT E)) R E1 (iR R) R R)<|qO R (D5 R E1 iL R R)<|AG ac λr2 ad ae=>HS (.one R R R) R R (r:=rB r2) (caps:=[]) (bs:=[.agg<|BT E,.agg<|BT u]) R iL R ⟨⟨_,(iR R),.g (cs:=[.int .i64 E.Row,.int .i64 E.Col,.int .i64 E.H,.int .i64 E.W]) R R⟩,⟨_,(iR R),.g (cs:=[.int .i64 u.Row,.int .i64 u.Col,.int .i64 u.H,.int .i64 u.W]) R R⟩,Za⟩ (λhg=>oF<|AP ad hg) R<|qO R (A0 R<|iR R)<|qP R (BP R iL<|iR R)<|qP R (Do R iL)<|AQ.nil<|a7 _<|cI R ae (λA=>?_) λA=>?_
  ·exact zI (l _<|xH j A) R id
  refine aT λaf=>aG [1,4,5,35,36,37] [1,5] ?_
  refine aR<|lF Fh DR R R<|mM R<|AG A λl1 ag ah=>?_
  refine sQ R (TC R Cn.slice iL (by exact R) (by exact⟨_,iL⟩) (λ_=>R) λ_=>ag) ?_
  refine sQ R (QL (bs:=[.ptr 5 (C 0) 0 0]) R<|by exact⟨iL,Za⟩) ?_
  refine AG ah λr3 ai aj=>?_
  refine Zo [5] (hc:=[(1000,some<|.box (C 0) 211<|BT u)]) (bs:=[qc l1,.fn 199 [.ptr 1000 (C 0) 0 0]]) (caps:=[]) R R R R iL R ⟨.inl ⟨iL,R⟩,.inl ⟨iL,R⟩,Za⟩ ⟨R,R,R,Za⟩ (by decide) (mG ai) ?_
  intro i6 n1
  refine A7 [1,4,5,35,36,37,74,75,76,77,78,79] [1,5] ?_
  refine mA R<|aZ<|af _<|cI R aj (λB=>?_) λB=>?_
  ·exact zI (l _<|xH j B) R id
  refine Zd<|a0 _<|aG [1,35,36,37] [1] ?_
  exact aR<|AG B λx7 ak al=>xA R ak<|mM R<|Zh<|Zx al (AH [n1]) wk
 exact Zn<|T _ _ wk<|J1 _ (AH [(C 0)])<|xH j h6
theorem mP{k j r}(h:PX k j=some r):AO prog 172 [rI k,qe j] (rI r):=by
 unfold PX at h
 refine mF func172 ntmps172 R λX=>aU<|mA R<|aZ<|aS λY Z A=>aU<|mM R<|xL Cq R<|mM R<|aZ<|Zf<|BI h λo1 l B C=>?_
 have J1:∀(T:Unit) (U:NN),o1=.nrm T→Y ⟨[],[],(U 0),36⟩:=by
  intro T U e
  have h1:=B _ e
  exact Z _<|zI h1 R id
 refine Zz (λ(E:Int) u=>⟨[(0,rI k),(7,qe j),(8,rL j),(9,rI E)],[],(u 0),36⟩) (AH [X]) l wk ?_
 intro E u v1 F q
 have V:Oz k j E=some v1:=F;unfold Oz at V
 refine aU<|xS R<|aZ<|aT λc6=>cI R V (λI=>?_) λI=>?_
 ·refine Zd<|c6 _<|aT λc7=>Zf<|aU<|AG I λw J h4=>xI Cq R J<|xB ((CA w)) Fx R<|sS R (BB (cs:=NY) 6 R Ma R R)<|Zk R R (Af (ds:=(CA w)) R Mq iL R iL R R R R)<|aZ<|aU<|mM R<|xQ R<|mM R<|vF Hp BC R R<|vQ R (Ds R (iR R) iL)<|vQ R (AK R<|iR R)<|wQ R (fB R HU iL fR R)<|wQ R (AZ (a:=qa w.Attrs) R BA (iR R) R R)<|wQ R (Bu R Ac.slice<|iR R)<|wQ R (BD R (iR R) iL)<|vQ R (CM R (iR R)<|iR R)<|xN R<|mM R<|vM R<|vQ R (Aq R (iR R) iL)<|vQ R (AK R<|iR R)<|wQ R (fB R FY iL fR R)<|wQ R (AZ (a:=rI w.Ref) R AJ (iR R) R R)<|wQ R (Cf R (iR R) iL)<|vQ R (BP R (iR R)<|iR R)<|xO R<|aZ<|cI R h4 (λM=>?_) λM=>?_
  ·exact zI (C _<|xH q M) R id
  refine Zd<|c7 _<|aF [0,7,8,9] ?_
  exact aR<|AG M λx5 O h6=>xA R O<|mM R<|Zh<|Zx h6 (AH [((u 0)+1)]) wk
 exact Zn<|A _ _ wk<|J1 _ (AH [(u 0)])<|xH q I
theorem p9{l r}(h:PI l=some r):AO prog 220 [rS l] (rB r):=by
 unfold PI at h
 refine mF func220 ntmps220 R λn0=>aU<|mA R<|aZ<|aT λc2=>aU<|mM R<|sQ R (Bo R iL iL)<|mM R<|vM R<|vQ R (DE R underlying9<|iR R)<|vQ R (BD R (iR R) iL)<|xO R<|mM R<|vM R<|vM R<|vQ R (DE R underlying9<|iR R)<|AG h λx1 B h1=>vQ R (CF R (iR R) iL<|AP B)<|AG h1 λa0 q h2=>vQ R (DP R underlying9 (iR R) (iR R)<|AP q)<|vQ R (Aq R (iR R) iL)<|xO R<|aZ<|cI R h2 (λC=>?_) λC=>?_
 ·exact zB C R id
 refine Zd<|c2 _<|aS λK5 c5 E=>aT λc6=>aF [0] ?_
 refine aR<|mM R<|sQ R (DE R underlying9 iL)<|mM R<|aZ<|c6 _<|Zf<|BI C λo1 u F I=>?_
 have J1:∀(X:Unit) (Y:NN),o1=.nrm X→K5 ⟨[],[],(Y 0),35⟩:=by
  intro X Y e
  have h4:=F _ e
  exact c5 _<|zB h4 R id
 refine Zz (λ(J:Int) A=>⟨[(0,rS l),(20,rL l),(21,rI J)],[],(A 0),35⟩) (AH [n0]) u wk ?_
 intro J A v1 M w
 have Z:TB l J=some v1:=M;unfold TB at Z
 refine aU<|xS R<|aZ<|aT λc9=>cI R Z (λO=>?_) λO=>?_
 ·refine Zd<|c9 _<|aT λT=>Zf<|aU<|mM R<|mA R<|aZ<|aU<|mM R<|mM R<|AG O λa1 j h7=>sQ R (DP R underlying9 iL iL λ_=>j)<|xS R<|mM R<|vM R<|vM R<|vQ R (DP R underlying9 (iR R) (iR R) λ_=>j)<|vQ R (BD R (iR R) iL)<|xO R<|aZ<|cI R h7 (λU=>?_) λU=>?_
  ·exact zB (I _<|xH w U) R id
  refine Zd<|T _<|aF [0,20,21] ?_
  exact aR<|AG U λx5 V h9=>xA R V<|mM R<|Zh<|Zx h9 (AH [(A 0)]) wk
 exact Zn<|E _ _ wk<|J1 _ (AH [(A 0)])<|xH w O
theorem mO{j r}(h:O2 j=some r):AO prog 201 (mm j) (rI r):=by
 unfold O2 at h
 refine mF func201 ntmps201 R λC=>aU<|sS R (Ay (cs:=(Ck j)) 1 R iL R R)<|mA R<|aZ<|aT λc2=>Zf<|aU<|lF HL AJ R R<|xU R<|mM R<|vF HL AJ R R<|vQ R (Cf R (iR R) iL)<|xN R<|mA R<|aZ<|cI R h (λM=>?_) λM=>?_
 ·exact zI M R id
 refine aT λc5=>aG [1] [1] ?_
 refine aR<|lF I8 AJ R R<|xS R<|mM R<|vF I8 AJ R R<|vQ R (BD R (iR R) iL)<|xO R<|mM R<|vF Ll AJ R R<|vQ R (B7 R (iR R) iL)<|xO R<|mM R<|vF Ll AJ R R<|vQ R (BD R (iR R) iL)<|xO R<|mM R<|vF X4 AJ R R<|vQ R (B7 R (iR R) iL)<|xO R<|mM R<|vF X4 AJ R R<|vQ R (BD R (iR R) iL)<|xO R<|mA R<|aZ<|c5 _<|cI R M (λO=>?_) λO=>?_
 ·exact zI O R id
 refine aS λK7 c7 E=>aT λc8=>aG [1] [1] ?_
 refine aR<|lF HL AJ R R<|xQ R<|mM R<|vF UK BC R R<|vQ R (Ds R (iR R) iL)<|vQ R (AK R<|iR R)<|wQ R (fB R MW iL fR R)<|wQ R (AZ (a:=rS j.Value) R BC (iR R) R R)<|wQ R (Ds R (iR R) iL)<|vQ R (CM R (iR R)<|iR R)<|xN R<|mA R<|aZ<|c8 _<|A3 O λp1 F T=>?_
 have J1:∀(U:Bool) (J:NN),p1=U→K7 ⟨[(1,.ptr 1 C 0 0),(41,rB U)],[(1,some<|.box C 176<|Ck j)],(J 0),116⟩:=by
  intro U J e
  have h3:=T _ e
  refine c7 _<|cI R h3 (λV=>?_) λV=>?_
  ·exact zI V R id
  refine aU<|lF HL AJ R R<|xQ R<|mM R<|vF QP AJ R R<|vQ R (B7 R (iR R) iL)<|vQ R (AK R<|iR R)<|wQ R (fB R QP iL fR R)<|wQ R (AZ (a:=rI j.Parent) R AJ (iR R) R R)<|wQ R (BD R (iR R) iL)<|vQ R (CM R (iR R)<|iR R)<|xN R<|mA R<|aZ<|cI R V (λX=>?_) λX=>?_
  ·exact zI X R id
  refine aS λY Z l=>aT λa0=>aG [1] [1] ?_
  refine aR<|lF HL AJ R R<|xQ R<|mM R<|vF R9 BC R R<|AG X λr1 a1 h6=>vL (λhg=>p9<|AP a1 hg) R<|vQ R (A0 R<|iR R)<|xN R<|mA R<|aZ<|a0 _<|A3 h6 λp2 I a2=>?_
  have J2:∀(x2:Bool) (i2:NN),p2=x2→Y ⟨[(1,.ptr 1 C 0 0),(82,rB x2)],[(1,some<|.box C 176<|Ck j)],(i2 0),116⟩:=by
   intro x2 i2 e
   have h7:=a2 _ e
   refine Z _<|cI R h7 (λh8=>?_) λh8=>?_
   ·exact zI h8 R id
   refine aU<|lF HL AJ R R<|xQ R<|mM R<|vF MW BC R R<|vQ R (Ds R (iR R) iL)<|xN R<|mM R<|vF MW BC R R<|AG h8 λr2 a6 h9=>vL (λhg=>YI<|AP a6 hg) R<|vQ R (A0 R<|iR R)<|xN R<|mA R<|aZ<|cI R h9 (λq=>?_) λq=>?_
   ·exact zI q R id
   exact Zd<|c2 _<|zI q R id
  refine aC R (λu=>?_) λu=>?_
  ·have w:=Br u I
   exact Zd<|l _ _ wk<|J2 _ (AH [(J 0)]) (Zb w).symm
  ·have w:=Bt u I
   refine aG [1] [1] ?_
   exact aR<|lF HL AJ R R<|xQ R<|mM R<|vF UK BC R R<|AG w λr3 a7 a8=>vL (λhg=>gt<|AP a7 hg) R<|vQ R (A0 R<|iR R)<|xN R<|mA R<|Zh<|l _ _ wk<|J2 _ (AH [(J 0)]) (Zb a8).symm
 refine aC R (λA=>?_) λA=>?_
 ·have B:=Br A F
  exact Zd<|E _ _ wk<|J1 _ (AH [(C+1)]) (Zb B).symm
 ·have B:=Bt A F
  refine aG [1] [1] ?_
  exact aR<|lF HL AJ R R<|xQ R<|mM R<|vF QP AJ R R<|vQ R (Cf R (iR R) iL)<|vQ R (AK R<|iR R)<|wQ R (fB R R9 iL fR R)<|wQ R (AZ (a:=rS j.Place) R BC (iR R) R R)<|wQ R (Ds R (iR R) iL)<|vQ R (CM R (iR R)<|iR R)<|xN R<|mA R<|Zh<|E _ _ wk<|J1 _ (AH [(C+1)]) (Zb B).symm
theorem nq{l q r}(h:Ps l q=some r):AO prog 202 [.agg<|Ck l,.agg<|Ck q] (rI r):=by
 unfold Ps at h
 refine mF func202 ntmps202 R λj=>aU<|sS R (Ay (cs:=(Ck l)) 2 R iL R R)<|sS R (Ay (cs:=(Ck q)) 3 R iL R R)<|mA R<|aZ<|aT λC=>AG h λu w E=>?_
 refine rP 9 [pO 5<|.ptr 2 j 0 0,pO 6<|rI l.Clock,pO 7<|.ptr 3 (j+1) 0 0,pO 8<|rI q.Clock,pO 9<|rI u,pO 10<|.ptr 2 j 0 1,pO 11<|rI l.Site,pO 12<|.ptr 3 (j+1) 0 1,pO 13<|rI q.Site] BJ R (by exact⟨oB [(2,.ptr 2 j 0 0)] [(2,some<|.box j 176<|Ck l)]<|fB R I8 (.inl R) (λ_=>R) R,oB [(5,.ptr 2 j 0 0)] [(2,some<|.box j 176<|Ck l)]<|AZ (a:=rI l.Clock) R AJ (.inl R) R R,oB [(3,.ptr 3 (j+1) 0 0)] [(3,some<|.box (j+1) 176<|Ck q)]<|fB R I8 (.inl R) (λ_=>R) R,oB [(7,.ptr 3 (j+1) 0 0)] [(3,some<|.box (j+1) 176<|Ck q)]<|AZ (a:=rI q.Clock) R AJ (.inl R) R R,oD (λ_=>[(6,rI l.Clock),(8,rI q.Clock)]) (λ_=>[]) λF e O n=>ER (r:=rI u) (caps:=[]) (bs:=[rI l.Clock,rI q.Clock]) R (.inl R) R ⟨⟨_,(.inl R),.d R⟩,⟨_,(.inl R),.d R⟩,Za⟩ (λ_=>SK<|w) R,oB [(2,.ptr 2 j 0 0)] [(2,some<|.box j 176<|Ck l)]<|fB R Ll (.inl R) (λ_=>R) R,oB [(10,.ptr 2 j 0 1)] [(2,some<|.box j 176<|Ck l)]<|AZ (a:=rI l.Site) R AJ (.inl R) R R,oB [(3,.ptr 3 (j+1) 0 0)] [(3,some<|.box (j+1) 176<|Ck q)]<|fB R Ll (.inl R) (λ_=>R) R,oB [(12,.ptr 3 (j+1) 0 1)] [(3,some<|.box (j+1) 176<|Ck q)]<|AZ (a:=rI q.Site) R AJ (.inl R) R R,Za⟩) λF T=>?_
 refine A7 [0,1,2,3,4,5,6,7,8,9,10,11,12,13] [2,3] ?_
 exact AG E λI A J=>cL (SK<|A) R<|sS R (Bw 15 R B9 (f:=(Aj .i64)) (l:=([u,I]:List Int)) ⟨R,⟨_,iL,R⟩,R,⟨_,iL,R⟩,Za⟩ R (λ_=>R) R)<|AG J λU B M=>cL (Zp<|B) R<|mA R<|aZ<|C _<|Zj<|yI M R
theorem tq{w r}(h:OQ w=some r):AO prog 173 [qf w] (rI r):=by
 unfold OQ at h
 refine mF func173 ntmps173 R λn0=>aU<|mA R<|aZ<|aS λK2 c2 E=>aU<|mM R<|xL FI R<|mM R<|aZ<|Zf<|BI h λo1 A F B=>?_
 have J1:∀(u2:Unit) (i5:NN),o1=.nrm u2→K2 ⟨[],[],(i5 0),31⟩:=by
  intro u2 i5 e
  have h1:=F _ e
  exact c2 _<|zI h1 R id
 refine Zz (λ(I:Int) C=>⟨[(0,qf w),(6,qf w),(7,rL w),(8,rI I)],[],(C 0),31⟩) (AH [n0]) A wk ?_
 intro I C v1 J q
 have h2:Qb w I=some v1:=J;unfold Qb at h2
 refine aU<|xS R<|aZ<|aT λc6=>cI R h2 (λM=>?_) λM=>?_
 ·refine Zd<|c6 _<|aT λc7=>Zf<|aU<|mM R<|AG M λj O h4=>xI FI R O<|xB ((Ck j)) Ij R<|sS R (BB (cs:=[rI 0,rI 0,rI 0,rI 0,rI 0,.r<|.str [],.r<|.str [],.r<|.str []]) 4 R cC R R)<|mA R<|Zk R R (Af (ds:=(Ck j)) R bN iL R iL R R R R)<|aZ<|aT λc9=>aU<|xC Ij R<|AG h4 λe1 T h5=>cL (mO<|T) R<|mA R<|aZ<|aU<|mM R<|xU R<|aZ<|cI R h5 (λU=>?_) λU=>?_
  ·refine aT λV=>aF [5] ?_
   exact aR<|mM R<|mA R<|aZ<|V _<|Zj<|yI (B _<|xH q U) R
  refine Zd<|c9 _<|aT λX=>aG [0,3,4,6,7,8] [4] ?_
  refine ZA BJ (by kernel_rfl) ?_
  refine qP R (AK R iL)<|qP R (BD R iL iL)<|qP R (AK R iL)<|qO R (AK R iL)<|qO R (AK R iL)<|AG U λx5 Y h7=>qO R (CF R (iR R) iL<|AP Y)<|AG h7 λl Z h8=>qO R (Ap R FI.slice (iR R) (iR R) (λ_=>R)<|AP Z)<|qO R (CU (cs:=(Ck l)) R Ij (iR R) R R)<|qO R (D5 R Ij iL R R)<|AG h8 λr1 a0 h9=>HS (.one R R R) R R (r:=rI r1) (caps:=[]) (bs:=[.agg<|Ck l,.agg<|Ck j]) R iL R ⟨⟨_,(iR R),.g (cs:=[.int .i64 l.Clock,.int .i64 l.Site,.int .i64 l.Kind,.int .i64 l.Item,.int .i64 l.Parent,.str l.Place,.str l.Name,.str l.Value]) R R⟩,⟨_,(iR R),.g (cs:=[.int .i64 j.Clock,.int .i64 j.Site,.int .i64 j.Kind,.int .i64 j.Item,.int .i64 j.Parent,.str j.Place,.str j.Name,.str j.Value]) R R⟩,Za⟩ (λhg=>nq<|AP a0 hg) R<|qO R (Cs R (iR R) iL)<|qP R (BP R iL<|iR R)<|AQ.nil<|X _<|cI R h9 (λu=>?_) λu=>?_
  ·exact zI (B _<|xH q u) R id
  exact Zd<|c7 _<|aR<|AG u λx7 a1 a2=>xA R a1<|mM R<|Zh<|Zx a2 (AH [((C 0)+1)]) wk
 exact Zn<|E _ _ wk<|J1 _ (AH [(C 0)])<|xH q M
theorem ma{n1 r}(h:Fc n1=some r):AO prog 127 (NW n1) (rI r):=by
 unfold Fc at h
 refine mF func127 ntmps127 R λA=>aU<|sS R (Ay (cs:=(Bd n1)) 1 R iL R R)<|mA R<|aZ<|aT λc2=>Zf<|aU<|lF Ex AJ R R<|xS R<|mM R<|vF Ex AJ R R<|vQ R (BD R (iR R) iL)<|xO R<|mA R<|aZ<|cI R h (λV=>?_) λV=>?_
 ·exact zI V R id
 refine aT λc5=>aG [1] [1] ?_
 refine aR<|lF Cy AJ R R<|xS R<|mM R<|vF Cy AJ R R<|vQ R (Cs R (iR R) iL)<|xO R<|mM R<|vF Ex AJ R R<|vQ R (Aq R (iR R) iL)<|vF Cy AJ R R<|vQ R (Aq R (iR R) iL)<|vQ R (ex R underlying4 (iR R)<|iR R)<|xO R<|mA R<|aZ<|c5 _<|cI R V (λX=>?_) λX=>?_
 ·exact zI X R id
 refine Zd<|c2 _<|aT λc7=>aT λc8=>aG [1] [1] ?_
 refine aR<|lF Ub BA R R<|AG X λe1 Y h3=>cL (US<|Y) R<|mA R<|aZ<|c8 _<|aU<|mM R<|xU R<|aZ<|cI R h3 (λZ=>?_) λZ=>?_
 ·exact aU<|mM R<|mA R<|aZ<|Zj<|yI Z R
 refine Zd<|c7 _<|aT λa0=>?_
 refine ZA BJ (by kernel_rfl) ?_
 refine qP R (fB R Cy iL fR R)<|qP R (AZ (a:=rI n1.Kind) R AJ iL R R)<|AG Z λl O h5=>Ep R R R (r:=rB l) (caps:=[]) (bs:=[rI n1.Kind]) R iL R ⟨⟨_,iL,.d R⟩,Za⟩ (λ_=>X2<|O) R<|qP R (AK R iL)<|qO R (fB R Cy iL fR R)<|qO R (AZ (a:=rI n1.Kind) R AJ (iR R) R R)<|AG h5 λq a1 h6=>HS (.one R R R) R R (r:=rB q) (caps:=[]) (bs:=[rI n1.Kind]) R iL R ⟨⟨_,(iR R),.d R⟩,Za⟩ (λhg=>kX<|AP a1 hg) R<|qP R (CM R iL<|iR R)<|qP R (fB R Cy iL fR R)<|qP R (AZ (a:=rI n1.Kind) R AJ iL R R)<|AG h6 λj B h7=>Ep R R R (r:=rB j) (caps:=[]) (bs:=[rI n1.Kind]) R iL R ⟨⟨_,iL,.d R⟩,Za⟩ (λ_=>uZ<|B) R<|qP R (Do R iL)<|qP R (Do R iL)<|AQ.nil<|a0 _<|aT λa2=>aS λa6 a7 C=>aG [1,4,5] [1] ?_
 refine aR<|mM R<|sQ R (A0 R iL)<|mM R<|vF E8 B2 R R<|vQ R (Bu R Ah.slice<|iR R)<|vQ R (BD R (iR R) iL)<|xN R<|mM R<|vM R<|vQ R (A0 R<|iR R)<|vQ R (AK R<|iR R)<|wQ R (fB R GO iL fR R)<|wQ R (F0 (ds:=(Da n1.Grid)) R No (iR R) R R R) ?_
 refine wQ R (Bg R sZ (q:=[]) (by exact Za) (cs:=EH)<|by rfl) ?_
 refine A3 h7 λp1 T a8=>?_
 have J1:∀(x1:Bool) (i1:NN),p1=x1→a6 ⟨[(1,.ptr 1 A 0 0),(4,rB<|(l||q)),(5,rB j),(81,rB x1)],[(1,some<|.box A 46<|Bd n1)],(i1 0),107⟩:=by
  intro x1 i1 e
  have h8:=a8 _ e
  refine a7 _<|cI R h8 (λh9=>?_) λh9=>?_
  ·exact zI h9 R id
  refine Zd<|a2 _<|aT λaa=>Zf<|aU<|mM R<|mA R<|aZ<|cI R h9 (λF=>?_) λF=>?_
  ·refine aT λab=>?_
   refine ZA BJ (by kernel_rfl) ?_
   exact qP R (fB R E8 iL fR R)<|qP R (AZ (a:=qb n1.Flow) R B2 iL R R)<|qP R (fB R Cy iL fR R)<|qP R (AZ (a:=rI n1.Kind) R AJ iL R R)<|Ep R R R (r:=rB l) (caps:=[]) (bs:=[rI n1.Kind]) R iL R ⟨⟨_,iL,.d R⟩,Za⟩ (λ_=>X2<|O) R<|AG F λr4 ac ad=>Ep R R R (r:=rI r4) (caps:=[]) (bs:=[qb n1.Flow,rB l]) R iL R ⟨⟨_,iL,.d R⟩,⟨_,iL,.d R⟩,Za⟩ (λ_=>uR<|ac) R<|qP R (Do R iL)<|AQ.nil<|ab _<|Zj<|yI ad R
  refine aU<|mM R<|mA R<|aZ<|cI R F (λI=>?_) λI=>?_
  ·refine aT λae=>aU<|sQ R (fB R GO iL fR R)<|sQ R (F0 (ds:=(Da n1.Grid)) R No iL R R R)<|AG I λe2 af ag=>cL (u5<|af) R<|mA R<|aZ<|aT λah=>aG [1,6] [1] ?_
   refine aR<|mM R<|xU R<|aZ<|ah _<|cI R ag (λJ=>?_) λJ=>?_
   ·exact aU<|mM R<|mA R<|aZ<|Zj<|yI J R
   exact Zd<|ae _<|aU<|lF Cy AJ R R<|sQ R (fB R GO iL fR R)<|lF GG FA R R<|AG J λr5 ai aj=>cL (mP<|ai) R<|mA R<|aZ<|Zj<|yI aj R
  exact Zd<|aa _<|aU<|lF KD Gk R R<|AG I λr6 ak al=>cL (tq<|ak) R<|mA R<|aZ<|Zj<|yI al R
 refine AN.split (((!(l||q))&&(0<(n1.Flow.length:Int)))==false) (λu=>?_) λu=>?_
 ·have E:=Br u T
  refine AN.weak (by exact Rn (e':=[(1,.ptr 1 A 0 0),(4,rB<|(l||q)),(5,rB j),(51,rB<|(l||q)),(52,rB<|(!(l||q))),(53,rB<|(!(l||q))),(58,rB<|((!(l||q))&&(0<(n1.Flow.length:Int)))),(59,rB<|((!(l||q))&&(0<(n1.Flow.length:Int)))),(60,rB j),(61,rB<|(!j)),(62,rB<|(!j)),(63,.whn ((!j)==true)<|.ptr 1 A 0 4),(64,.whn ((!j)==true)<|.agg<|Da n1.Grid),(65,.whn ((!j)==true)<|.agg EH)]) u ⟨.inl R,.inl R,.inl R,.inl R,.inl R,.inl R,.inl R,.inl R,.inr iL,.inr iL,.inr iL,.inr<|.inr<|.inl ⟨_,_,R,R⟩,.inr<|.inr<|.inl ⟨_,_,R,R⟩,.inr<|.inr<|.inl ⟨_,_,R,R⟩,Za⟩) ?_
  refine AN.split ((!j)==true) (λw=>?_) λw=>?_
  ·have M:=Br w E
   refine AN.weak (by exact Rn (e':=[(1,.ptr 1 A 0 0),(4,rB<|(l||q)),(5,rB j),(51,rB<|(l||q)),(52,rB<|(!(l||q))),(53,rB<|(!(l||q))),(58,rB<|((!(l||q))&&(0<(n1.Flow.length:Int)))),(59,rB<|((!(l||q))&&(0<(n1.Flow.length:Int)))),(60,rB j),(61,rB<|(!j)),(62,rB<|(!j)),(63,.ptr 1 A 0 4),(64,.agg<|Da n1.Grid),(65,.agg EH)]) w ⟨.inl R,.inl R,.inl R,.inl R,.inl R,.inl R,.inl R,.inl R,.inl R,.inl R,.inl R,.inr iL,.inr iL,.inr iL,Za⟩) ?_
   refine AN.weak (by exact ZC (e':=[(1,.ptr 1 A 0 0),(4,rB<|(l||q)),(5,rB j),(51,rB<|(l||q)),(52,rB<|(!(l||q))),(53,rB<|(!(l||q))),(58,rB<|((!(l||q))&&(0<(n1.Flow.length:Int)))),(59,rB<|((!(l||q))&&(0<(n1.Flow.length:Int)))),(60,rB j),(61,rB<|(!j)),(62,rB<|(!j)),(63,.ptr 1 A 0 4),(64,.agg<|Da n1.Grid),(65,.agg [rI 0,rI 0,.r<|.sl [],.r<|.sl []])]) (h':=[(1,some<|.box A 46<|Bd n1)]) ⟨jL,jL,jL,jL,jL,jL,jL,jL,jL,jL,jL,jL,jL,.inr ⟨_,_,R,R,⟨.inl R,.inl R,.inr<|.inr ⟨R,R⟩,.inr<|.inr ⟨R,R⟩,Za⟩⟩,Za⟩ ⟨.inl R,Za⟩ nL) ?_
   exact AG M λr7 an ao=>IQ (.one R R R) w R R (ER (r:=rB r7) (caps:=[]) (bs:=[.agg<|Da n1.Grid,.agg [rI 0,rI 0,.r<|.sl [],.r<|.sl []]]) R (.inl R) R ⟨⟨_,(.inl R),.g (cs:=[.int .i64 n1.Grid.Rows,.int .i64 n1.Grid.Cols,.sl<|n1.Grid.Cells.map Aw.row,.sl<|n1.Grid.Merges.map As.row]) R R⟩,⟨_,(.inl R),.g (cs:=[.int .i64 0,.int .i64 0,.sl<|[].map Aw.row,.sl<|[].map As.row]) R R⟩,Za⟩ (λ_=>tc<|an) R)<|IQ (.one R R R) w R R (AU.spec (A0 R<|.inl R) _)<|IQ (.one R R R) u R R (AU.spec (BP R (.inl R)<|.inl R) _)<|sQ R (CM R iL iL)<|mM R<|vF Cy AJ R R<|AG ao λr8 aq ar=>vL (λhg=>Wa<|AP aq hg) R<|vQ R (A0 R<|iR R)<|vQ R (AK R<|iR R)<|wQ R (fB R KD iL fR R)<|wQ R (AZ (a:=qf n1.Draw) R Gk (iR R) R R)<|wQ R (Bu R FI.slice<|iR R)<|wQ R (BD R (iR R) iL)<|vQ R (BP R (iR R)<|iR R)<|xO R<|Zh<|C _ _ wk<|J1 _ (AH [(A+1)]) (Zb ar).symm
  ·have M:=Bt w E
   exact GM (.one R R R) w R R<|GM (.one R R R) w R R<|IQ (.one R R R) u R R (AU.spec (BP R (.inl R)<|iR R) _)<|sQ R (CM R iL iL)<|mM R<|vF Cy AJ R R<|AG M λr9 av aw=>vL (λhg=>Wa<|AP av hg) R<|vQ R (A0 R<|iR R)<|vQ R (AK R<|iR R)<|wQ R (fB R KD iL fR R)<|wQ R (AZ (a:=qf n1.Draw) R Gk (iR R) R R)<|wQ R (Bu R FI.slice<|iR R)<|wQ R (BD R (iR R) iL)<|vQ R (BP R (iR R)<|iR R)<|xO R<|Zh<|C _ _ wk<|J1 _ (AH [(A+1)]) (Zb aw).symm
 ·have E:=Bt u T
  exact GM (.two R R R) (ic u) R R<|GM (.two R R R) (ic u) R R<|GM (.one R R R) u R R<|xO R<|mM R<|vF Cy AJ R R<|AG E λay U ax=>vL (λhg=>Wa<|AP U hg) R<|vQ R (A0 R<|iR R)<|vQ R (AK R<|iR R)<|wQ R (fB R KD iL fR R)<|wQ R (AZ (a:=qf n1.Draw) R Gk (iR R) R R)<|wQ R (Bu R FI.slice<|iR R)<|wQ R (BD R (iR R) iL)<|vQ R (BP R (iR R)<|iR R)<|xO R<|Zh<|C _ _ wk<|J1 _ (AH [(A+1)]) (Zb ax).symm
theorem nH{f1 r}(h:Q8 f1=some r):BY prog 174 1 [qb f1] [] (λJ h'=>∃(i:Nat→Nat),J=.own 1000 (i 0)∧h'=[(1000,some<|.arr (i 0) 3 1<|r.map<|Aj .i64)]):=by
 unfold Q8 at h
 refine Dq func174 R R ntmps174 (Zw R) λF=>aU<|mA R<|aZ<|aU<|mA R<|aZ<|aS λK3 c3 M=>aU<|mM R<|xL Ah R<|mM R<|aZ<|Zf<|A3 h λo1 C O=>?_
 have J1:∀(j:List Int) (l:NN),o1=j→K3 ⟨[(3,.own 5003<|l 0)],[(5003,some<|.arr (l 0) 3 1<|j.map<|Aj .i64)],(l 1),22⟩:=by
  intro j l e
  have h1:=O _ e
  refine c3 _<|aU<|mM R<|mA R<|aZ ?_
  exact Zj<|ZM (s':=⟨[(2,.own 1000<|l 1)],[(1000,some<|.arr (l 1) 3 1<|j.map<|Aj .i64)],((l 1)+1),22⟩) (Zm (Zm (Ak.ren 2 5003 1000 R R R)<|by exact ZC (e':=[(2,.own 1000<|l 1)]) (h':=[(1000,some<|.arr (l 1) 3 1<|j.map<|Aj .i64)]) ⟨jL,Za⟩ ⟨.inl R,Za⟩ nL) wk)<|B8 (λ(r:(List Int)) J h'=>∃(i:Nat→Nat),J=.own 1000 (i 0)∧h'=[(1000,some<|.arr (i 0) 3 1<|r.map<|Aj .i64)]) h1<|by exact⟨.own 1000<|l 1,[(1000,some<|.arr (l 1) 3 1<|j.map<|Aj .i64)],R,⟨.inr R,Za⟩,R,R,AH [(l 1)],R,R⟩
 refine ZL (λ(I:Int) (q:List Int) w=>⟨[(3,.own 5003<|w 0),(6,qb f1),(7,rL f1),(8,rI I)],[(5003,some<|.arr (w 0) 3 1<|q.map<|Aj .i64)],(w 1),22⟩) (AH [F,(F+1)]) C (Zm (Zm (ZR 3 5003 3 1 (by decide) R)<|by exact ZC (e':=[(0,qb f1),(2,cZ),(3,.own 5003 F),(6,qb f1),(7,rL f1),(8,rI 0)]) (h':=[(5003,some<|.arr F 3 1<|([]:List Int).map<|Aj .i64)]) ⟨jL,jL,jL,jL,jL,jL,Za⟩ ⟨.inl R,Za⟩ nL) wk) ?_
 intro I q w v1 T U
 have h2:IH f1 I q=some v1:=T;unfold IH at h2
 refine aU<|xS R<|aZ<|aT λc7=>cI R h2 (λV=>?_) λV=>?_
 ·refine Zd<|c7 _<|aS λK8 c8 E=>Zf<|A3 V λp1 X Y=>?_
  have J2:∀(u:List Int) (B:NN),p1=u→K8 ⟨[(3,.own 5003<|B 0),(6,qb f1),(7,rL f1),(8,rI I)],[(5003,some<|.arr (B 0) 3 1<|u.map<|Aj .i64)],(B 1),22⟩:=by
   intro u B e
   have h4:=Y _ e
   exact c8 _<|aR<|AG h4 λx4 Z h5=>xA R Z<|mM R<|Zh<|ZH h5 (AH [(B 0),(B 1)]) wk
  refine aU<|AG X λx5 a0 h6=>xI Ah R a0<|xB ((Ad x5)) Cj R<|sS R (BB (cs:=Eo) 5 R Ee R R)<|Zk R R (Af (ds:=(Ad x5)) R DT iL R iL R R R R)<|aZ<|aU<|lF Ea AJ R R<|xU R<|aZ<|cI R h6 (λh7=>?_) λh7=>?_
  ·exact aR<|mM R<|lF Ea AJ R R<|sS R (Bw 18 R B9 (f:=(Aj .i64)) (l:=([x5.Ref]:List Int)) ⟨R,⟨_,iL,R⟩,Za⟩ R (λ_=>R) R)<|AG h7 λa1 A h8=>sS R (Ca R B9 iL R (.inr<|.inl ⟨_,_,iL,R⟩) A)<|mA R<|Zh<|E _ _ wk<|J2 _ (AH [((w 1)+2),((w 1)+3)]) (Zb h8).symm
  exact Zd<|E _ _ wk<|J2 _ (AH [(w 0),((w 1)+1)]) (Zb h7).symm
 exact Zn<|M _ _ wk<|J1 _ (AH [(w 0),(w 1)])<|xH U V
theorem sW{n1 r}(h:KS n1=some r):AO prog 129 (NW n1) (.r<|.sl<|r.map<|Aj .i64):=by
 unfold KS at h
 refine mF func129 ntmps129 R λn0=>aU<|sS R (Ay (cs:=(Bd n1)) 1 R iL R R)<|mA R<|aZ<|aT λc2=>aR<|lF E8 B2 R R<|AG h λw1 I h1=>?_
 refine Zo [8] (hc:=[]) (bs:=[qb n1.Flow]) (caps:=[]) R R R R iL R ⟨.inl ⟨iL,R⟩,Za⟩ Za (by decide) (nH I) ?_
 intro i1 n2
 refine A7 [0,1,2,6,7,8] [1,8] ?_
 refine mA R<|aZ<|c2 _<|aS λK3 c3 J=>aU<|sQ R (fB R GO iL fR R)<|lF GG FA R R<|xL Cq R<|mM R<|aZ<|Zf<|A3 h1 λo1 B M=>?_
 have J1:∀(j:List Int) (E:NN),o1=j→K3 ⟨[(3,.own 8<|E 0)],[(8,some<|.arr (E 0) 3 1<|j.map<|Aj .i64)],(E 1),27⟩:=by
  intro j E e
  have h2:=M _ e
  exact c3 _<|aU<|mM R<|mA R<|aZ<|Zj<|Cz (P:=prog) (λ(r:(List Int))=>.r<|.sl<|r.map<|Aj .i64) h2 iL<|.t<|.one<|.own R
 refine ZL (λ(F:Int) (l:List Int) u=>⟨[(3,.own 8<|u 0),(11,qe n1.Grid.Cells),(12,rL n1.Grid.Cells),(13,rI F)],[(8,some<|.arr (u 0) 3 1<|l.map<|Aj .i64)],(u 1),27⟩) (AH [(i1 0),n2]) B wk ?_
 intro F l u v1 O T
 have h3:Hb n1 F l=some v1:=O;unfold Hb at h3
 refine aU<|xS R<|aZ<|aT λc7=>cI R h3 (λU=>?_) λU=>?_
 ·refine Zd<|c7 _<|aS λK8 c8 C=>Zf<|A3 U λp1 V X=>?_
  have J2:∀(q:List Int) (A:NN),p1=q→K8 ⟨[(3,.own 8<|A 0),(11,qe n1.Grid.Cells),(12,rL n1.Grid.Cells),(13,rI F)],[(8,some<|.arr (A 0) 3 1<|q.map<|Aj .i64)],(A 1),27⟩:=by
   intro q A e
   have h5:=X _ e
   exact c8 _<|aR<|AG h5 λx4 Y h6=>xA R Y<|mM R<|Zh<|ZH h6 (AH [(A 0),(A 1)]) wk
  refine aU<|AG V λZ a0 h7=>xI Cq R a0<|xB ((CA Z)) Fx R<|sS R (BB (cs:=NY) 5 R Ma R R)<|Zk R R (Af (ds:=(CA Z)) R Mq iL R iL R R R R)<|aZ<|aU<|lF FY AJ R R<|xU R<|aZ<|cI R h7 (λh8=>?_) λh8=>?_
  ·exact aR<|mM R<|lF FY AJ R R<|sS R (Bw 23 R B9 (f:=(Aj .i64)) (l:=([Z.Ref]:List Int)) ⟨R,⟨_,iL,R⟩,Za⟩ R (λ_=>R) R)<|AG h8 λa1 w h9=>sS R (Ca R B9 iL R (.inr<|.inl ⟨_,_,iL,R⟩) w)<|mA R<|Zh<|C _ _ wk<|J2 _ (AH [((u 1)+2),((u 1)+3)]) (Zb h9).symm
  exact Zd<|C _ _ wk<|J2 _ (AH [(u 0),((u 1)+1)]) (Zb h8).symm
 exact Zn<|J _ _ wk<|J1 _ (AH [(u 0),(u 1)])<|xH T U
theorem ZS{n1 i r}(h:MP n1 i=some r):AO prog 184 [.agg<|Bd n1,rI i] (rI r):=by
 unfold MP at h
 refine mF func184 ntmps184 R λu=>aU<|sS R (Ay (cs:=(Bd n1)) 2 R iL R R)<|mA R<|aZ<|aT λq=>Zf<|aU<|lF Ex AJ R R<|mM R<|xS R<|mA R<|aZ<|cI R h (λj=>?_) λj=>?_
 ·exact zI j R id
 refine aU<|lF Ex AJ R R<|mM R<|sQ R (BD R iL iL)<|mA R<|aZ<|cI R j (λl=>?_) λl=>?_
 ·exact zI l R id
 exact Zd<|q _<|zI l R id
theorem uP{l a r}(h:TX l a=some r):AO prog 183 [qg l,rI a,.fn 184 []] (.tup [rI r.1,rB r.2]):=by
 unfold TX at h
 refine mF func183 ntmps183 R λn0=>aU<|mA R<|mA R<|aZ<|aU<|mM R<|xL DJ R<|mA R<|aZ<|aU<|mM R<|mA R<|mA R<|aZ<|aS λK4 c4 A=>Zf<|A3 h λo1 q B=>?_
 have J1:∀(i8:Int) (Z:NN),o1=i8→K4 ⟨[(0,qg l),(1,rI a),(2,.fn 184 []),(8,rL l),(9,rI i8)],[],(Z 0),49⟩:=by
  intro i8 Z e
  have h1:=B _ e
  exact c4 _<|aU<|mM R<|mM R<|mM R<|xS R<|mM R<|vM R<|vM R<|vM R<|AG h1 λj C h2=>vQ R (Ap R DJ.slice (iR R) (iR R) (λ_=>R)<|AP C)<|vQ R (CU (cs:=(Bd j)) R Fs (iR R) R R)<|vM R<|AG h2 λr1 E h3=>AN.stepW (.one R R R) R R (ER (r:=rI r1) (caps:=[]) (bs:=[.agg<|Bd j,rI a]) R (iR R) R ⟨⟨_,(iR R),.g (cs:=[.int .i64 j.ID,.int .i64 j.Kind,.sl<|j.Attrs.map AC.row,.sl<|j.Flow.map AD.row,.int .i64 j.Grid.Rows,.int .i64 j.Grid.Cols,.sl<|j.Grid.Cells.map Aw.row,.sl<|j.Grid.Merges.map As.row,.sl<|j.Draw.map BN.row]) R R⟩,⟨_,(iR R),.d R⟩,Za⟩ (λhg=>ZS<|AP E hg) R)<|vQ R (Aq R (iR R) iL)<|xN R<|mA R<|mA R<|aZ<|Zj<|DD (P:=prog) (λ(r:Int × Bool)=>rI r.1) (λ(r:Int × Bool)=>rB r.2) h3 iL (.t<|.d R)<|.t<|.d R
 refine ZL (λ(F:Int) (I:Int) u=>⟨[(0,qg l),(1,rI a),(2,.fn 184 []),(8,rL l),(9,rI F),(10,rI I)],[],(u 0),49⟩) (AH [n0]) q wk ?_
 intro F I u v1 J M
 have h4:Nq l a F I=some v1:=J;unfold Nq at h4
 refine aT λc6=>aU<|mM R<|mM R<|xS R<|aZ<|cI R h4 (λO=>?_) λO=>?_
 ·refine Zd<|c6 _<|Zf<|aU<|mM R<|mM R<|AG O λx3 T h6=>xA R T<|sQ R (D2 R underlying3 underlying128 iL)<|sQ R (R1 (b:=1) R iL iL)<|sQ R (D2 R underlying128 underlying3 iL)<|mA R<|aZ<|aT λc9=>aF [0,1,2,8,9,10,11] ?_
  refine aR<|mM R<|mM R<|mM R<|AG h6 λx4 U h7=>xI DJ R U<|xB ((Bd x4)) Fs R<|mM R<|AG h7 λr2 V h8=>cL (ZS<|V) R<|xS R<|aZ<|c9 _<|cI R h8 (λX=>?_) λX=>?_
  ·refine aF [0,1,2,8,10,11] ?_
   exact aR<|mM R<|AG X λa0 w Y=>xA R w<|mA R<|Zh<|ZH Y (AH [(u 0)]) wk
  refine aF [0,1,2,8,9,11] ?_
  exact aR<|mM R<|mA R<|Zh<|ZH X (AH [(u 0)]) wk
 exact Zn<|A _ _ wk<|J1 _ (AH [(u 0)])<|xH M O
theorem fH{d1 i r}(h:MR d1 i=some r):AO prog 142 [.agg [qg d1.Nodes],rI i] (.tup [rI r.1,rB r.2]):=by
 unfold MR at h
 exact mF func142 ntmps142 R λw=>aU<|sS R (Ay (cs:=[qg d1.Nodes]) 2 R iL R R)<|mA R<|mA R<|aZ<|aU<|lF Dy Dw R R<|mM R<|DQ h λl q j u=>sS R (ER (r:=.tup [rI l,rB q]) (caps:=[]) (bs:=[qg d1.Nodes,rI i,.fn 184 []]) R iL R ⟨⟨_,iL,.d R⟩,⟨_,iL,.d R⟩,⟨_,iL,.one<|.closed (.fn 184 []) R⟩,Za⟩ (λ_=>uP<|j) R)<|xX R<|xX R<|mA R<|mA R<|aZ<|Zj<|DD (P:=prog) (λ(r:Int × Bool)=>rI r.1) (λ(r:Int × Bool)=>rB r.2) u iL (.t<|.d R)<|.t<|.d R
theorem lh{j v1 r}(h:TR j v1=some r):AO prog 203 [.r<|.sl<|j.map<|Aj .i64,rI v1] (rI r):=by
 unfold TR at h
 refine mF func203 ntmps203 R λX=>aU<|mA R<|aZ<|aS λY Z w=>aU<|mM R<|xL B9 R<|mM R<|aZ<|Zf<|BI h λo1 l A B=>?_
 have J1:∀(T:Unit) (U:NN),o1=.nrm T→Y ⟨[],[],(U 0),19⟩:=by
  intro T U e
  have h1:=A _ e
  exact Z _<|zI h1 R id
 refine Zz (λ(C:Int) u=>⟨[(0,.r<|.sl<|j.map<|Aj .i64),(1,rI v1),(7,rL j),(8,rI C)],[],(u 0),19⟩) (AH [X]) l wk ?_
 intro C u v2 E q
 have V:PC j v1 C=some v2:=E;unfold PC at V
 refine aU<|xS R<|aZ<|aT λc6=>cI R V (λF=>?_) λF=>?_
 ·refine Zd<|c6 _<|aT λc7=>Zf<|aU<|mM R<|mA R<|aZ<|aU<|mM R<|mM R<|mM R<|AG F λx4 I h4=>xI B9 R I<|xV (.int .i64 x4) AJ R<|xQ R<|aZ<|cI R h4 (λJ=>?_) λJ=>?_
  ·refine aT λM=>aF [5] ?_
   exact aR<|mM R<|mA R<|aZ<|M _<|Zj<|yI (B _<|xH q J) R
  refine Zd<|c7 _<|aF [0,1,7,8] ?_
  exact aR<|AG J λx5 O h6=>xA R O<|mM R<|Zh<|Zx h6 (AH [(u 0)]) wk
 exact Zn<|w _ _ wk<|J1 _ (AH [(u 0)])<|xH q F
theorem rp{l v1 r}(h:OG l v1=some r):AO prog 175 [.r<|.sl<|l.map<|Aj .i64,rI v1] (rB r):=by
 unfold OG at h
 exact mF func175 ntmps175 R λu=>aU<|mA R<|aZ<|aU<|mM R<|mM R<|AG h λw j q=>cL (lh<|j) R<|sQ R (Cs R iL iL)<|mA R<|aZ<|Zj<|yB q R
theorem sb{p k r}(h:QX p k=some r):AO prog 130 [rI p,rI k] (rB r):=by
 unfold QX at h
 refine mF func130 ntmps130 R λC=>aU<|mA R<|aZ<|aU<|mA R<|aZ<|aS λK3 c3 j=>aU<|mM R<|aZ<|Zf<|A3 h λp1 E J=>?_
 have l:∀(M:List Int) (i1:NN),p1=M→K3 ⟨[(1,rI k),(5,.r<|.sl<|M.map<|Aj .i64)],[],(i1 0),29⟩:=by
  intro M i1 e
  have h1:=J _ e
  exact c3 _<|aU<|mM R<|mM R<|AG h1 λr1 O h2=>cL (rp<|O) R<|mA R<|aZ<|Zj<|yB h2 R
 refine aU<|xQ R<|mA R<|aZ<|aC R (λq=>?_) λq=>?_
 ·have T:=Br q E
  refine aR<|sS R (Bw 9 R B9 (f:=(Aj .i64)) (l:=([1,6,7,10,11,12]:List Int)) ⟨R,⟨_,iL,R⟩,R,⟨_,iL,R⟩,R,⟨_,iL,R⟩,R,⟨_,iL,R⟩,R,⟨_,iL,R⟩,R,⟨_,iL,R⟩,Za⟩ R (λ_=>R) R)<|mA R<|Zh ?_
  exact j _ _ (Zm (by exact Ak.frz (e':=[(0,rI p),(1,rI k),(4,rB false),(5,.r<|.sl<|[1,6,7,10,11,12].map<|Aj .i64),(6,rI p),(7,rB<|(decide<|p=0)),(8,rB<|(decide<|p=0)),(9,.r<|.sl<|[1,6,7,10,11,12].map<|Aj .i64)]) (h':=[]) 9 R ⟨jL,jL,jL,.inl<|.inr<|.inr ⟨R,R⟩,jL,jL,jL,.inl<|.inr<|.inr ⟨R,R⟩,Za⟩ Za) wk)<|l _ (AH [(C+1)]) (Zb T).symm
 ·have T:=Bt q E
  refine aU<|xQ R<|mA R<|aZ<|cI R T (λU=>?_) λU=>?_
  ·refine aR<|sS R (Bw 12 R B9 (f:=(Aj .i64)) (l:=([2,4,5,10]:List Int)) ⟨R,⟨_,iL,R⟩,R,⟨_,iL,R⟩,R,⟨_,iL,R⟩,R,⟨_,iL,R⟩,Za⟩ R (λ_=>R) R)<|mA R<|Zh ?_
   exact j _ _ (Zm (by exact Ak.frz (e':=[(0,rI p),(1,rI k),(4,rB false),(5,.r<|.sl<|[2,4,5,10].map<|Aj .i64),(6,rI p),(7,rB<|(decide<|p=0)),(8,rB<|(decide<|p=0)),(10,rB<|(decide<|p=1)),(11,rB<|(decide<|p=1)),(12,.r<|.sl<|[2,4,5,10].map<|Aj .i64)]) (h':=[]) 12 R ⟨jL,jL,jL,.inl<|.inr<|.inr ⟨R,R⟩,jL,jL,jL,jL,jL,.inl<|.inr<|.inr ⟨R,R⟩,Za⟩ Za) wk)<|l _ (AH [(C+1)]) (Zb U).symm
  refine aU<|xQ R<|mA R<|aZ<|cI R U (λV=>?_) λV=>?_
  ·refine aF [1] ?_
   refine aR<|sS R (Bw 15 R B9 (f:=(Aj .i64)) (l:=([4,5,10]:List Int)) ⟨R,⟨_,iL,R⟩,R,⟨_,iL,R⟩,R,⟨_,iL,R⟩,Za⟩ R (λ_=>R) R)<|mA R<|Zh ?_
   exact j _ _ (Zm (by exact Ak.frz (e':=[(1,rI k),(5,.r<|.sl<|[4,5,10].map<|Aj .i64),(15,.r<|.sl<|[4,5,10].map<|Aj .i64)]) (h':=[]) 15 R ⟨jL,.inl<|.inr<|.inr ⟨R,R⟩,.inl<|.inr<|.inr ⟨R,R⟩,Za⟩ Za) wk)<|l _ (AH [(C+1)]) (Zb V).symm
  refine aS λK9 c9 F=>aU<|xQ R<|mA R<|aZ<|A3 V λp2 I X=>?_
  have J2:∀(A:Bool) (B:NN),p2=A→K9 ⟨[(1,rI k),(5,cZ),(6,rI p),(16,rB A)],[],(B 0),29⟩:=by
   intro A B e
   have h6:=X _ e
   refine c9 _<|cI R h6 (λY=>?_) λY=>?_
   ·refine aR<|sS R (Bw 19 R B9 (f:=(Aj .i64)) (l:=([5]:List Int)) ⟨R,⟨_,iL,R⟩,Za⟩ R (λ_=>R) R)<|mA R<|Zh ?_
    exact j _ _ (Zm (by exact Ak.frz (e':=[(1,rI k),(5,.r<|.sl<|[5].map<|Aj .i64),(6,rI p),(16,rB A),(19,.r<|.sl<|[5].map<|Aj .i64)]) (h':=[]) 19 R ⟨jL,.inl<|.inr<|.inr ⟨R,R⟩,jL,jL,.inl<|.inr<|.inr ⟨R,R⟩,Za⟩ Za) wk)<|l _ (AH [((B 0)+1)]) (Zb Y).symm
   refine aU<|xQ R<|mA R<|aZ<|cI R Y (λZ=>?_) λZ=>?_
   ·refine aR<|sS R (Bw 22 R B9 (f:=(Aj .i64)) (l:=([3]:List Int)) ⟨R,⟨_,iL,R⟩,Za⟩ R (λ_=>R) R)<|mA R<|Zh ?_
    exact j _ _ (Zm (by exact Ak.frz (e':=[(1,rI k),(5,.r<|.sl<|[3].map<|Aj .i64),(6,rI p),(16,rB A),(20,rB<|(decide<|p=2)),(21,rB<|(decide<|p=2)),(22,.r<|.sl<|[3].map<|Aj .i64)]) (h':=[]) 22 R ⟨jL,.inl<|.inr<|.inr ⟨R,R⟩,jL,jL,jL,jL,.inl<|.inr<|.inr ⟨R,R⟩,Za⟩ Za) wk)<|l _ (AH [((B 0)+1)]) (Zb Z).symm
   refine aU<|xQ R<|mA R<|aZ<|cI R Z (λh9=>?_) λh9=>?_
   ·refine aR<|sS R (Bw 25 R B9 (f:=(Aj .i64)) (l:=([8,9]:List Int)) ⟨R,⟨_,iL,R⟩,R,⟨_,iL,R⟩,Za⟩ R (λ_=>R) R)<|mA R<|Zh ?_
    exact j _ _ (Zm (by exact Ak.frz (e':=[(1,rI k),(5,.r<|.sl<|[8,9].map<|Aj .i64),(6,rI p),(16,rB A),(20,rB<|(decide<|p=2)),(21,rB<|(decide<|p=2)),(23,rB<|(decide<|p=7)),(24,rB<|(decide<|p=7)),(25,.r<|.sl<|[8,9].map<|Aj .i64)]) (h':=[]) 25 R ⟨jL,.inl<|.inr<|.inr ⟨R,R⟩,jL,jL,jL,jL,jL,jL,.inl<|.inr<|.inr ⟨R,R⟩,Za⟩ Za) wk)<|l _ (AH [((B 0)+1)]) (Zb h9).symm
   refine Zd ?_
   exact j _ _ ((by exact ZC ⟨jL,.inl<|.inr<|.inr ⟨R,R⟩,Za⟩ Za nL))<|l _ (AH [(B 0)]) (Zb h9).symm
  refine aC R (λu=>?_) λu=>?_
  ·have w:=Br u I
   exact Zd<|F _ _ wk<|J2 _ (AH [C]) (Zb w).symm
  ·have w:=Bt u I
   refine aF [1,5,6] ?_
   exact aR<|xQ R<|mA R<|Zh<|F _ _ wk<|J2 _ (AH [C]) (Zb w).symm
theorem qV{d1 k a r}(h:PY d1 k a=some r):AO prog 128 [.agg [qg d1.Nodes],rI k,.r<|.sl<|a.map<|Aj .i64] (rI r):=by
 unfold PY at h
 refine mF func128 ntmps128 R λw=>aU<|sS R (Ay (cs:=[qg d1.Nodes]) 3 R iL R R)<|mA R<|aZ<|aS λK2 c2 A=>aU<|mM R<|xL B9 R<|mM R<|aZ<|Zf<|BI h λo1 l B q=>?_
 have J1:∀(u2:Unit) (i5:NN),o1=.nrm u2→K2 ⟨[],[],(i5 0),35⟩:=by
  intro u2 i5 e
  have h1:=B _ e
  exact c2 _<|zI h1 R id
 refine Zz (λ(C:Int) u=>⟨[(1,rI k),(3,.ptr 3 w 0 0),(11,.r<|.sl<|a.map<|Aj .i64),(12,rL a),(13,rI C)],[(3,some<|.box w 24 [qg d1.Nodes])],(u 0),35⟩) (AH [(w+1)]) l wk ?_
 intro C u v1 E j
 have h2:OM d1 k a C=some v1:=E;unfold OM at h2
 refine aU<|xS R<|aZ<|aT λc6=>cI R h2 (λF=>?_) λF=>?_
 ·refine Zd<|c6 _<|aT λc7=>Zf<|aU<|AG F λx4 I h4=>xI B9 R I<|xV (.int .i64 x4) AJ R<|mA R<|aZ<|aU<|xC EF R<|mM R<|DQ h4 λr1 r2 J h5=>cL (fH<|J) R<|mM R<|xX R<|xX R<|mA R<|mA R<|aZ<|aT λM=>aT λO=>aG [1,3,9,10,11,12,13] [3] ?_
  refine aR<|mM R<|sQ R (A0 R iL)<|aZ<|O _<|cI R h5 (λT=>?_) λT=>?_
  ·exact zI (q _<|xH j T) R id
  refine Zd<|M _<|aU<|mM R<|lF Dy Dw R R<|mM R<|AG T λx5 U h7=>xI DJ R U<|sQ R (A2 R Cy iL)<|xV (.int .i64 x5.Kind) AJ R<|AG h7 λr3 V h8=>cL (sb<|V) R<|sQ R (A0 R iL)<|aZ<|cI R h8 (λX=>?_) λX=>?_
  ·exact zI (q _<|xH j X) R id
  refine Zd<|c7 _<|aG [1,3,11,12,13] [3] ?_
  exact aR<|AG X λx6 Y Z=>xA R Y<|mM R<|Zh<|Zx Z (AH [(u 0)]) wk
 exact Zn<|A _ _ wk<|J1 _ (AH [(u 0)])<|xH j F
theorem tA{d1 r}(h:KI d1=some r):AO prog 82 [.agg [qg d1.Nodes]] (rI r):=by
 unfold KI at h
 refine mF func82 ntmps82 R λl=>aU<|sS R (Ay (cs:=[qg d1.Nodes]) 1 R iL R R)<|mA R<|aZ<|aT λc2=>aU<|lF Dy Dw R R<|xL DJ R<|xQ R<|aZ<|cI R h (λX=>?_) λX=>?_
 ·exact zI X R id
 refine Zd<|c2 _<|aS λK5 c5 Y=>aU<|lF Dy Dw R R<|xL DJ R<|mM R<|aZ<|Zf<|BI X λo1 B Z C=>?_
 have J1:∀(u2:Unit) (i5:NN),o1=.nrm u2→K5 ⟨[(1,.ptr 1 l 0 0)],[(1,some<|.box l 24 [qg d1.Nodes])],(i5 0),67⟩:=by
  intro u2 i5 e
  have h2:=Z _ e
  refine c5 _<|aS λK7 c7 a0=>aU<|lF Dy Dw R R<|xL DJ R<|mM R<|aZ<|Zf<|BI h2 λo2 E a1 a2=>?_
  have J2:∀(u4:Unit) (F:NN),o2=.nrm u4→K7 ⟨[],[],(F 0),67⟩:=by
   intro u4 F e
   have h3:=a1 _ e
   exact c7 _<|zI h3 R id
  refine Zz (λ(x5:Int) i8=>⟨[(1,.ptr 1 l 0 0),(51,qg d1.Nodes),(52,rL d1.Nodes),(53,rI x5)],[(1,some<|.box l 24 [qg d1.Nodes])],(i8 0),67⟩) (AH [(i5 0)]) E wk ?_
  intro x5 i8 v1 a6 I
  have h4:Lk d1 x5=some v1:=a6;unfold Lk at h4
  refine aU<|xS R<|aZ<|aT λa7=>cI R h4 (λh5=>?_) λh5=>?_
  ·refine Zd<|a7 _<|aT λa8=>Zf<|aU<|AG h5 λj aa h6=>xI DJ R aa<|xB ((Bd j)) Fs R<|sS R (BB (cs:=Lf) 7 R Xw R R)<|Zk R R (Af (ds:=(Bd j)) R WD iL R iL R R R R)<|aZ<|aT λab=>AG h6 λr1 ac h7=>?_
   refine rP 5 [pO 57<|.agg [qg d1.Nodes],pO 58<|.ptr 7 (i8 0) 0 1,pO 59<|rI j.Kind,pO 60<|.agg<|Bd j,pO 61<|.r<|.sl<|r1.map<|Aj .i64] BJ R (by exact⟨oB [(1,.ptr 1 l 0 0)] [(1,some<|.box l 24 [qg d1.Nodes])]<|D5 R EF (.inl R) R R,oB [(7,.ptr 7 (i8 0) 0 0)] [(7,some<|.box (i8 0) 46<|Bd j)]<|fB R Cy (.inl R) (λ_=>R) R,oB [(58,.ptr 7 (i8 0) 0 1)] [(7,some<|.box (i8 0) 46<|Bd j)]<|AZ (a:=rI j.Kind) R AJ (.inl R) R R,oB [(7,.ptr 7 (i8 0) 0 0)] [(7,some<|.box (i8 0) 46<|Bd j)]<|D5 R Fs (.inl R) R R,oD (λ_=>[(60,.agg<|Bd j)]) (λ_=>[]) λG1 e h' n=>CB (r:=.r<|.sl<|r1.map<|Aj .i64) (caps:=[]) (bs:=(NW j)) R (.inl R) R ⟨.inl ⟨(.inl R),R⟩,Za⟩ λ_=>sW<|ac,Za⟩) λG1 n1=>?_
   refine A7 [1,7,51,52,53,54,55,56,57,58,59,60,61] [1,7] ?_
   refine AG h7 λe1 ad h8=>cL (qV<|ad) R<|mA R<|aZ<|ab _<|aT λae=>aG [1,8,51,52,53] [1] ?_
   refine aR<|mM R<|xU R<|aZ<|ae _<|cI R h8 (λh9=>?_) λh9=>?_
   ·exact aU<|mM R<|mA R<|aZ<|Zj<|yI (a2 _<|xH I h9) R
   exact Zd<|a8 _<|aR<|AG h9 λx8 af ag=>xA R af<|mM R<|Zh<|Zx ag (AH [n1]) wk
  exact Zn<|a0 _ _ wk<|J2 _ (AH [(i8 0)])<|xH I h5
 refine Zz (λ(x2:Int) U=>⟨[(1,.ptr 1 l 0 0),(14,qg d1.Nodes),(15,rL d1.Nodes),(16,rI x2)],[(1,some<|.box l 24 [qg d1.Nodes])],(U 0),67⟩) (AH [(l+1)]) B wk ?_
 intro x2 U v2 ah q
 have J:Iy d1 x2=some v2:=ah;unfold Iy at J
 refine aU<|xS R<|aZ<|aT λai=>cI R J (λu=>?_) λu=>?_
 ·refine Zd<|ai _<|aT λaj=>Zf<|aU<|mM R<|AG u λV ak al=>xI DJ R ak<|xB ((Bd V)) Fs R<|sS R (BB (cs:=Lf) 4 R Xw R R)<|mA R<|Zk R R (Af (ds:=(Bd V)) R WD iL R iL R R R R)<|aZ<|aT λan=>aU<|xC Fs R<|AG al λe2 ao aq=>cL (ma<|ao) R<|mA R<|aZ<|aU<|mM R<|xU R<|aZ<|cI R aq (λw=>?_) λw=>?_
  ·refine aT λar=>aF [5] ?_
   exact aR<|mM R<|mA R<|aZ<|ar _<|Zj<|yI (C _<|xH q w) R
  refine Zd<|an _<|aT λav=>aG [1,3,4,14,15,16] [1,4] ?_
  refine ZA BJ (by kernel_rfl) ?_
  refine qP R (AK R iL)<|qP R (Aq R iL iL)<|qP R (AK R iL)<|qO R (fB R Ex iL fR R)<|qO R (AZ (a:=rI V.ID) R AJ (iR R) R R)<|qO R (Cf R (iR R) iL)<|qP R (BP R iL<|iR R)<|qP R (AK R iL)<|qO R (AK R iL)<|qO R (BD R (iR R) iL)<|qO R (AK R<|iR R)<|qT R (fB R Ex iL fR R)<|qT R (AZ (a:=rI V.ID) R AJ (iR R) R R)<|qT R (fB R Dy iL fR R)<|qT R (AZ (a:=qg d1.Nodes) R Dw (iR R) R R)<|qT R (AK R iL)<|AG w λb0 M aw=>qT R (CF R (iR R) iL<|AP M)<|AG aw λax O ay=>qT R (Ap R DJ.slice (iR R) (iR R) (λ_=>R)<|AP O)<|qT R (A2 R Ex<|iR R)<|qT R (BU (d:=.int .i64 ax.ID) R AJ (iR R) R)<|qT R (FC R (iR R)<|iR R)<|qO R (BP R (iR R)<|iR R)<|qP R (CM R iL<|iR R)<|AQ.nil<|av _<|cI R ay (λA=>?_) λA=>?_
  ·exact zI (C _<|xH q A) R id
  exact Zd<|aj _<|aR<|AG A λb1 T az=>xA R T<|mM R<|Zh<|Zx az (AH [((U 0)+1)]) wk
 exact Zn<|Y _ _ wk<|J1 _ (AH [(U 0)])<|xH q u
theorem pA{d1 i r}(h:Oq d1 i=some r):AO prog 95 [.agg [qg d1.Nodes],rI i] (rI r):=by
 unfold Oq at h
 refine mF func95 ntmps95 R λA=>aU<|sS R (Ay (cs:=[qg d1.Nodes]) 2 R iL R R)<|mA R<|aZ<|aT λq=>aU<|xC EF R<|mM R<|DQ h λB C j u=>cL (fH<|j) R<|mM R<|xX R<|xX R<|mA R<|mA R<|aZ<|aT λw=>aF [5,6] ?_
 refine aR<|mM R<|aZ<|w _<|cI R u (λl=>?_) λl=>?_
 ·exact aU<|mM R<|mA R<|aZ<|Zj<|yI l R
 exact Zd<|q _<|zI l R id
theorem Q4{j n r}(h:G9 j n=some r):AO prog 101 [qa j,rS n] (rS r):=by
 unfold G9 at h
 refine mF func101 ntmps101 R λY=>aU<|mA R<|aZ<|aS λZ c2 w=>aU<|mM R<|xL Ac R<|mM R<|aZ<|Zf<|BI h λo1 l A B=>?_
 have J1:∀(T:Unit) (U:NN),o1=.nrm T→Z ⟨[],[],(U 0),20⟩:=by
  intro T U e
  have h1:=A _ e
  exact c2 _<|aU<|mA R<|aZ<|Zj<|Cz (P:=prog) (λ(r:(List UInt8))=>rS r) h1 iL<|.t<|.d R
 refine Zz (λ(C:Int) u=>⟨[(1,rS n),(7,qa j),(8,rL j),(9,rI C)],[],(u 0),20⟩) (AH [Y]) l wk ?_
 intro C u v1 E q
 have V:RX j n C=some v1:=E;unfold RX at V
 refine aU<|xS R<|aZ<|aT λc6=>cI R V (λF=>?_) λF=>?_
 ·refine Zd<|c6 _<|aT λc7=>Zf<|aU<|AG F λX I h4=>xI Ac R I<|xB ((BF X)) CJ R<|sS R (BB (cs:=[.r<|.str [],.r<|.str []]) 6 R KW R R)<|Zk R R (Af (ds:=(BF X)) R JU iL R iL R R R R)<|aZ<|aU<|lF CO BC R R<|mM R<|sQ R (Bo R iL iL)<|aZ<|cI R h4 (λJ=>?_) λJ=>?_
  ·refine aT λM=>aG [6] [6] ?_
   exact aR<|lF Hv BC R R<|mA R<|aZ<|M _<|Zj<|Cz (P:=prog) (λ(r:(List UInt8))=>rS r) (B _<|xH q J) iL<|.t<|.d R
  exact Zd<|c7 _<|aR<|AG J λx5 O h6=>xA R O<|mM R<|Zh<|Zx h6 (AH [((u 0)+1)]) wk
 exact Zn<|w _ _ wk<|J1 _ (AH [(u 0)])<|xH q F
theorem ow{j m r}(h:P1 j m=some r):AO prog 143 [.agg<|Ad j,rI m] (rB r):=by
 unfold P1 at h
 exact mF func143 ntmps143 R λF=>aU<|sS R (Ay (cs:=(Ad j)) 2 R iL R R)<|mA R<|aZ<|aU<|lF CR BA R R<|AG h λI l w=>cL (Q4<|l) R<|sQ R (Bo R iL iL)<|mM R<|vM R<|vQ R (Aq R (iR R) iL)<|vQ R (AK R<|iR R)<|wQ R (fB R CR iL fR R)<|wQ R (AZ (a:=qa j.Attrs) R BA (iR R) R R)<|AG w λA q B=>AN.stepW (.two R R R) R R (ER (r:=rS A) (caps:=[]) (bs:=[qa j.Attrs,.r<|.str [99,117,116]]) R iL R ⟨⟨_,(iR R),.d R⟩,⟨_,iL,.d R⟩,Za⟩ (λhg=>Q4<|AP q hg) R)<|wQ R (Ds R (iR R) iL)<|vQ R (BP R (iR R)<|iR R)<|xO R<|mM R<|vM R<|vQ R (Aq R (iR R) iL)<|vQ R (AK R<|iR R)<|wQ R (fB R CR iL fR R)<|wQ R (AZ (a:=qa j.Attrs) R BA (iR R) R R)<|AG B λC u E=>AN.stepW (.two R R R) R R (ER (r:=rS C) (caps:=[]) (bs:=[qa j.Attrs,.r<|.str [97,100,100]]) R iL R ⟨⟨_,(iR R),.d R⟩,⟨_,iL,.d R⟩,Za⟩ (λhg=>Q4<|AP u hg) R)<|wQ R (Ds R (iR R) iL)<|vQ R (BP R (iR R)<|iR R)<|xO R<|mA R<|aZ<|Zj<|yB E R
theorem jn{f1 m r}(h:QW f1 m=some r):AO prog 97 [qb f1,rI m] (.r<|.sl<|r.map<|Aj .i64):=by
 unfold QW at h
 refine mF func97 ntmps97 R λF=>aU<|mA R<|aZ<|aU<|mA R<|aZ<|aS λK3 c3 J=>aU<|mM R<|xL Ah R<|mM R<|aZ<|Zf<|A3 h λo1 B M=>?_
 have J1:∀(j:List Int) (I:NN),o1=j→K3 ⟨[(5,.own 5005<|I 0)],[(5005,some<|.arr (I 0) 3 1<|j.map<|Aj .i64)],(I 1),37⟩:=by
  intro j I e
  have h1:=M _ e
  exact c3 _<|aU<|mM R<|mA R<|aZ<|Zj<|Cz (P:=prog) (λ(r:(List Int))=>.r<|.sl<|r.map<|Aj .i64) h1 iL<|.t<|.one<|.own R
 refine ZL (λ(C:Int) (l:List Int) u=>⟨[(0,qb f1),(1,rI m),(5,.own 5005<|u 0),(8,qb f1),(9,rL f1),(10,rI C)],[(5005,some<|.arr (u 0) 3 1<|l.map<|Aj .i64)],(u 1),37⟩) (AH [F,(F+1)]) B (Zm (Zm (ZR 5 5005 3 1 (by decide) R)<|by exact ZC (e':=[(0,qb f1),(1,rI m),(4,cZ),(5,.own 5005 F),(8,qb f1),(9,rL f1),(10,rI 0)]) (h':=[(5005,some<|.arr F 3 1<|([]:List Int).map<|Aj .i64)]) ⟨jL,jL,jL,jL,jL,jL,jL,Za⟩ ⟨.inl R,Za⟩ nL) wk) ?_
 intro C l u v1 O T
 have h2:OC f1 m C l=some v1:=O;unfold OC at h2
 refine aU<|xS R<|aZ<|aT λc7=>cI R h2 (λU=>?_) λU=>?_
 ·refine Zd<|c7 _<|aS λK8 c8 E=>Zf<|A3 U λp1 V X=>?_
  have J2:∀(q:List Int) (A:NN),p1=q→K8 ⟨[(0,qb f1),(1,rI m),(5,.own 5005<|A 0),(8,qb f1),(9,rL f1),(10,rI C)],[(5005,some<|.arr (A 0) 3 1<|q.map<|Aj .i64)],(A 1),37⟩:=by
   intro q A e
   have h4:=X _ e
   exact c8 _<|aR<|AG h4 λx4 Y h5=>xA R Y<|mM R<|Zh<|ZH h5 (AH [(A 0),(A 1)]) wk
  refine aU<|mM R<|AG V λZ a0 h6=>xI Ah R a0<|xB ((Ad Z)) Cj R<|sS R (BB (cs:=Eo) 7 R Ee R R)<|mA R<|Zk R R (Af (ds:=(Ad Z)) R DT iL R iL R R R R)<|aZ<|aU<|xC Cj R<|mM R<|AG h6 λr1 a1 h7=>cL (ow<|a1) R<|sQ R (A0 R iL)<|mM R<|vM R<|vM R<|vQ R (Bu R Ah.slice<|iR R)<|AG h7 λx6 a2 h8=>vQ R (CF R (iR R) iL<|AP a2)<|vQ R (Aq R (iR R)<|iR R)<|vQ R (AK R<|iR R)<|wQ R (fB R D1 iL fR R)<|wQ R (AZ (a:=rI Z.Char) R AJ (iR R) R R)<|wQ R (Aq R (iR R) iL)<|vQ R (BP R (iR R)<|iR R)<|xO R<|aZ<|cI R h8 (λh9=>?_) λh9=>?_
  ·refine aG [0,1,5,6,8,9,10] [5005] ?_
   exact aR<|mM R<|mM R<|sS R (Bw 33 R B9 (f:=(Aj .i64)) (l:=([C]:List Int)) ⟨R,⟨_,iL,R⟩,Za⟩ R (λ_=>R) R)<|AG h9 λa7 w a6=>sS R (Ca R B9 iL R (.inr<|.inl ⟨_,_,iL,R⟩) w)<|mA R<|Zh<|E _ _ wk<|J2 _ (AH [((u 1)+2),((u 1)+3)]) (Zb a6).symm
  exact Zd<|E _ _ wk<|J2 _ (AH [(u 0),((u 1)+1)]) (Zb h9).symm
 exact Zn<|J _ _ wk<|J1 _ (AH [(u 0),(u 1)])<|xH T U
theorem fz{d1 u b r}(h:L0 d1 u b=some r):AO prog 47 [.agg [qg d1.Nodes],.agg<|A5 u,rS b] (.tup [.agg<|BG r.1,rI r.2]):=by
 unfold L0 at h
 refine mF func47 ntmps47 R λn0=>aU<|sS R (Ay (cs:=[qg d1.Nodes]) 3 R iL R R)<|sS R (Ay (cs:=(A5 u)) 4 R iL R R)<|sS R (BB (cs:=Fp) 6 R T3 R R)<|mA R<|aZ<|aT λc2=>aU<|xC EF R<|AG h λe1 w h1=>cL (tA<|w) R<|mA R<|aZ<|aU<|mM R<|xU R<|aZ<|cI R h1 (λA=>?_) λA=>?_
 ·refine aT λc5=>aG [6,8] [6] ?_
  refine aR ?_
  refine sQ R (Bg R N7 (q:=[]) (by exact Za) (cs:=Fp)<|by rfl) ?_
  refine mM R<|Zk R R (Af (ds:=Fp) R Ih iL R iL R R R R)<|mA R<|oZ c5 ?_
  exact Zj<|DD (P:=prog) (λ(r:CN × Int)=>.agg<|BG r.1) (λ(r:CN × Int)=>rI r.2) A iL (.a L1 R R R<|.agg<|by exact⟨.closed _ R,.closed _ R,.nil,.nil,.closed _ R,.closed _ R,.nil,.nil,.nil,.nil,.closed _ R,Za⟩)<|.t<|.d R
 refine Zd<|c2 _<|aU<|xC EF R<|lF Ka AJ R R<|AG A λi1 B h3=>cL (pA<|B) R<|mA R<|aZ<|aT λc7=>aT λc8=>aG [2,3,4,6,9] [3,4,6] ?_
 refine aR<|mM R<|xS R<|aZ<|c8 _<|cI R h3 (λC=>?_) λC=>?_
 ·refine aT λc9=>aR ?_
  refine sQ R (Bg R N7 (q:=[]) (by exact Za) (cs:=Fp)<|by rfl) ?_
  refine Zk R R (Af (ds:=Fp) R Ih iL R iL R R R R)<|mA R<|oZ c9 ?_
  exact Zj<|DD (P:=prog) (λ(r:CN × Int)=>.agg<|BG r.1) (λ(r:CN × Int)=>rI r.2) C iL (.a L1 R R R<|.agg<|by exact⟨.closed _ R,.closed _ R,.nil,.nil,.closed _ R,.closed _ R,.nil,.nil,.nil,.nil,.closed _ R,Za⟩)<|.t<|.d R
 refine Zd<|c7 _<|aT λE=>aR<|lF Dy Dw R R<|mM R<|AG C λj F h5=>xI DJ R F<|xB ((Bd j)) Fs R<|mM R ?_
 refine sQ R (Bg R N7 (q:=[(0,_),(10,_)]) (by exact⟨R,R,R,iL,R,R,R,iL,Za⟩) (cs:=[rI j.ID,rI j.Kind,qa j.Attrs,qb j.Flow,rI j.Grid.Rows,rI j.Grid.Cols,qe j.Grid.Cells,qc j.Grid.Merges,qf j.Draw,cZ,rS b])<|by rfl) ?_
 refine sS R (BB (cs:=Fp) 10 R T3 R R)<|Zk R R (Af (ds:=[rI j.ID,rI j.Kind,qa j.Attrs,qb j.Flow,rI j.Grid.Rows,rI j.Grid.Cols,qe j.Grid.Cells,qc j.Grid.Merges,qf j.Draw,cZ,rS b]) R Ih iL R iL R R R R)<|aZ<|E _<|aT λI=>aT λJ=>aG [2,4,6,10] [4,6,10] ?_
 refine aR<|sQ R (fB R TZ iL fR R)<|lF Cy AJ R R<|AG h5 λr1 M h6=>cL (X2<|M) R<|sQ R (A0 R iL)<|aZ<|J _<|cI R h6 (λO=>?_) λO=>?_
 ·refine aT λT=>aR ?_
  refine sQ R (Bg R N7 (q:=[]) (by exact Za) (cs:=Fp)<|by rfl) ?_
  refine Zk R R (Af (ds:=Fp) R Ih iL R iL R R R R)<|mA R<|oZ T ?_
  exact Zj<|DD (P:=prog) (λ(r:CN × Int)=>.agg<|BG r.1) (λ(r:CN × Int)=>rI r.2) O iL (.a L1 R R R<|.agg<|by exact⟨.closed _ R,.closed _ R,.nil,.nil,.closed _ R,.closed _ R,.nil,.nil,.nil,.nil,.closed _ R,Za⟩)<|.t<|.d R
 refine Zd<|I _<|aU<|sQ R (fB R TZ iL fR R)<|lF E8 B2 R R<|AG O λq U h8=>sS R (CB (r:=.r<|.sl<|q.map<|Aj .i64) (caps:=[]) (bs:=[qb j.Flow,rI 0]) R iL R ⟨.inl ⟨iL,R⟩,.inl ⟨iL,R⟩,Za⟩ λ_=>jn<|U)<|sQ R (fB R M9 iL fR R)<|Zk R R (Af (ds:=[rI j.ID,rI j.Kind,qa j.Attrs,qb j.Flow,rI j.Grid.Rows,rI j.Grid.Cols,qe j.Grid.Cells,qc j.Grid.Merges,qf j.Draw,.r<|.sl<|q.map<|Aj .i64,rS b]) R lb iL R iL R R R R)<|aZ<|aT λV=>aT λX=>aG [2,4,6,10] [4,6,10] ?_
 refine aR<|lF G4 AJ R R<|xS R<|mM R<|vF Je AJ R R<|vF G4 AJ R R<|vQ R (B7 R (iR R)<|iR R)<|xO R<|mM R<|vF Je AJ R R<|vF M9 Ok R R<|vQ R (Bu R B9.slice<|iR R)<|vQ R (Cs R (iR R)<|iR R)<|xO R<|aZ<|X _<|cI R h8 (λY=>?_) λY=>?_
 ·refine aT λZ=>aG [6] [6] ?_
  refine aR ?_
  refine sQ R (Bg R N7 (q:=[]) (by exact Za) (cs:=Fp)<|by rfl) ?_
  refine Zk R R (Af (ds:=Fp) R Ih iL R iL R R R R)<|mA R<|oZ Z ?_
  exact Zj<|DD (P:=prog) (λ(r:CN × Int)=>.agg<|BG r.1) (λ(r:CN × Int)=>rI r.2) Y iL (.a L1 R R R<|.agg<|by exact⟨.closed _ R,.closed _ R,.nil,.nil,.closed _ R,.closed _ R,.nil,.nil,.nil,.nil,.closed _ R,Za⟩)<|.t<|.d R
 refine Zd<|V _<|aT λa0=>aT λa1=>aG [2,6,10] [6,10] ?_
 refine aR<|mM R<|sQ R (Ds R iL iL)<|mM R<|vM R<|AG Y λr3 a2 a6=>vL (λhg=>YI<|AP a2 hg) R<|vQ R (A0 R<|iR R)<|xN R<|aZ<|a1 _<|cI R a6 (λl=>?_) λl=>?_
 ·refine aT λa7=>aG [6] [6] ?_
  refine aR ?_
  refine sQ R (Bg R N7 (q:=[]) (by exact Za) (cs:=Fp)<|by rfl) ?_
  refine Zk R R (Af (ds:=Fp) R Ih iL R iL R R R R)<|mA R<|oZ a7 ?_
  exact Zj<|DD (P:=prog) (λ(r:CN × Int)=>.agg<|BG r.1) (λ(r:CN × Int)=>rI r.2) l iL (.a L1 R R R<|.agg<|by exact⟨.closed _ R,.closed _ R,.nil,.nil,.closed _ R,.closed _ R,.nil,.nil,.nil,.nil,.closed _ R,Za⟩)<|.t<|.d R
 exact Zd<|a0 _<|aU<|xC L1 R<|Zk R R (Af (ds:=[rI j.ID,rI j.Kind,qa j.Attrs,qb j.Flow,rI j.Grid.Rows,rI j.Grid.Cols,qe j.Grid.Cells,qc j.Grid.Merges,qf j.Draw,.r<|.sl<|q.map<|Aj .i64,rS b]) R Ih iL R iL R R R R)<|mA R<|aZ<|Zj<|DD (P:=prog) (λ(r:CN × Int)=>.agg<|BG r.1) (λ(r:CN × Int)=>rI r.2) l iL (.a L1 R R R<|.g (cs:=[.int .i64 j.ID,.int .i64 j.Kind,.sl<|j.Attrs.map AC.row,.sl<|j.Flow.map AD.row,.int .i64 j.Grid.Rows,.int .i64 j.Grid.Cols,.sl<|j.Grid.Cells.map Aw.row,.sl<|j.Grid.Merges.map As.row,.sl<|j.Draw.map BN.row,.sl<|q.map<|Aj .i64,.str b]) R R)<|.t<|.d R
theorem ld{d1 j r}(h:Rh d1 j=some r):AO prog 9 [.agg [qg d1.Nodes],.agg<|A5 j] (rI r):=by
 unfold Rh at h
 refine mF func9 ntmps9 R λB=>aU<|sS R (Ay (cs:=[qg d1.Nodes]) 2 R iL R R)<|sS R (Ay (cs:=(A5 j)) 3 R iL R R)<|mA R<|aZ<|aU<|xC EF R<|xC D8 R<|DQ h λq u l w=>sS R (CB (r:=.tup [.agg<|BG q,rI u]) (caps:=[]) (bs:=[.agg [qg d1.Nodes],.agg<|A5 j,.r<|.str []]) R iL R ⟨.inl ⟨iL,R⟩,.inl ⟨iL,R⟩,.inl ⟨iL,R⟩,Za⟩ λ_=>fz<|l)<|mM R<|xX R<|xX R<|sS R (BB (cs:=Fp) 5 R T3 R R)<|Zk R R (Af (ds:=(BG q)) R Ih iL R iL R R R R)<|mA R<|aZ<|aT λA=>aF [6] ?_
 exact aR<|mM R<|mA R<|aZ<|A _<|Zj<|yI w R
theorem DX{j l a r}(h:Cr j l a=some r):AO prog 32 [rI j,rI l,rI a] (rB r):=by
 unfold Cr at h
 exact mF func32 ntmps32 R λq=>aU<|mA R<|aZ<|aU<|mM R<|mM R<|sQ R (Cs R iL iL)<|mM R<|vM R<|vM R<|vQ R (FC R (iR R)<|iR R)<|xN R<|mA R<|aZ<|Zj<|yB h R
theorem gx{l r}(h:Ni l=some r):AO prog 76 [rS l] (rB r):=by
 unfold Ni at h
 refine mF func76 ntmps76 R λX=>aU<|mA R<|aZ<|aS λY Z A=>aU<|mM R<|sQ R (DE R underlying9 iL)<|mM R<|aZ<|Zf<|BI h λo1 q B C=>?_
 have J1:∀(T:Unit) (U:NN),o1=.nrm T→Y ⟨[(0,rS l)],[],(U 0),59⟩:=by
  intro T U e
  have h1:=B _ e
  exact Z _<|aU<|mM R<|sQ R (DE R underlying9 iL)<|sQ R (Cs R iL iL)<|mM R<|vM R<|vQ R (DE R underlying9<|iR R)<|vQ R (FC R (iR R) iL)<|xN R<|mA R<|aZ<|Zj<|yB h1 R
 refine Zz (λ(E:Int) w=>⟨[(0,rS l),(6,rL l),(7,rI E)],[],(w 0),59⟩) (AH [X]) q wk ?_
 intro E w v1 F u
 have V:Ny l E=some v1:=F;unfold Ny at V
 refine aU<|xS R<|aZ<|aT λc6=>cI R V (λI=>?_) λI=>?_
 ·refine Zd<|c6 _<|aT λc7=>Zf<|aU<|mM R<|mA R<|aZ<|aU<|mM R<|mM R<|AG I λa0 j h4=>sQ R (DP R underlying9 iL iL λ_=>j)<|sQ R (Cs R iL iL)<|mM R<|vM R<|vM R<|vQ R (DP R underlying9 (iR R) (iR R) λ_=>j)<|vQ R (FC R (iR R) iL)<|xN R<|mA R<|aZ<|aT λJ=>aR<|mM R<|sQ R (A0 R iL)<|mM R<|vM R<|vQ R (Aq R (iR R) iL)<|vQ R (AK R<|iR R)<|wQ R (AK R iL)<|wQ R (AK R iL)<|wQ R (DP R underlying9 (iR R) (iR R) λ_=>j)<|wQ R (Cf R (iR R) iL)<|wQ R (AK R<|iR R)<|wQ R (AK R iL)<|wQ R (AK R iL)<|wQ R (DP R underlying9 (iR R) (iR R) λ_=>j)<|wQ R (Cf R (iR R) iL)<|wQ R (BP R (iR R)<|iR R)<|wQ R (AK R<|iR R)<|wQ R (AK R iL)<|wQ R (AK R iL)<|wQ R (DP R underlying9 (iR R) (iR R) λ_=>j)<|wQ R (B7 R (iR R) iL)<|wQ R (AK R<|iR R)<|wQ R (AK R iL)<|wQ R (AK R iL)<|wQ R (DP R underlying9 (iR R) (iR R) λ_=>j)<|wQ R (BD R (iR R) iL)<|wQ R (CM R (iR R)<|iR R)<|wQ R (BP R (iR R)<|iR R)<|vQ R (CM R (iR R)<|iR R)<|xN R<|aZ<|J _<|cI R h4 (λM=>?_) λM=>?_
  ·exact zB (C _<|xH u M) R id
  refine Zd<|c7 _<|aF [0,6,7] ?_
  exact aR<|AG M λx4 O h6=>xA R O<|mM R<|Zh<|Zx h6 (AH [(w 0)]) wk
 exact Zn<|A _ _ wk<|J1 _ (AH [(w 0)])<|xH u I
theorem XD{l r}(h:Lt l=some r):AO prog 53 [rS l] (rB r):=by
 unfold Lt at h
 refine mF func53 ntmps53 R λV=>aU<|mA R<|aZ<|aS λX Y A=>aU<|mM R<|sQ R (DE R underlying9 iL)<|mM R<|aZ<|Zf<|BI h λZ q B C=>?_
 have J1:∀(O:Unit) (T:NN),Z=.nrm O→X ⟨[(0,rS l)],[],(T 0),28⟩:=by
  intro O T e
  have h1:=B _ e
  exact Y _<|aU<|mM R<|sQ R (DE R underlying9 iL)<|sQ R (Cs R iL iL)<|mM R<|vM R<|vQ R (DE R underlying9<|iR R)<|vQ R (FC R (iR R) iL)<|xN R<|mA R<|aZ<|Zj<|yB h1 R
 refine Zz (λ(E:Int) w=>⟨[(0,rS l),(5,rL l),(6,rI E)],[],(w 0),28⟩) (AH [V]) q wk ?_
 intro E w v1 F u
 have U:Q6 l E=some v1:=F;unfold Q6 at U
 refine aU<|xS R<|aZ<|aT λc6=>cI R U (λI=>?_) λI=>?_
 ·refine Zd<|c6 _<|aT λc7=>Zf<|aU<|mM R<|mA R<|aZ<|aU<|mM R<|mM R<|AG I λa0 j h4=>sQ R (DP R underlying9 iL iL λ_=>j)<|xS R<|mM R<|vM R<|vM R<|vQ R (DP R underlying9 (iR R) (iR R) λ_=>j)<|vQ R (BD R (iR R) iL)<|xO R<|aZ<|cI R h4 (λJ=>?_) λJ=>?_
  ·exact zB (C _<|xH u J) R id
  refine Zd<|c7 _<|aF [0,5,6] ?_
  exact aR<|AG J λx4 M h6=>xA R M<|mM R<|Zh<|Zx h6 (AH [(w 0)]) wk
 exact Zn<|A _ _ wk<|J1 _ (AH [(w 0)])<|xH u I
theorem ML{w c r}(h:HE w c=some r):AO prog 26 [qa w,rB c] (rI r):=by
 unfold HE at h
 refine mF func26 ntmps26 R λn0=>aU<|mA R<|aZ<|aS λK2 c2 E=>aU<|mM R<|xL Ac R<|mM R<|aZ<|Zf<|BI h λo1 A F q=>?_
 have J1:∀(u2:Unit) (i5:NN),o1=.nrm u2→K2 ⟨[],[],(i5 0),54⟩:=by
  intro u2 i5 e
  have h1:=F _ e
  exact c2 _<|zI h1 R id
 refine Zz (λ(I:Int) B=>⟨[(0,qa w),(1,rB c),(7,rL w),(8,rI I)],[],(B 0),54⟩) (AH [n0]) A wk ?_
 intro I B v1 J j
 have h2:Ns w c I=some v1:=J;unfold Ns at h2
 refine aU<|xS R<|aZ<|aT λc6=>cI R h2 (λM=>?_) λM=>?_
 ·refine Zd<|c6 _<|aT λc7=>Zf<|aU<|mM R<|mA R<|aZ<|aT λc9=>aU<|mM R<|mM R<|AG M λC l h4=>xI Ac R l<|sQ R (A2 R CO iL)<|xV (.str C.Name) BC R<|AG h4 λr1 O h5=>cL (gx<|O) R<|sQ R (A0 R iL)<|aZ<|cI R h5 (λT=>?_) λT=>?_
  ·exact zI (q _<|xH j T) R id
  refine Zd<|c9 _<|aT λU=>aT λV=>aF [0,1,5,7,8] ?_
  refine aR<|mM R<|mM R<|xI Ac R l<|sQ R (A2 R Hv iL)<|xV (.str C.Value) BC R<|AG T λr2 X h7=>cL (XD<|X) R<|sQ R (A0 R iL)<|mM R<|vM R<|vM R<|vQ R (Ap R Ac.slice (iR R) (iR R) (λ_=>R) λ_=>l)<|vQ R (A2 R Hv<|iR R)<|vQ R (BU (d:=.str C.Value) R BC (iR R) R)<|vQ R (Ds R (iR R) iL)<|vQ R (AK R<|iR R)<|wQ R (AK R iL)<|wQ R (A0 R<|iR R)<|vQ R (CM R (iR R)<|iR R)<|xN R<|aZ<|V _<|cI R h7 (λY=>?_) λY=>?_
  ·exact zI (q _<|xH j Y) R id
  refine Zd<|U _<|aT λZ=>aF [0,1,5,7,8] ?_
  refine ZA BJ (by kernel_rfl) ?_
  refine qP R (AK R iL)<|qP R (BD R iL iL)<|qP R (AK R iL)<|qO R (AK R iL)<|qO R (AK R iL)<|AG Y λx5 a0 h9=>qO R (CF R (iR R) iL<|AP a0)<|AG h9 λx6 a1 a2=>qO R (Ap R Ac.slice (iR R) (iR R) (λ_=>R)<|AP a1)<|qO R (A2 R CO<|iR R)<|qO R (BU (d:=.str x6.Name) R BC (iR R) R)<|qO R (AK R iL)<|qO R (AK R iL)<|qO R (Ap R Ac.slice (iR R) (iR R) (λ_=>R) λ_=>l)<|qO R (A2 R CO<|iR R)<|qO R (BU (d:=.str C.Name) R BC (iR R) R)<|qO R (V8 R (iR R)<|iR R)<|qP R (BP R iL<|iR R)<|AQ.nil<|Z _<|cI R a2 (λu=>?_) λu=>?_
  ·exact zI (q _<|xH j u) R id
  exact Zd<|c7 _<|aR<|AG u λx7 a6 a7=>xA R a6<|mM R<|Zh<|Zx a7 (AH [(B 0)]) wk
 exact Zn<|E _ _ wk<|J1 _ (AH [(B 0)])<|xH j M
theorem SP{k r}(h:LY k=some r):AO prog 48 [rI k] (rB r):=by
 unfold LY at h
 exact mF func48 ntmps48 R λj=>aU<|mA R<|aZ<|aU<|mM R<|xQ R<|mM R<|vM R<|vQ R (Aq R (iR R) iL)<|xO R<|mM R<|vM R<|vQ R (Aq R (iR R) iL)<|xO R<|mM R<|vM R<|vQ R (Aq R (iR R) iL)<|xO R<|mA R<|aZ<|Zj<|yB h R
theorem tS{k r}(h:T0 k=some r):AO prog 121 [rI k] (rB r):=by
 unfold T0 at h
 exact mF func121 ntmps121 R λj=>aU<|mA R<|aZ<|aU<|mM R<|xQ R<|mM R<|vM R<|vQ R (Aq R (iR R) iL)<|xO R<|mA R<|aZ<|Zj<|yB h R
theorem lZ{j r}(h:QA j=some r):AO prog 122 (WH j) (rB r):=by
 unfold QA at h
 exact mF func122 ntmps122 R λl=>aU<|sS R (Ay (cs:=(Da j)) 1 R iL R R)<|mA R<|aZ<|aU<|lF Ge AJ R R<|xQ R<|mM R<|vF Gr AJ R R<|vQ R (Aq R (iR R) iL)<|xN R<|mM R<|vF GG FA R R<|vQ R (Bu R Cq.slice<|iR R)<|vQ R (Aq R (iR R) iL)<|xN R<|mM R<|vF Fh DR R R<|vQ R (Bu R Cn.slice<|iR R)<|vQ R (Aq R (iR R) iL)<|xN R<|mA R<|aZ<|Zj<|yB h R
theorem dK{k r}(h:Qt k=some r):AO prog 41 [rI k] (rB r):=by
 unfold Qt at h
 exact mF func41 ntmps41 R λj=>aU<|mA R<|aZ<|aU<|mM R<|xQ R<|mM R<|vM R<|vQ R (Aq R (iR R) iL)<|xO R<|mA R<|aZ<|Zj<|yB h R
theorem sJ{k r}(h:Te k=some r):AO prog 123 [rI k] (rB r):=by
 unfold Te at h
 exact mF func123 ntmps123 R λj=>aU<|mA R<|aZ<|aU<|mM R<|xQ R<|mM R<|vM R<|vQ R (Aq R (iR R) iL)<|xO R<|mM R<|vM R<|vQ R (Aq R (iR R) iL)<|xO R<|mA R<|aZ<|Zj<|yB h R
theorem Xp{u r}(h:Jl u=some r):AO prog 55 [rI u] (rB r):=by
 unfold Jl at h
 exact mF func55 ntmps55 R λC=>aU<|mA R<|aZ<|aU<|mM R<|xQ R<|mM R<|vM R<|vQ R (Aq R (iR R) iL)<|xO R<|mM R<|vM R<|AG h λE j w=>vL (λhg=>DX<|AP j hg) R<|xO R<|mM R<|vM R<|AG w λF l A=>vL (λhg=>DX<|AP l hg) R<|xO R<|mM R<|vM R<|AG A λI q B=>vL (λhg=>DX<|AP q hg) R<|xO R<|mA R<|aZ<|Zj<|yB B R
theorem cR{j r}(h:N8 j=some r):AO prog 70 (Z8 j) (rI r):=by
 unfold N8 at h
 refine mF func70 ntmps70 R λT=>aU<|sS R (Ay (cs:=(Ad j)) 1 R iL R R)<|mA R<|aZ<|aT λB=>aU<|lF D1 AJ R R<|xQ R<|mM R<|vF Ea AJ R R<|vQ R (Aq R (iR R) iL)<|xN R<|mM R<|vF D1 AJ R R<|vQ R (Cf R (iR R) iL)<|vQ R (AK R<|iR R)<|wQ R (fB R Ea iL fR R)<|wQ R (AZ (a:=rI j.Ref) R AJ (iR R) R R)<|wQ R (Cf R (iR R) iL)<|vQ R (BP R (iR R)<|iR R)<|xO R<|aZ<|cI R h (λl=>?_) λl=>?_
 ·exact zI l R id
 refine Zd<|B _<|aT λC=>aT λE=>aG [1] [1] ?_
 refine aR<|lF D1 AJ R R<|xU R<|mM R<|vF D1 AJ R R<|AG l λU q F=>vL (λhg=>Xp<|AP q hg) R<|vQ R (A0 R<|iR R)<|xN R<|mM R<|vF Ea AJ R R<|vQ R (Cf R (iR R) iL)<|vQ R (AK R<|iR R)<|wQ R (fB R Ea iL fR R)<|wQ R (AZ (a:=rI j.Ref) R AJ (iR R) R R)<|AG F λI u J=>AN.stepW (.two R R R) R R (ER (r:=rB I) (caps:=[]) (bs:=[rI j.Ref,rI 1,rI 1073741824]) R iL R ⟨⟨_,(iR R),.d R⟩,⟨_,iL,.d R⟩,⟨_,iL,.d R⟩,Za⟩ (λhg=>DX<|AP u hg) R)<|wQ R (A0 R<|iR R)<|vQ R (BP R (iR R)<|iR R)<|xO R<|aZ<|E _<|cI R J (λw=>?_) λw=>?_
 ·exact zI w R id
 refine Zd<|C _<|aT λM=>aG [1] [1] ?_
 exact aR<|lF CR BA R R<|AG w λV A O=>cL (ML<|A) R<|mA R<|aZ<|M _<|Zj<|yI O R
theorem sq{f1 a r}(h:JW f1 a=some r):AO prog 124 [qb f1,rB a] (rI r):=by
 unfold JW at h
 refine mF func124 ntmps124 R λn0=>aU<|mA R<|aZ<|aS λK2 c2 B=>aU<|mM R<|xL Ah R<|mM R<|aZ<|Zf<|BI h λo1 q C u=>?_
 have J1:∀(u2:Unit) (i5:NN),o1=.nrm u2→K2 ⟨[(0,qb f1),(1,rB a)],[],(i5 0),47⟩:=by
  intro u2 i5 e
  have h1:=C _ e
  refine c2 _<|aT λc4=>aU<|mM R<|mM R<|vM R<|vQ R (Bu R Ah.slice<|iR R)<|vQ R (Aq R (iR R) iL)<|vQ R (AK R<|iR R)<|wQ R (AK R iL)<|wQ R (AK R iL)<|wQ R (Bu R Ah.slice<|iR R)<|AG h1 λx4 E h2=>wQ R (CF R (iR R) iL<|AP E)<|AG h2 λx5 F h3=>wQ R (Ap R Ah.slice (iR R) (iR R) (λ_=>R)<|AP F)<|wQ R (A2 R D1<|iR R)<|wQ R (BU (d:=.int .i64 x5.Char) R AJ (iR R) R)<|wQ R (Cf R (iR R) iL)<|vQ R (CM R (iR R)<|iR R)<|xN R<|aZ<|cI R h3 (λI=>?_) λI=>?_
  ·exact zI I R id
  exact Zd<|c4 _<|zI I R id
 refine Zz (λ(J:Int) A=>⟨[(0,qb f1),(1,rB a),(8,rL f1),(9,rI J)],[],(A 0),47⟩) (AH [n0]) q wk ?_
 intro J A v1 M j
 have h5:LU f1 a J=some v1:=M;unfold LU at h5
 refine aU<|xS R<|aZ<|aT λc9=>cI R h5 (λO=>?_) λO=>?_
 ·refine Zd<|c9 _<|aT λT=>Zf<|aU<|mM R<|mA R<|aZ<|aT λU=>aU<|mM R<|mM R<|AG O λx6 w h7=>xI Ah R w<|xB ((Ad x6)) Cj R<|AG h7 λe1 V h8=>cL (cR<|V) R<|mA R<|aZ<|aU<|mM R<|xU R<|aZ<|cI R h8 (λX=>?_) λX=>?_
  ·refine aT λY=>aF [6] ?_
   exact aR<|mM R<|mA R<|aZ<|Y _<|Zj<|yI (u _<|xH j X) R
  refine Zd<|U _<|aT λZ=>aF [0,1,5,8,9] ?_
  refine aR<|mM R<|sQ R (A0 R iL)<|mM R<|vM R<|vM R<|vQ R (Ap R Ah.slice (iR R) (iR R) (λ_=>R) λ_=>w)<|vQ R (A2 R D1<|iR R)<|vQ R (BU (d:=.int .i64 x6.Char) R AJ (iR R) R)<|vQ R (Cf R (iR R) iL)<|xN R<|aZ<|Z _<|cI R X (λl=>?_) λl=>?_
  ·exact zI (u _<|xH j l) R id
  exact Zd<|T _<|aR<|AG l λx7 a0 a1=>xA R a0<|mM R<|Zh<|Zx a1 (AH [(A 0)]) wk
 exact Zn<|B _ _ wk<|J1 _ (AH [(A 0)])<|xH j O
theorem qQ{j r}(h:Ts j=some r):AO prog 215 [rS j] (rB r):=by
 unfold Ts at h
 exact vZ tj R R R ⟨_,func215,R,R⟩ h
theorem my{l r}(h:Qv l=some r):AO prog 190 [rS l] (rB r):=by
 unfold Qv at h
 refine mF func190 ntmps190 R λE=>aU<|mA R<|aZ<|aT λc2=>aU<|mM R<|AG h λr1 F h1=>cL (qQ<|F) R<|sQ R (A0 R iL)<|aZ<|cI R h1 (λI=>?_) λI=>?_
 ·exact zB I R id
 refine Zd<|c2 _<|aS λK5 c5 J=>aU<|mM R<|sS R (jT 9 R underlying9 iL)<|aZ<|Zf<|BI I λo1 q M O=>?_
 have J1:∀(Z:Unit) (i5:NN),o1=.nrm Z→K5 ⟨[],[],(i5 0),21⟩:=by
  intro Z i5 e
  have h3:=M _ e
  exact c5 _<|zB h3 R id
 refine Zz (λ(B:(Nat)) C=>⟨[(9,.ptr 9 E 0 0)],[(9,some<|.it E l B)],(C 0),21⟩) (AH [(E+1)]) q wk ?_
 intro B C v1 T u
 have U:Fw l B=some v1:=T;unfold Fw at U
 refine aT λc8=>AW.split (decide<|B<l.length) (λj=>?_) λj=>?_
 ·have V:=Br j U
  refine aR<|sS R (sN R iL R λ_=>j)<|xX R<|aZ<|c8 _<|aT λc9=>aC R (λw=>?_) λw=>by cases w
  refine Zd<|c9 _<|Zf<|aU<|xX R<|mA R<|aZ<|aU<|mM R<|xQ R<|mM R<|vM R<|vQ R (D2 R underlying21 underlying3<|iR R)<|AG V λr2 X h6=>vL (λhg=>Xp<|AP X hg) R<|vQ R (A0 R<|iR R)<|xO R<|aZ<|cI R h6 (λY=>?_) λY=>?_
  ·exact zB (O _<|xH u Y) R id
  exact Zd<|Zx Y (AH [(C 0)]) wk
 ·have V:=Bt j U
  exact aR<|sS R (vB R iL R λ_=>j)<|xX R<|aZ<|c8 _<|aT λa0=>aC R (λA=>by cases A) λA=>Zn<|J _ _ wk<|J1 _ (AH [(C 0)])<|xH u V
theorem q9{j r}(h:Q0 j=some r):AO prog 191 (fr j) (rB r):=by
 unfold Q0 at h
 exact mF func191 ntmps191 R λl=>aU<|sS R (Ay (cs:=(CA j)) 1 R iL R R)<|mA R<|aZ<|aU<|lF Hp BC R R<|sQ R (Bo R iL iL)<|mM R<|vF FY AJ R R<|vQ R (Aq R (iR R) iL)<|xN R<|mM R<|vF HU BA R R<|vQ R (Bu R Ac.slice<|iR R)<|vQ R (Aq R (iR R) iL)<|xN R<|mA R<|aZ<|Zj<|yB h R
theorem iB{C b c n r}(h:NS C b c n=some r):AO prog 160 [qe C,rI b,rI c,rB n] (rI r):=by
 unfold NS at h
 refine mF func160 ntmps160 R λn0=>aU<|mA R<|aZ<|aS λK2 c2 U=>aU<|mM R<|xL Cq R<|mM R<|aZ<|Zf<|BI h λo1 E V l=>?_
 have J1:∀(u2:Unit) (i5:NN),o1=.nrm u2→K2 ⟨[],[],(i5 0),93⟩:=by
  intro u2 i5 e
  have h1:=V _ e
  exact c2 _<|zI h1 R id
 refine Zz (λ(X:Int) T=>⟨[(0,qe C),(1,rI b),(2,rI c),(3,rB n),(13,rL C),(14,rI X)],[],(T 0),93⟩) (AH [n0]) E wk ?_
 intro X T v1 Y j
 have h2:O7 C b c n X=some v1:=Y;unfold O7 at h2
 refine aU<|xS R<|aZ<|aT λc6=>cI R h2 (λZ=>?_) λZ=>?_
 ·refine Zd<|c6 _<|aT λc7=>Zf<|aU<|mM R<|mA R<|aZ<|aU<|mM R<|mM R<|AG Z λF a0 h4=>xI Cq R a0<|xB ((CA F)) Fx R<|sS R (BB (cs:=NY) 10 R Ma R R)<|Zk R R (Af (ds:=(CA F)) R Mq iL R iL R R R R)<|aZ<|aT λa1=>aT λa2=>aR<|lF GE AJ R R<|mM R<|AG h4 λx5 a6 h5=>sQ R (CF R iL iL λ_=>a6)<|AG h5 λr1 a7 h6=>cL (DX<|a7) R<|sQ R (A0 R iL)<|mM R<|vF HR AJ R R<|vM R<|AG h6 λx6 a8 h7=>vQ R (CF R (iR R) iL<|AP a8)<|AG h7 λr2 aa h8=>vL (λhg=>DX<|AP aa hg) R<|vQ R (A0 R<|iR R)<|xO R<|mM R<|vF FY AJ R R<|AG h8 λr3 ab h9=>vL (λhg=>DX<|AP ab hg) R<|vQ R (A0 R<|iR R)<|xO R<|aZ<|a2 _<|cI R h9 (λq=>?_) λq=>?_
  ·exact zI (l _<|xH j q) R id
  refine Zd<|a1 _<|aT λac=>aT λad=>aG [0,1,2,3,9,10,13,14] [10] ?_
  refine aR<|lF Hp BC R R<|AG q λr4 ae af=>cL (my<|ae) R<|sQ R (A0 R iL)<|aZ<|ad _<|cI R af (λu=>?_) λu=>?_
  ·exact zI (l _<|xH j u) R id
  refine Zd<|ac _<|aT λag=>aU<|lF HU BA R R<|AG u λe1 ah ai=>cL (ML<|ah) R<|mA R<|aZ<|aU<|mM R<|xU R<|aZ<|cI R ai (λw=>?_) λw=>?_
  ·refine aT λaj=>aF [11] ?_
   exact aR<|mM R<|mA R<|aZ<|aj _<|Zj<|yI (l _<|xH j w) R
  refine Zd<|ag _<|aT λak=>aT λal=>aG [0,1,2,3,9,10,13,14] [10] ?_
  refine aR<|mM R<|sQ R (A0 R iL)<|mM R<|vQ R (D5 R Fx iL R R)<|AG w λr5 an ao=>vL (λhg=>q9<|AP an hg) R<|xN R<|aZ<|al _<|cI R ao (λA=>?_) λA=>?_
  ·exact zI (l _<|xH j A) R id
  refine Zd<|ak _<|aT λaq=>?_
  refine ZA BJ (by kernel_rfl) ?_
  refine qP R (AK R iL)<|qP R (BD R iL iL)<|qP R (AK R iL)<|qO R (fB R GE iL fR R)<|qO R (AZ (a:=rI F.Row) R AJ (iR R) R R)<|qO R (AK R iL)<|qO R (AK R iL)<|AG A λx7 I ar=>qO R (CF R (iR R) iL<|AP I)<|AG ar λx8 J av=>qO R (Ap R Cq.slice (iR R) (iR R) (λ_=>R)<|AP J)<|qO R (A2 R GE<|iR R)<|qO R (BU (d:=.int .i64 x8.Row) R AJ (iR R) R)<|qO R (B7 R (iR R)<|iR R)<|qO R (AK R<|iR R)<|qT R (fB R GE iL fR R)<|qT R (AZ (a:=rI F.Row) R AJ (iR R) R R)<|qT R (AK R iL)<|qT R (AK R iL)<|qT R (CF R (iR R) iL λh=>AP I (ye.1 h).1)<|qT R (Ap R Cq.slice (iR R) (iR R) (λ_=>R) λh=>AP J (ye.1 h).1)<|qT R (A2 R GE<|iR R)<|qT R (BU (d:=.int .i64 x8.Row) R AJ (iR R) R)<|qT R (Aq R (iR R)<|iR R)<|qT R (AK R<|iR R)<|qT R (fB R HR iL fR R)<|qT R (AZ (a:=rI F.Col) R AJ (iR R) R R)<|qT R (AK R iL)<|qT R (AK R iL)<|AG av λx9 aw ax=>qT R (CF R (iR R) iL<|AP aw)<|AG ax λay M az=>qT R (Ap R Cq.slice (iR R) (iR R) (λ_=>R)<|AP M)<|qT R (A2 R HR<|iR R)<|qT R (BU (d:=.int .i64 ay.Col) R AJ (iR R) R)<|qT R (FC R (iR R)<|iR R)<|qT R (BP R (iR R)<|iR R)<|qO R (CM R (iR R)<|iR R)<|qP R (BP R iL<|iR R)<|AQ.nil<|aq _<|cI R az (λB=>?_) λB=>?_
  ·exact zI (l _<|xH j B) R id
  refine Zd<|c7 _<|aF [0,1,2,3,13,14] ?_
  exact aR<|AG B λb1 O b0=>xA R O<|mM R<|Zh<|Zx b0 (AH [((T 0)+1)]) wk
 exact Zn<|U _ _ wk<|J1 _ (AH [(T 0)])<|xH j Z
theorem XC{j a c r}(h:LZ j a c=some r):AO prog 161 [.agg<|BT j,rI a,rI c] (rB r):=by
 unfold LZ at h
 exact mF func161 ntmps161 R λY=>aU<|sS R (Ay (cs:=(BT j)) 3 R iL R R)<|mA R<|aZ<|aT λF=>aR<|lF EG AJ R R<|mM R<|AG h λZ l I=>sQ R (CF R iL iL λ_=>l)<|AG I λr2 q J=>cL (DX<|q) R<|mM R<|vF E5 AJ R R<|vM R<|AG J λx2 u M=>vQ R (CF R (iR R) iL<|AP u)<|AG M λr3 w O=>vL (λhg=>DX<|AP w hg) R<|xN R<|mM R<|vF IN AJ R R<|vM R<|vF EG AJ R R<|AG O λx3 A T=>vQ R (CF R (iR R) (iR R)<|AP A)<|AG T λr4 B U=>vL (λhg=>DX<|AP B hg) R<|xN R<|mM R<|vF H8 AJ R R<|vM R<|vF E5 AJ R R<|AG U λx4 C V=>vQ R (CF R (iR R) (iR R)<|AP C)<|AG V λr5 E X=>vL (λhg=>DX<|AP E hg) R<|xN R<|mA R<|aZ<|F _<|Zj<|yB X R
theorem rh{j l r}(h:Qm j l=some r):AO prog 166 [.agg<|BT j,.agg<|BT l] (rB r):=by
 unfold Qm at h
 refine mF func166 ntmps166 R λM=>aU<|sS R (Ay (cs:=(BT j)) 2 R iL R R)<|sS R (Ay (cs:=(BT l)) 3 R iL R R)<|mA R<|aZ<|aT λB=>?_
 refine ZA BJ (by kernel_rfl) ?_
 refine qP R (fB R EG iL fR R)<|qP R (AZ (a:=rI j.Row) R AJ iL R R)<|qP R (fB R EG iL fR R)<|qP R (AZ (a:=rI l.Row) R AJ iL R R)<|qP R (Xi R iL iL)<|qP R (fB R E5 iL fR R)<|qP R (AZ (a:=rI j.Col) R AJ iL R R)<|qP R (fB R E5 iL fR R)<|qP R (AZ (a:=rI l.Col) R AJ iL R R)<|qP R (Xi R iL iL)<|qP R (Do R iL)<|qP R (Do R iL)<|AQ.nil<|B _<|aT λC=>aG [2,3,5,6] [2,3] ?_
 exact aR<|mM R<|lF EG AJ R R<|lF IN AJ R R<|AG h λO q E=>xA R q<|lF EG AJ R R<|lF IN AJ R R<|AG E λT u F=>xA R u<|sQ R (Ku R iL iL)<|xS R<|mM R<|vM R<|vF E5 AJ R R<|vF H8 AJ R R<|AG F λU w I=>vQ R (G5 R (iR R) (iR R)<|AP w)<|vF E5 AJ R R<|vF H8 AJ R R<|AG I λV A J=>vQ R (G5 R (iR R) (iR R)<|AP A)<|vQ R (Ku R (iR R)<|iR R)<|vQ R (B7 R (iR R)<|iR R)<|xN R<|mA R<|aZ<|C _<|Zj<|yB J R
theorem jl{j r}(h:P4 j=some r):AO prog 125 (WH j) (rI r):=by
 unfold P4 at h
 refine mF func125 ntmps125 R λA=>aU<|sS R (Ay (cs:=(Da j)) 1 R iL R R)<|mA R<|aZ<|aT λc2=>aU<|lF Ge AJ R R<|AG h λr1 a8 h1=>cL (DX<|a8) R<|sQ R (A0 R iL)<|mM R<|vF Gr AJ R R<|AG h1 λr2 aa h2=>vL (λhg=>DX<|AP aa hg) R<|vQ R (A0 R<|iR R)<|xO R<|aZ<|cI R h2 (λh3=>?_) λh3=>?_
 ·exact zI h3 R id
 refine Zd<|c2 _<|aT λc5=>aT λc6=>aG [1] [1] ?_
 refine aR<|lF GG FA R R<|lF Ge AJ R R<|lF Gr AJ R R<|AG h3 λe1 ab h4=>cL (iB<|ab) R<|mA R<|aZ<|c6 _<|aU<|mM R<|xU R<|aZ<|cI R h4 (λh5=>?_) λh5=>?_
 ·refine aT λc8=>aF [3] ?_
  exact aR<|mM R<|mA R<|aZ<|c8 _<|Zj<|yI h5 R
 refine Zd<|c5 _<|aS λK9 c9 ac=>aT λad=>aG [1] [1] ?_
 refine aR<|lF Fh DR R R<|xL Cn R<|mM R<|aZ<|ad _<|Zf<|BI h5 λo1 U ae w=>?_
 have J1:∀(u2:Unit) (i5:NN),o1=.nrm u2→K9 ⟨[],[],(i5 0),104⟩:=by
  intro u2 i5 e
  have h6:=ae _ e
  exact c9 _<|zI h6 R id
 refine Zz (λ(B:Int) T=>⟨[(1,.ptr 1 A 0 0),(29,rL j.Merges),(30,rI B)],[(1,some<|.box A 43<|Da j)],(T 0),104⟩) (AH [(A+1)]) U wk ?_
 intro B T v1 af u
 have h7:QT j B=some v1:=af;unfold QT at h7
 refine aU<|xS R<|aZ<|aT λag=>cI R h7 (λh8=>?_) λh8=>?_
 ·refine Zd<|ag _<|aS λah ai V=>Zf<|aU<|mM R<|mA R<|aZ<|aU<|lF Fh DR R R<|mM R<|AG h8 λq aj h9=>xI Cn R aj<|xB ((BT q)) E1 R<|sS R (BB (cs:=[rI 0,rI 0,rI 0,rI 0]) 5 R ez R R)<|Zk R R (Af (ds:=(BT q)) R fg iL R iL R R R R)<|aZ<|aT λak=>aU<|xC E1 R<|lF Ge AJ R R<|lF Gr AJ R R<|AG h9 λr3 al an=>cL (XC<|al) R<|sQ R (A0 R iL)<|aZ<|cI R an (λC=>?_) λC=>?_
  ·exact zI (w _<|xH u C) R id
  refine Zd<|ak _<|aT λao=>aT λaq=>aG [1,4,5,29,30] [1,5] ?_
  refine aR<|lF IN AJ R R<|xQ R<|mM R<|vF H8 AJ R R<|vQ R (Aq R (iR R) iL)<|xN R<|aZ<|aq _<|cI R C (λE=>?_) λE=>?_
  ·exact zI (w _<|xH u E) R id
  refine Zd<|ao _<|aT λar=>aT λav=>?_
  refine ZA BJ (by kernel_rfl) ?_
  refine qP R (AK R iL)<|qP R (BD R iL iL)<|qP R (AK R iL)<|qO R (fB R EG iL fR R)<|qO R (AZ (a:=rI q.Row) R AJ (iR R) R R)<|qO R (fB R Fh iL fR R)<|qO R (AZ (a:=qc j.Merges) R DR (iR R) R R)<|qO R (AK R iL)<|AG E λx5 X aw=>qO R (CF R (iR R) iL<|AP X)<|AG aw λx6 Y ax=>qO R (Ap R Cn.slice (iR R) (iR R) (λ_=>R)<|AP Y)<|qO R (A2 R EG<|iR R)<|qO R (BU (d:=.int .i64 x6.Row) R AJ (iR R) R)<|qO R (B7 R (iR R)<|iR R)<|qO R (AK R<|iR R)<|qT R (fB R EG iL fR R)<|qT R (AZ (a:=rI q.Row) R AJ (iR R) R R)<|qT R (fB R Fh iL fR R)<|qT R (AZ (a:=qc j.Merges) R DR (iR R) R R)<|qT R (AK R iL)<|qT R (CF R (iR R) iL λh=>AP X (ye.1 h).1)<|qT R (Ap R Cn.slice (iR R) (iR R) (λ_=>R) λh=>AP Y (ye.1 h).1)<|qT R (A2 R EG<|iR R)<|qT R (BU (d:=.int .i64 x6.Row) R AJ (iR R) R)<|qT R (Aq R (iR R)<|iR R)<|qT R (AK R<|iR R)<|qT R (fB R E5 iL fR R)<|qT R (AZ (a:=rI q.Col) R AJ (iR R) R R)<|qT R (fB R Fh iL fR R)<|qT R (AZ (a:=qc j.Merges) R DR (iR R) R R)<|qT R (AK R iL)<|AG ax λx7 ay az=>qT R (CF R (iR R) iL<|AP ay)<|AG az λx8 b0 b1=>qT R (Ap R Cn.slice (iR R) (iR R) (λ_=>R)<|AP b0)<|qT R (A2 R E5<|iR R)<|qT R (BU (d:=.int .i64 x8.Col) R AJ (iR R) R)<|qT R (FC R (iR R)<|iR R)<|qT R (BP R (iR R)<|iR R)<|qO R (CM R (iR R)<|iR R)<|qP R (BP R iL<|iR R)<|AQ.nil<|av _<|cI R b1 (λF=>?_) λF=>?_
  ·exact zI (w _<|xH u F) R id
  refine Zd<|ar _<|aT λb2=>aG [1,4,5,29,30] [1,5] ?_
  refine aR<|mM R<|mM R<|aZ<|b2 _<|Zf<|BI F λo2 Z b3 b4=>?_
  have J2:∀(u4:Unit) (I:NN),o2=.nrm u4→ah ⟨[(1,.ptr 1 A 0 0),(29,rL j.Merges),(30,rI B)],[(1,some<|.box A 43<|Da j)],(I 0),104⟩:=by
   intro u4 I e
   have b5:=b3 _ e
   exact ai _<|aR<|AG b5 λbg a0 b6=>xA R a0<|mM R<|Zh<|Zx b6 (AH [(I 0)]) wk
  refine Zz (λ(J:Int) i8=>⟨[(1,.ptr 1 A 0 0),(5,.ptr 5 (T 0) 0 0),(29,rL j.Merges),(30,rI B),(91,rI B),(92,rI J)],[(1,some<|.box A 43<|Da j),(5,some<|.box (T 0) 211<|BT q)],(i8 0),104⟩) (AH [((T 0)+1)]) Z wk ?_
  intro J i8 v2 b7 a1
  have a2:PJ j B q J=some v2:=b7;unfold PJ at a2
  refine aU<|xS R<|aZ<|aT λb8=>cI R a2 (λM=>?_) λM=>?_
  ·refine Zd<|b8 _<|aT λb9=>Zf<|aU<|mM R<|mA R<|aZ<|aT λba=>?_
   refine ZA BJ (by kernel_rfl) ?_
   refine qP R (D5 R E1 iL R R)<|qP R (fB R Fh iL fR R)<|qP R (AZ (a:=qc j.Merges) R DR iL R R)<|qP R (AK R iL)<|AG M λl a6 bb=>qP R (Ap R Cn.slice iL iL (λ_=>R) λ_=>a6)<|qP R (CU (cs:=(BT l)) R E1 iL R R)<|AG bb λr4 bc bd=>Ep R R R (r:=rB r4) (caps:=[]) (bs:=[.agg<|BT q,.agg<|BT l]) R iL R ⟨⟨_,iL,.g (cs:=[.int .i64 q.Row,.int .i64 q.Col,.int .i64 q.H,.int .i64 q.W]) R R⟩,⟨_,iL,.g (cs:=[.int .i64 l.Row,.int .i64 l.Col,.int .i64 l.H,.int .i64 l.W]) R R⟩,Za⟩ (λ_=>rh<|bc) R<|AQ.nil<|ba _<|cI R bd (λO=>?_) λO=>?_
   ·refine aT λbe=>aF [] ?_
    exact aR<|mA R<|aZ<|be _<|Zj<|yI (w _<|u _ (Zb<|b4 _<|xH a1 O).symm) R
   refine Zd<|b9 _<|aG [1,5,29,30,91,92] [1,5] ?_
   exact aR<|AG O λbh a7 bf=>xA R a7<|mM R<|Zh<|Zx bf (AH [(i8 0)]) wk
  exact Zn<|V _ _ wk<|J2 _ (AH [(i8 0)])<|xH a1 M
 exact Zn<|ac _ _ wk<|J1 _ (AH [(T 0)])<|xH u h8
theorem na{k j r}(h:PS k j=some r):AO prog 126 [rI k,qe j] (rI r):=by
 unfold PS at h
 refine mF func126 ntmps126 R λY=>aU<|mA R<|aZ<|aS λZ c2 A=>aU<|mM R<|xL Cq R<|mM R<|aZ<|Zf<|BI h λo1 l B C=>?_
 have J1:∀(T:Unit) (U:NN),o1=.nrm T→Z ⟨[],[],(U 0),43⟩:=by
  intro T U e
  have h1:=B _ e
  exact c2 _<|zI h1 R id
 refine Zz (λ(E:Int) w=>⟨[(0,rI k),(1,qe j),(7,rL j),(8,rI E)],[],(w 0),43⟩) (AH [Y]) l wk ?_
 intro E w v1 F q
 have V:On k j E=some v1:=F;unfold On at V
 refine aU<|xS R<|aZ<|aT λc6=>cI R V (λI=>?_) λI=>?_
 ·refine Zd<|c6 _<|aT λc7=>Zf<|aU<|mM R<|mA R<|aZ<|aT λc9=>aR<|mM R<|xQ R<|mM R<|vM R<|vM R<|AG I λX u h4=>vQ R (Ap R Cq.slice (iR R) (iR R) (λ_=>R)<|AP u)<|vQ R (A2 R Hp<|iR R)<|vQ R (BU (d:=.str X.Text) R BC (iR R) R)<|vQ R (Ds R (iR R) iL)<|vQ R (AK R<|iR R)<|wQ R (AK R iL)<|wQ R (AK R iL)<|wQ R (Ap R Cq.slice (iR R) (iR R) (λ_=>R) λh=>AP u (ye.1 h).1)<|wQ R (A2 R HU<|iR R)<|wQ R (BU (d:=.sl<|X.Attrs.map AC.row) R BA (iR R) R)<|wQ R (Bu R Ac.slice<|iR R)<|wQ R (BD R (iR R) iL)<|vQ R (CM R (iR R)<|iR R)<|xN R<|mM R<|vM R<|vQ R (Aq R (iR R) iL)<|vQ R (AK R<|iR R)<|wQ R (AK R iL)<|wQ R (AK R iL)<|AG h4 λx5 J h5=>wQ R (Ap R Cq.slice (iR R) (iR R) (λ_=>R)<|AP J)<|wQ R (A2 R FY<|iR R)<|wQ R (BU (d:=.int .i64 x5.Ref) R AJ (iR R) R)<|wQ R (Cf R (iR R) iL)<|vQ R (BP R (iR R)<|iR R)<|xO R<|aZ<|c9 _<|cI R h5 (λM=>?_) λM=>?_
  ·exact zI (C _<|xH q M) R id
  refine Zd<|c7 _<|aF [0,1,7,8] ?_
  exact aR<|AG M λx6 O h7=>xA R O<|mM R<|Zh<|Zx h7 (AH [(w 0)]) wk
 exact Zn<|A _ _ wk<|J1 _ (AH [(w 0)])<|xH q I
theorem nQ{l r}(h:Qn l=some r):AO prog 162 [rS l] (rB r):=by
 unfold Qn at h
 refine mF func162 ntmps162 R λY=>aU<|mA R<|aZ<|aS λZ c2 B=>aU<|mM R<|sQ R (DE R underlying9 iL)<|mM R<|aZ<|Zf<|BI h λo1 q C E=>?_
 have J1:∀(U:Unit) (V:NN),o1=.nrm U→Z ⟨[(0,rS l)],[],(V 0),36⟩:=by
  intro U V e
  have h1:=C _ e
  exact c2 _<|aU<|mM R<|sQ R (DE R underlying9 iL)<|sQ R (Cs R iL iL)<|mM R<|vM R<|vQ R (DE R underlying9<|iR R)<|vQ R (FC R (iR R) iL)<|xN R<|mM R<|vM R<|vM R<|vQ R (DE R underlying9<|iR R)<|AG h1 λx4 F h2=>vQ R (CF R (iR R) iL<|AP F)<|AG h2 λa0 u h3=>vQ R (DP R underlying9 (iR R) (iR R)<|AP u)<|vQ R (Cf R (iR R) iL)<|xN R<|mA R<|aZ<|Zj<|yB h3 R
 refine Zz (λ(I:Int) A=>⟨[(0,rS l),(5,rL l),(6,rI I)],[],(A 0),36⟩) (AH [Y]) q wk ?_
 intro I A v1 J w
 have X:Kz l I=some v1:=J;unfold Kz at X
 refine aU<|xS R<|aZ<|aT λc6=>cI R X (λM=>?_) λM=>?_
 ·refine Zd<|c6 _<|aT λc7=>Zf<|aU<|mM R<|mA R<|aZ<|aU<|mM R<|mM R<|AG M λa1 j h6=>sQ R (DP R underlying9 iL iL λ_=>j)<|xS R<|mM R<|vM R<|vM R<|vQ R (DP R underlying9 (iR R) (iR R) λ_=>j)<|vQ R (BD R (iR R) iL)<|xO R<|aZ<|cI R h6 (λO=>?_) λO=>?_
  ·exact zB (E _<|xH w O) R id
  refine Zd<|c7 _<|aF [0,5,6] ?_
  exact aR<|AG O λx5 T h8=>xA R T<|mM R<|Zh<|Zx h8 (AH [(A 0)]) wk
 exact Zn<|B _ _ wk<|J1 _ (AH [(A 0)])<|xH w M
theorem mt{j l r}(h:Mh j l=some r):AO prog 163 [.agg<|Ck j,.agg<|Ck l] (rB r):=by
 unfold Mh at h
 exact mF func163 ntmps163 R λq=>aU<|sS R (Ay (cs:=(Ck j)) 2 R iL R R)<|sS R (Ay (cs:=(Ck l)) 3 R iL R R)<|mA R<|aZ<|aU<|lF I8 AJ R R<|lF I8 AJ R R<|xS R<|mM R<|vF I8 AJ R R<|vF I8 AJ R R<|vQ R (Aq R (iR R)<|iR R)<|vQ R (AK R<|iR R)<|wQ R (fB R Ll iL fR R)<|wQ R (AZ (a:=rI j.Site) R AJ (iR R) R R)<|wQ R (fB R Ll iL fR R)<|wQ R (AZ (a:=rI l.Site) R AJ (iR R) R R)<|wQ R (B7 R (iR R)<|iR R)<|vQ R (BP R (iR R)<|iR R)<|xO R<|mA R<|aZ<|Zj<|yB h R
theorem co{B r}(h:MI B=some r):AO prog 113 [qf B] (rI r):=by
 unfold MI at h
 refine mF func113 ntmps113 R λn0=>aU<|mA R<|aZ<|aS λK2 c2 a0=>aU<|mM R<|xL FI R<|mM R<|aZ<|Zf<|BI h λo1 X a1 l=>?_
 have J1:∀(u2:Unit) (i5:NN),o1=.nrm u2→K2 ⟨[],[],(i5 0),91⟩:=by
  intro u2 i5 e
  have h1:=a1 _ e
  exact c2 _<|zI h1 R id
 refine Zz (λ(Y:Int) C=>⟨[(0,qf B),(6,rL B),(7,rI Y)],[],(C 0),91⟩) (AH [n0]) X wk ?_
 intro Y C v1 a2 j
 have h2:Rc B Y=some v1:=a2;unfold Rc at h2
 refine aU<|xS R<|aZ<|aT λc6=>cI R h2 (λh3=>?_) λh3=>?_
 ·refine Zd<|c6 _<|aT λc7=>Zf<|aU<|mM R<|mA R<|aZ<|aU<|mM R<|mM R<|AG h3 λu a6 h4=>xI FI R a6<|xB ((Ck u)) Ij R<|sS R (BB (cs:=[rI 0,rI 0,rI 0,rI 0,rI 0,.r<|.str [],.r<|.str [],.r<|.str []]) 4 R cC R R)<|Zk R R (Af (ds:=(Ck u)) R bN iL R iL R R R R)<|aZ<|aT λa7=>aU<|lF HL AJ R R<|xU R<|mM R<|vF HL AJ R R<|vQ R (Cf R (iR R) iL)<|xN R<|aZ<|cI R h4 (λh5=>?_) λh5=>?_
  ·exact zI (l _<|xH j h5) R id
  refine Zd<|a7 _<|aT λa8=>aT λaa=>aG [0,3,4,6,7] [4] ?_
  refine aR<|lF I8 AJ R R<|AG h5 λr1 ab h6=>cL (DX<|ab) R<|sQ R (A0 R iL)<|mM R<|vF Ll AJ R R<|AG h6 λr2 ac h7=>vL (λhg=>DX<|AP ac hg) R<|vQ R (A0 R<|iR R)<|xO R<|mM R<|vF X4 AJ R R<|AG h7 λr3 ad h8=>vL (λhg=>DX<|AP ad hg) R<|vQ R (A0 R<|iR R)<|xO R<|aZ<|aa _<|cI R h8 (λh9=>?_) λh9=>?_
  ·exact zI (l _<|xH j h9) R id
  refine Zd<|a8 _<|aS λae af A=>aU<|lF HL AJ R R<|xQ R<|aZ<|BI h9 λp1 Z ag q=>?_
  have J2:∀(u3:Unit) (i6:NN),p1=.nrm u3→ae ⟨[(0,qf B),(3,rI Y),(4,.ptr 4 (C 0) 0 0),(6,rL B),(7,rI Y)],[(4,some<|.box (C 0) 176<|Ck u)],(i6 0),91⟩:=by
   intro u3 i6 e
   have ah:=ag _ e
   refine af _<|aT λai=>?_
   refine ZA BJ (by kernel_rfl) ?_
   refine qP R (AK R iL)<|qP R (BD R iL iL)<|qP R (AK R iL)<|qO R (AK R iL)<|qO R (AK R iL)<|AG ah λx5 aj ak=>qO R (CF R (iR R) iL<|AP aj)<|AG ak λw al an=>qO R (Ap R FI.slice (iR R) (iR R) (λ_=>R)<|AP al)<|qO R (CU (cs:=(Ck w)) R Ij (iR R) R R)<|qO R (D5 R Ij iL R R)<|AG an λr4 ao aq=>HS (.one R R R) R R (r:=rB r4) (caps:=[]) (bs:=[.agg<|Ck w,.agg<|Ck u]) R iL R ⟨⟨_,(iR R),.g (cs:=[.int .i64 w.Clock,.int .i64 w.Site,.int .i64 w.Kind,.int .i64 w.Item,.int .i64 w.Parent,.str w.Place,.str w.Name,.str w.Value]) R R⟩,⟨_,(iR R),.g (cs:=[.int .i64 u.Clock,.int .i64 u.Site,.int .i64 u.Kind,.int .i64 u.Item,.int .i64 u.Parent,.str u.Place,.str u.Name,.str u.Value]) R R⟩,Za⟩ (λhg=>mt<|AP ao hg) R<|qO R (A0 R<|iR R)<|qP R (BP R iL<|iR R)<|AQ.nil<|ai _<|cI R aq (λE=>?_) λE=>?_
   ·exact zI (l _<|xH j E) R id
   exact Zd<|c7 _<|aR<|AG E λx7 ar av=>xA R ar<|mM R<|Zh<|Zx av (AH [(i6 0)]) wk
  refine aC R (λF=>?_) λF=>?_
  ·have I:=Br F Z
   refine aT λaw=>aT λax=>aG [0,3,4,6,7] [4] ?_
   refine aR<|lF UK BC R R<|sQ R (Ds R iL iL)<|mM R<|vF MW BC R R<|vQ R (Ds R (iR R) iL)<|xO R<|aZ<|ax _<|cI R I (λJ=>?_) λJ=>?_
   ·refine aT λay=>aF [] ?_
    exact aR<|mA R<|aZ<|ay _<|Zj<|yI (l _<|j _ (Zb<|q _ (Zb J).symm).symm) R
   refine Zd<|aw _<|aT λaz=>aU<|lF QP AJ R R<|AG J λr5 b0 b1=>cL (DX<|b0) R<|sQ R (A0 R iL)<|aZ<|cI R b1 (λM=>?_) λM=>?_
   ·refine aT λb2=>aF [] ?_
    exact aR<|mA R<|aZ<|b2 _<|Zj<|yI (l _<|j _ (Zb<|q _ (Zb M).symm).symm) R
   refine Zd<|az _<|aT λb3=>aG [0,3,4,6,7] [4] ?_
   refine aR<|lF R9 BC R R<|AG M λr6 b4 b5=>cL (nQ<|b4) R<|sQ R (A0 R iL)<|aZ<|b3 _<|cI R b5 (λO=>?_) λO=>?_
   ·refine aT λb6=>aF [] ?_
    exact aR<|mA R<|aZ<|b6 _<|Zj<|yI (l _<|j _ (Zb<|q _ (Zb O).symm).symm) R
   exact Zd<|A _ _ wk<|J2 _ (AH [((C 0)+1)]) (Zb O).symm
  ·have I:=Bt F Z
   refine aT λb7=>aT λb8=>aG [0,3,4,6,7] [4] ?_
   refine aR<|lF QP AJ R R<|xU R<|mM R<|vF R9 BC R R<|vQ R (Ds R (iR R) iL)<|xO R<|aZ<|b8 _<|cI R I (λT=>?_) λT=>?_
   ·refine aT λb9=>aF [] ?_
    exact aR<|mA R<|aZ<|b9 _<|Zj<|yI (l _<|j _ (Zb<|q _ (Zb T).symm).symm) R
   refine Zd<|b7 _<|aT λba=>aU<|lF UK BC R R<|AG T λr7 bb bc=>cL (gx<|bb) R<|sQ R (A0 R iL)<|aZ<|cI R bc (λU=>?_) λU=>?_
   ·refine aT λbd=>aF [] ?_
    exact aR<|mA R<|aZ<|bd _<|Zj<|yI (l _<|j _ (Zb<|q _ (Zb U).symm).symm) R
   refine Zd<|ba _<|aT λbe=>aG [0,3,4,6,7] [4] ?_
   refine aR<|lF MW BC R R<|sQ R (Ds R iL iL)<|mM R<|vF MW BC R R<|AG U λr8 bf bg=>vL (λhg=>XD<|AP bf hg) R<|vQ R (A0 R<|iR R)<|xN R<|aZ<|be _<|cI R bg (λV=>?_) λV=>?_
   ·refine aT λbh=>aF [] ?_
    exact aR<|mA R<|aZ<|bh _<|Zj<|yI (l _<|j _ (Zb<|q _ (Zb V).symm).symm) R
   exact Zd<|A _ _ wk<|J2 _ (AH [((C 0)+1)]) (Zb V).symm
 exact Zn<|a0 _ _ wk<|J1 _ (AH [(C 0)])<|xH j h3
theorem g9{n1 r}(h:N2 n1=some r):AO prog 79 (NW n1) (rI r):=by
 unfold N2 at h
 refine mF func79 ntmps79 R λn0=>aU<|sS R (Ay (cs:=(Bd n1)) 1 R iL R R)<|mA R<|aZ<|aT λc2=>aU<|lF Ex AJ R R<|AG h λr1 E h1=>cL (DX<|E) R<|sQ R (A0 R iL)<|aZ<|cI R h1 (λF=>?_) λF=>?_
 ·exact zI F R id
 refine Zd<|c2 _<|aT λc5=>aU<|lF Cy AJ R R<|AG F λr2 I h3=>cL (DX<|I) R<|sQ R (A0 R iL)<|mM R<|vF Ex AJ R R<|vQ R (Aq R (iR R) iL)<|vQ R (AK R<|iR R)<|wQ R (fB R Cy iL fR R)<|wQ R (AZ (a:=rI n1.Kind) R AJ (iR R) R R)<|wQ R (Cf R (iR R) iL)<|vQ R (BP R (iR R)<|iR R)<|xO R<|mM R<|vF Ex AJ R R<|vQ R (Cf R (iR R) iL)<|vQ R (AK R<|iR R)<|wQ R (fB R Cy iL fR R)<|wQ R (AZ (a:=rI n1.Kind) R AJ (iR R) R R)<|wQ R (Aq R (iR R) iL)<|vQ R (BP R (iR R)<|iR R)<|xO R<|aZ<|cI R h3 (λJ=>?_) λJ=>?_
 ·exact zI J R id
 refine Zd<|c5 _<|aT λc8=>aT λc9=>aG [1] [1] ?_
 refine aR<|lF Ub BA R R<|AG J λe1 M h5=>cL (ML<|M) R<|mA R<|aZ<|c9 _<|aU<|mM R<|xU R<|aZ<|cI R h5 (λO=>?_) λO=>?_
 ·exact aU<|mM R<|mA R<|aZ<|Zj<|yI O R
 refine Zd<|c8 _<|aU<|lF Cy AJ R R<|AG O λr3 w h7=>cL (SP<|w) R<|mM R<|vF Cy AJ R R<|AG h7 λr4 T h8=>vL (λhg=>tS<|AP T hg) R<|xO R<|mA R<|aZ<|aT λU=>aT λV=>aG [1,4] [1] ?_
 refine aR<|lF E8 B2 R R<|xL Ah R<|sQ R (BD R iL iL)<|mM R<|vM R<|vQ R (A0 R<|iR R)<|xN R<|mM R<|vQ R (fB R GO iL fR R)<|vQ R (F0 (ds:=(Da n1.Grid)) R No (iR R) R R R)<|AG h8 λr5 X h9=>vL (λhg=>lZ<|AP X hg) R<|vQ R (A0 R<|iR R)<|vQ R (AK R<|iR R)<|wQ R (fB R Cy iL fR R)<|wQ R (AZ (a:=rI n1.Kind) R AJ (iR R) R R)<|AG h9 λr6 Y Z=>AN.stepW (.two R R R) R R (ER (r:=rB r6) (caps:=[]) (bs:=[rI n1.Kind]) R iL R ⟨⟨_,(iR R),.d R⟩,Za⟩ (λhg=>dK<|AP Y hg) R)<|wQ R (A0 R<|iR R)<|vQ R (BP R (iR R)<|iR R)<|xO R<|mM R<|vF KD Gk R R<|vQ R (Bu R FI.slice<|iR R)<|vQ R (BD R (iR R) iL)<|vQ R (AK R<|iR R)<|wQ R (fB R Cy iL fR R)<|wQ R (AZ (a:=rI n1.Kind) R AJ (iR R) R R)<|AG Z λr7 a0 a1=>AN.stepW (.two R R R) R R (ER (r:=rB r7) (caps:=[]) (bs:=[rI n1.Kind]) R iL R ⟨⟨_,(iR R),.d R⟩,Za⟩ (λhg=>sJ<|AP a0 hg) R)<|wQ R (A0 R<|iR R)<|vQ R (BP R (iR R)<|iR R)<|xO R<|aZ<|V _<|cI R a1 (λj=>?_) λj=>?_
 ·exact zI j R id
 refine Zd<|U _<|aT λa2=>aT λa6=>aG [1,4] [1] ?_
 refine aR<|mM R<|aZ<|a6 _<|cI R j (λl=>?_) λl=>?_
 ·refine aT λa7=>?_
  refine ZA BJ (by kernel_rfl) ?_
  exact qP R (fB R E8 iL fR R)<|qP R (AZ (a:=qb n1.Flow) R B2 iL R R)<|qP R (fB R Cy iL fR R)<|qP R (AZ (a:=rI n1.Kind) R AJ iL R R)<|Ep R R R (r:=rB r3) (caps:=[]) (bs:=[rI n1.Kind]) R iL R ⟨⟨_,iL,.d R⟩,Za⟩ (λ_=>SP<|w) R<|AG l λr9 a8 aa=>Ep R R R (r:=rI r9) (caps:=[]) (bs:=[qb n1.Flow,rB r3]) R iL R ⟨⟨_,iL,.d R⟩,⟨_,iL,.d R⟩,Za⟩ (λ_=>sq<|a8) R<|qP R (Do R iL)<|AQ.nil<|a7 _<|Zj<|yI aa R
 refine Zd<|a2 _<|aT λab=>aU<|lF Cy AJ R R<|AG l λak A ac=>cL (dK<|A) R<|aZ<|cI R ac (λq=>?_) λq=>?_
 ·refine aT λad=>aU<|sQ R (fB R GO iL fR R)<|sQ R (F0 (ds:=(Da n1.Grid)) R No iL R R R)<|AG q λe2 ae af=>cL (jl<|ae) R<|mA R<|aZ<|aU<|mM R<|xU R<|aZ<|cI R af (λu=>?_) λu=>?_
  ·refine aT λag=>aF [5] ?_
   exact aR<|mM R<|mA R<|aZ<|ag _<|Zj<|yI u R
  refine Zd<|ad _<|aT λah=>aG [1] [1] ?_
  exact aR<|lF Cy AJ R R<|sQ R (fB R GO iL fR R)<|lF GG FA R R<|AG u λal B ai=>cL (na<|B) R<|mA R<|aZ<|ah _<|Zj<|yI ai R
 exact Zd<|ab _<|aU<|lF KD Gk R R<|AG q λan C aj=>cL (co<|C) R<|mA R<|aZ<|Zj<|yI aj R
theorem kc{n1 r}(h:QH n1=some r):AO prog 81 (NW n1) (.r<|.sl<|r.map<|Aj .i64):=by
 unfold QH at h
 refine mF func81 ntmps81 R λj=>aU<|sS R (Ay (cs:=(Bd n1)) 1 R iL R R)<|mA R<|aZ<|aU<|mA R<|aZ<|aS λK3 c3 a7=>aU<|lF E8 B2 R R<|xL Ah R<|mM R<|aZ<|Zf<|A3 h λo1 a0 a8=>?_
 have J1:∀(w:List Int) (Z:NN),o1=w→K3 ⟨[(1,.ptr 1 j 0 0),(3,.own 5003<|Z 0)],[(1,some<|.box j 46<|Bd n1),(5003,some<|.arr (Z 0) 3 1<|w.map<|Aj .i64)],(Z 1),56⟩:=by
  intro w Z e
  have h1:=a8 _ e
  refine c3 _<|aS λK5 c5 aa=>aU<|sQ R (fB R GO iL fR R)<|lF GG FA R R<|xL Cq R<|mM R<|aZ<|Zf<|A3 h1 λo2 a1 ab=>?_
  have J2:∀(A:List Int) (I:NN),o2=A→K5 ⟨[(3,.own 5003<|I 0)],[(5003,some<|.arr (I 0) 3 1<|A.map<|Aj .i64)],(I 1),56⟩:=by
   intro A I e
   have h2:=ab _ e
   exact c5 _<|aU<|mM R<|mA R<|aZ<|Zj<|Cz (P:=prog) (λ(r:(List Int))=>.r<|.sl<|r.map<|Aj .i64) h2 iL<|.t<|.one<|.own R
  refine ZL (λ(x5:Int) (B:List Int) i8=>⟨[(1,.ptr 1 j 0 0),(3,.own 5003<|i8 0),(32,rL n1.Grid.Cells),(33,rI x5)],[(1,some<|.box j 46<|Bd n1),(5003,some<|.arr (i8 0) 3 1<|B.map<|Aj .i64)],(i8 1),56⟩) (AH [(Z 0),(Z 1)]) a1 wk ?_
  intro x5 B i8 v1 ac ad
  have h3:R8 n1 x5 B=some v1:=ac;unfold R8 at h3
  refine aU<|xS R<|aZ<|aT λc9=>cI R h3 (λh4=>?_) λh4=>?_
  ·refine Zd<|c9 _<|aS λae af O=>Zf<|A3 h4 λp1 ag ah=>?_
   have J3:∀(C:List Int) (q:NN),p1=C→ae ⟨[(1,.ptr 1 j 0 0),(3,.own 5003<|q 0),(32,rL n1.Grid.Cells),(33,rI x5)],[(1,some<|.box j 46<|Bd n1),(5003,some<|.arr (q 0) 3 1<|C.map<|Aj .i64)],(q 1),56⟩:=by
    intro C q e
    have h5:=ah _ e
    exact af _<|aR<|AG h5 λx7 ai h6=>xA R ai<|mM R<|Zh<|ZH h6 (AH [(q 0),(q 1)]) wk
   refine aU<|mM R<|mA R<|aZ<|aU<|sQ R (fB R GO iL fR R)<|lF GG FA R R<|mM R<|AG ag λx8 a2 h7=>xI Cq R a2<|sQ R (A2 R FY iL)<|xV (.int .i64 x8.Ref) AJ R<|xU R<|aZ<|cI R h7 (λh8=>?_) λh8=>?_
   ·refine aG [1,3,5,32,33] [1,5003] ?_
    exact aR<|mM R<|sQ R (fB R GO iL fR R)<|lF GG FA R R<|mM R<|xI Cq R a2<|sQ R (A2 R FY iL)<|xV (.int .i64 x8.Ref) AJ R<|sS R (Bw 52 R B9 (f:=(Aj .i64)) (l:=([x8.Ref]:List Int)) ⟨R,⟨_,iL,R⟩,Za⟩ R (λ_=>R) R)<|AG h8 λaj J h9=>sS R (Ca R B9 iL R (.inr<|.inl ⟨_,_,iL,R⟩) J)<|mA R<|Zh<|O _ _ wk<|J3 _ (AH [((i8 1)+1),((i8 1)+2)]) (Zb h9).symm
   exact Zd<|O _ _ wk<|J3 _ (AH [(i8 0),(i8 1)]) (Zb h8).symm
  exact Zn<|aa _ _ wk<|J2 _ (AH [(i8 0),(i8 1)])<|xH ad h4
 refine ZL (λ(x2:Int) (E:List Int) F=>⟨[(1,.ptr 1 j 0 0),(3,.own 5003<|F 0),(8,rL n1.Flow),(9,rI x2)],[(1,some<|.box j 46<|Bd n1),(5003,some<|.arr (F 0) 3 1<|E.map<|Aj .i64)],(F 1),56⟩) (AH [(j+1),(j+2)]) a0 (Zm (Zm (ZR 3 5003 3 1 (by decide) R)<|by exact ZC (e':=[(0,.agg<|Bd n1),(1,.ptr 1 j 0 0),(2,cZ),(3,.own 5003<|j+1),(6,.ptr 1 j 0 3),(7,qb n1.Flow),(8,rL n1.Flow),(9,rI 0)]) (h':=[(1,some<|.box j 46<|Bd n1),(5003,some<|.arr (j+1) 3 1<|([]:List Int).map<|Aj .i64)]) ⟨jL,jL,jL,jL,jL,jL,jL,jL,Za⟩ ⟨.inl R,.inl R,Za⟩ nL) wk) ?_
 intro x2 E F v2 ak al
 have a6:Rt n1 x2 E=some v2:=ak;unfold Rt at a6
 refine aU<|xS R<|aZ<|aT λan=>cI R a6 (λV=>?_) λV=>?_
 ·refine Zd<|an _<|aS λao aq T=>Zf<|A3 V λp2 ar av=>?_
  have J4:∀(l:List Int) (u:NN),p2=l→ao ⟨[(1,.ptr 1 j 0 0),(3,.own 5003<|u 0),(8,rL n1.Flow),(9,rI x2)],[(1,some<|.box j 46<|Bd n1),(5003,some<|.arr (u 0) 3 1<|l.map<|Aj .i64)],(u 1),56⟩:=by
   intro l u e
   have aw:=av _ e
   exact aq _<|aR<|AG aw λx9 ax ay=>xA R ax<|mM R<|Zh<|ZH ay (AH [(u 0),(u 1)]) wk
  refine aU<|mM R<|mA R<|aZ<|aU<|lF E8 B2 R R<|mM R<|AG ar λX U az=>xI Ah R U<|sQ R (A2 R Ea iL)<|xV (.int .i64 X.Ref) AJ R<|xU R<|aZ<|cI R az (λY=>?_) λY=>?_
  ·refine aG [1,3,4,8,9] [1,5003] ?_
   exact aR<|mM R<|lF E8 B2 R R<|mM R<|xI Ah R U<|sQ R (A2 R Ea iL)<|xV (.int .i64 X.Ref) AJ R<|sS R (Bw 26 R B9 (f:=(Aj .i64)) (l:=([X.Ref]:List Int)) ⟨R,⟨_,iL,R⟩,Za⟩ R (λ_=>R) R)<|AG Y λb0 M b1=>sS R (Ca R B9 iL R (.inr<|.inl ⟨_,_,iL,R⟩) M)<|mA R<|Zh<|T _ _ wk<|J4 _ (AH [((F 1)+1),((F 1)+2)]) (Zb b1).symm
  exact Zd<|T _ _ wk<|J4 _ (AH [(F 0),(F 1)]) (Zb Y).symm
 exact Zn<|a7 _ _ wk<|J1 _ (AH [(F 0),(F 1)])<|xH al V
theorem TO{d1 i r}(h:Hh d1 i=some r):AO prog 16 [.agg [qg d1.Nodes],rI i] (rI r):=by
 unfold Hh at h
 refine mF func16 ntmps16 R λu=>aU<|sS R (Ay (cs:=[qg d1.Nodes]) 2 R iL R R)<|mA R<|aZ<|aS λX Y w=>aU<|lF Dy Dw R R<|xL DJ R<|mM R<|aZ<|Zf<|BI h λZ j A B=>?_
 have J1:∀(T:Unit) (U:NN),Z=.nrm T→X ⟨[],[],(U 0),22⟩:=by
  intro T U e
  have h1:=A _ e
  exact Y _<|zI h1 R id
 refine Zz (λ(C:Int) q=>⟨[(1,rI i),(2,.ptr 2 u 0 0),(8,rL d1.Nodes),(9,rI C)],[(2,some<|.box u 24 [qg d1.Nodes])],(q 0),22⟩) (AH [(u+1)]) j wk ?_
 intro C q v1 E l
 have V:Pz d1 i C=some v1:=E;unfold Pz at V
 refine aU<|xS R<|aZ<|aT λc6=>cI R V (λF=>?_) λF=>?_
 ·refine Zd<|c6 _<|aT λc7=>Zf<|aU<|mM R<|mA R<|aZ<|aU<|lF Dy Dw R R<|mM R<|AG F λx4 I h4=>xI DJ R I<|sQ R (A2 R Ex iL)<|xV (.int .i64 x4.ID) AJ R<|mM R<|xQ R<|aZ<|cI R h4 (λJ=>?_) λJ=>?_
  ·refine aT λM=>aF [5] ?_
   exact aR<|mM R<|mA R<|aZ<|M _<|Zj<|yI (B _<|xH l J) R
  refine Zd<|c7 _<|aG [1,2,8,9] [2] ?_
  exact aR<|AG J λx5 O h6=>xA R O<|mM R<|Zh<|Zx h6 (AH [(q 0)]) wk
 exact Zn<|w _ _ wk<|J1 _ (AH [(q 0)])<|xH l F
theorem qj{p k r}(h:RT p k=some r):AO prog 36 [rI p,rI k] (rB r):=by
 unfold RT at h
 refine mF func36 ntmps36 R λI=>aU<|mA R<|aZ<|aT λc2=>aU<|mM R<|aZ<|Zf<|aS λK4 c4 j=>aU<|xQ R<|mA R<|aZ<|A3 h λp1 J U=>?_
 have M:∀(V:Bool) (T:NN),p1=V→K4 ⟨[(0,rI p),(5,rI k),(6,rB V)],[],(T 0),51⟩:=by
  intro V T e
  have h1:=U _ e
  refine c4 _<|cI R h1 (λX=>?_) λX=>?_
  ·exact aU<|mM R<|xQ R<|mA R<|aZ<|Zj<|yB X R
  refine aU<|xQ R<|mA R<|aZ<|cI R X (λY=>?_) λY=>?_
  ·exact aU<|mM R<|xQ R<|mM R<|vM R<|vQ R (Aq R (iR R) iL)<|xO R<|mM R<|vM R<|vQ R (Aq R (iR R) iL)<|xO R<|mA R<|aZ<|Zj<|yB Y R
  refine aU<|xQ R<|mA R<|aZ<|cI R Y (λZ=>?_) λZ=>?_
  ·exact aU<|mM R<|xQ R<|mA R<|aZ<|Zj<|yB Z R
  refine aU<|xQ R<|mA R<|aZ<|cI R Z (λh5=>?_) λh5=>?_
  ·exact aU<|mM R<|xQ R<|mM R<|vM R<|vQ R (Aq R (iR R) iL)<|xO R<|mA R<|aZ<|Zj<|yB h5 R
  refine aU<|xQ R<|mA R<|aZ<|cI R h5 (λh6=>?_) λh6=>?_
  ·refine aT λa0=>aF [0] ?_
   exact aR<|mM R<|AG h6 λr1 a1 h7=>cL (SP<|a1) R<|mA R<|aZ<|a0 _<|Zj<|yB h7 R
  refine aT λa2=>aF [0,5] ?_
  refine aR<|xQ R<|mA R<|aZ<|a2 _<|cI R h6 (λh8=>?_) λh8=>?_
  ·exact aU<|mM R<|xQ R<|mA R<|aZ<|Zj<|yB h8 R
  refine aS λa6 a7 l=>aU<|xQ R<|mA R<|aZ<|A3 h8 λp2 O a8=>?_
  have J2:∀(x2:Bool) (i2:NN),p2=x2→a6 ⟨[(0,rI p),(46,rB x2)],[],(i2 0),51⟩:=by
   intro x2 i2 e
   have h9:=a8 _ e
   refine a7 _<|cI R h9 (λq=>?_) λq=>?_
   ·exact aU<|mM R<|xQ R<|mA R<|aZ<|Zj<|yB q R
   exact Zd<|c2 _<|zB q R id
  refine aC R (λu=>?_) λu=>?_
  ·have w:=Br u O
   exact Zd<|l _ _ wk<|J2 _ (AH [(T 0)]) (Zb w).symm
  ·have w:=Bt u O
   exact aR<|xQ R<|mA R<|Zh<|l _ _ wk<|J2 _ (AH [(T 0)]) (Zb w).symm
 refine aC R (λA=>?_) λA=>?_
 ·have B:=Br A J
  exact Zd<|j _ _ wk<|M _ (AH [I]) (Zb B).symm
 ·have B:=Bt A J
  refine aU<|xQ R<|mA R<|aZ<|cI R B (λC=>?_) λC=>?_
  ·exact Zd<|j _ _ wk<|M _ (AH [I]) (Zb C).symm
  refine aU<|xQ R<|mA R<|aZ<|cI R C (λE=>?_) λE=>?_
  ·exact Zd<|j _ _ wk<|M _ (AH [I]) (Zb E).symm
  refine aU<|xQ R<|mA R<|aZ<|cI R E (λF=>?_) λF=>?_
  ·exact Zd<|j _ _ wk<|M _ (AH [I]) (Zb F).symm
  exact aR<|xQ R<|mA R<|Zh<|j _ _ wk<|M _ (AH [I]) (Zb F).symm
theorem mY{d1 k a r}(h:QZ d1 k a=some r):AO prog 80 [.agg [qg d1.Nodes],rI k,.r<|.sl<|a.map<|Aj .i64] (rI r):=by
 unfold QZ at h
 refine mF func80 ntmps80 R λw=>aU<|sS R (Ay (cs:=[qg d1.Nodes]) 3 R iL R R)<|mA R<|aZ<|aS λK2 c2 A=>aU<|mM R<|xL B9 R<|mM R<|aZ<|Zf<|BI h λo1 l B q=>?_
 have J1:∀(u2:Unit) (i5:NN),o1=.nrm u2→K2 ⟨[],[],(i5 0),32⟩:=by
  intro u2 i5 e
  have h1:=B _ e
  exact c2 _<|zI h1 R id
 refine Zz (λ(C:Int) u=>⟨[(1,rI k),(2,.r<|.sl<|a.map<|Aj .i64),(3,.ptr 3 w 0 0),(10,rL a),(11,rI C)],[(3,some<|.box w 24 [qg d1.Nodes])],(u 0),32⟩) (AH [(w+1)]) l wk ?_
 intro C u v1 E j
 have h2:MT d1 k a C=some v1:=E;unfold MT at h2
 refine aU<|xS R<|aZ<|aT λc6=>cI R h2 (λF=>?_) λF=>?_
 ·refine Zd<|c6 _<|aT λc7=>Zf<|aU<|mM R<|mA R<|aZ<|aT λc9=>?_
  refine ZA BJ (by kernel_rfl) ?_
  refine qP R (D5 R EF iL R R)<|qP R (AK R iL)<|qP R (AK R iL)<|AG F λx4 I h4=>qP R (Ap R B9.slice iL iL (λ_=>R) λ_=>I)<|qP R (BU (d:=.int .i64 x4) R AJ iL R)<|AG h4 λk1 J h5=>Ep R R R (r:=rI k1) (caps:=[]) (bs:=[.agg [qg d1.Nodes],rI x4]) R iL R ⟨⟨_,iL,.g (cs:=[.sl<|d1.Nodes.map Ag.row]) R R⟩,⟨_,iL,.d R⟩,Za⟩ (λ_=>TO<|J) R<|qP R (Do R iL)<|AQ.nil<|c9 _<|aT λM=>aT λO=>aG [1,2,3,8,10,11] [3] ?_
  refine aR<|mM R<|xS R<|aZ<|O _<|cI R h5 (λT=>?_) λT=>?_
  ·exact zI (q _<|xH j T) R id
  refine Zd<|M _<|aU<|mM R<|lF Dy Dw R R<|mM R<|AG T λx5 U h7=>xI DJ R U<|sQ R (A2 R Cy iL)<|xV (.int .i64 x5.Kind) AJ R<|AG h7 λr1 V h8=>cL (qj<|V) R<|sQ R (A0 R iL)<|aZ<|cI R h8 (λX=>?_) λX=>?_
  ·exact zI (q _<|xH j X) R id
  refine Zd<|c7 _<|aG [1,2,3,10,11] [3] ?_
  exact aR<|AG X λx6 Y Z=>xA R Y<|mM R<|Zh<|Zx Z (AH [(u 0)]) wk
 exact Zn<|A _ _ wk<|J1 _ (AH [(u 0)])<|xH j F
theorem jt{d1 r}(h:O1 d1=some r):AO prog 29 [.agg [qg d1.Nodes]] (rI r):=by
 unfold O1 at h
 refine mF func29 ntmps29 R λj=>aU<|sS R (Ay (cs:=[qg d1.Nodes]) 1 R iL R R)<|mA R<|aZ<|aT λc2=>aU<|lF Dy Dw R R<|xL DJ R<|xQ R<|aZ<|cI R h (λh1=>?_) λh1=>?_
 ·exact zI h1 R id
 refine Zd<|c2 _<|aS λK5 c5 a0=>aU<|lF Dy Dw R R<|xL DJ R<|mM R<|aZ<|Zf<|BI h1 λo1 C a1 E=>?_
 have J1:∀(u2:Unit) (i5:NN),o1=.nrm u2→K5 ⟨[(1,.ptr 1 j 0 0)],[(1,some<|.box j 24 [qg d1.Nodes])],(i5 0),81⟩:=by
  intro u2 i5 e
  have h2:=a1 _ e
  refine c5 _<|aS λK7 c7 a2=>aU<|lF Dy Dw R R<|xL DJ R<|mM R<|aZ<|Zf<|BI h2 λo2 F a6 a7=>?_
  have J2:∀(u4:Unit) (I:NN),o2=.nrm u4→K7 ⟨[],[],(I 0),81⟩:=by
   intro u4 I e
   have h3:=a6 _ e
   exact c7 _<|zI h3 R id
  refine Zz (λ(q:Int) i8=>⟨[(1,.ptr 1 j 0 0),(59,rL d1.Nodes),(60,rI q)],[(1,some<|.box j 24 [qg d1.Nodes])],(i8 0),81⟩) (AH [(i5 0)]) F wk ?_
  intro q i8 v1 a8 J
  have h4:Ki d1 q=some v1:=a8;unfold Ki at h4
  refine aU<|xS R<|aZ<|aT λaa=>cI R h4 (λh5=>?_) λh5=>?_
  ·refine Zd<|aa _<|aT λab=>Zf<|aU<|mM R<|mA R<|aZ<|aT λac=>AG h5 λl M h6=>AG h6 λr1 ad h7=>?_
   refine rP 13 [pO 63<|.agg [qg d1.Nodes],pO 64<|.ptr 1 j 0 0,pO 65<|qg d1.Nodes,pO 66<|rI q,pO 67<|.rop (Ag.row l) 0,pO 68<|.rop (Ag.row l) 1,pO 69<|rI l.Kind,pO 70<|.ptr 1 j 0 0,pO 71<|qg d1.Nodes,pO 72<|rI q,pO 73<|.rop (Ag.row l) 0,pO 74<|.agg<|Bd l,pO 75<|.r<|.sl<|r1.map<|Aj .i64] BJ R (by exact⟨oB [(1,.ptr 1 j 0 0)] [(1,some<|.box j 24 [qg d1.Nodes])]<|D5 R EF (.inl R) R R,oB [(1,.ptr 1 j 0 0)] [(1,some<|.box j 24 [qg d1.Nodes])]<|fB R Dy (.inl R) (λ_=>R) R,oB [(64,.ptr 1 j 0 0)] [(1,some<|.box j 24 [qg d1.Nodes])]<|AZ (a:=qg d1.Nodes) R Dw (.inl R) R R,oB [(5,rI q)] []<|AK R<|.inl R,oB [(65,qg d1.Nodes),(66,rI q)] []<|Ap R DJ.slice (.inl R) (.inl R) (λ_=>R) λ_=>M,oB [(67,.rop (Ag.row l) 0)] []<|A2 R Cy<|.inl R,oB [(68,.rop (Ag.row l) 1)] []<|BU (d:=.int .i64 l.Kind) R AJ (.inl R) R,oB [(1,.ptr 1 j 0 0)] [(1,some<|.box j 24 [qg d1.Nodes])]<|fB R Dy (.inl R) (λ_=>R) R,oB [(70,.ptr 1 j 0 0)] [(1,some<|.box j 24 [qg d1.Nodes])]<|AZ (a:=qg d1.Nodes) R Dw (.inl R) R R,oB [(5,rI q)] []<|AK R<|.inl R,oB [(71,qg d1.Nodes),(72,rI q)] []<|Ap R DJ.slice (.inl R) (.inl R) (λ_=>R) λ_=>M,oB [(73,.rop (Ag.row l) 0)] []<|CU (cs:=(Bd l)) R Fs (.inl R) R R,oD (λ_=>[(74,.agg<|Bd l)]) (λ_=>[]) λG1 e h' n=>CB (r:=.r<|.sl<|r1.map<|Aj .i64) (caps:=[]) (bs:=(NW l)) R (.inl R) R ⟨.inl ⟨(.inl R),R⟩,Za⟩ λ_=>kc<|ad,Za⟩) λG1 n1=>?_
   refine A7 [1,5,59,60,61,62,63,64,65,66,67,68,69,70,71,72,73,74,75] [1] ?_
   refine AG h7 λe1 ae h8=>cL (mY<|ae) R<|mA R<|aZ<|ac _<|aT λaf=>aG [1,6,59,60] [1] ?_
   refine aR<|mM R<|xU R<|aZ<|af _<|cI R h8 (λh9=>?_) λh9=>?_
   ·exact aU<|mM R<|mA R<|aZ<|Zj<|yI (a7 _<|xH J h9) R
   exact Zd<|ab _<|aR<|AG h9 λx8 ag ah=>xA R ag<|mM R<|Zh<|Zx ah (AH [n1]) wk
  exact Zn<|a2 _ _ wk<|J2 _ (AH [(i8 0)])<|xH J h5
 refine Zz (λ(x2:Int) Z=>⟨[(1,.ptr 1 j 0 0),(13,rL d1.Nodes),(14,rI x2)],[(1,some<|.box j 24 [qg d1.Nodes])],(Z 0),81⟩) (AH [(j+1)]) C wk ?_
 intro x2 Z v2 ai u
 have O:Nl d1 x2=some v2:=ai;unfold Nl at O
 refine aU<|xS R<|aZ<|aT λaj=>cI R O (λw=>?_) λw=>?_
 ·refine Zd<|aj _<|aT λak=>Zf<|aU<|mM R<|mA R<|aZ<|aT λal=>aU<|lF Dy Dw R R<|mM R<|AG w λx9 T an=>xI DJ R T<|xB ((Bd x9)) Fs R<|AG an λe2 ao aq=>cL (g9<|ao) R<|mA R<|aZ<|aU<|mM R<|xU R<|aZ<|cI R aq (λA=>?_) λA=>?_
  ·refine aT λar=>aF [4] ?_
   exact aR<|mM R<|mA R<|aZ<|ar _<|Zj<|yI (E _<|xH u A) R
  refine Zd<|al _<|aT λav=>aG [1,3,13,14] [1] ?_
  refine ZA BJ (by kernel_rfl) ?_
  refine qP R (AK R iL)<|qP R (Aq R iL iL)<|qP R (AK R iL)<|qO R (fB R Dy iL fR R)<|qO R (AZ (a:=qg d1.Nodes) R Dw (iR R) R R)<|AG A λaw U ax=>qO R (Ap R DJ.slice (iR R) iL (λ_=>R)<|AP U)<|qO R (A2 R Ex<|iR R)<|qO R (BU (d:=.int .i64 aw.ID) R AJ (iR R) R)<|qO R (Cf R (iR R) iL)<|qP R (BP R iL<|iR R)<|qP R (AK R iL)<|qO R (AK R iL)<|qO R (BD R (iR R) iL)<|qO R (AK R<|iR R)<|qT R (fB R Dy iL fR R)<|qT R (AZ (a:=qg d1.Nodes) R Dw (iR R) R R)<|qT R (AK R iL)<|qT R (Ap R DJ.slice (iR R) (iR R) (λ_=>R) λ_=>T)<|qT R (A2 R Ex<|iR R)<|qT R (BU (d:=.int .i64 x9.ID) R AJ (iR R) R)<|qT R (fB R Dy iL fR R)<|qT R (AZ (a:=qg d1.Nodes) R Dw (iR R) R R)<|qT R (AK R iL)<|AG ax λb2 V ay=>qT R (CF R (iR R) iL<|AP V)<|AG ay λaz X b0=>qT R (Ap R DJ.slice (iR R) (iR R) (λ_=>R)<|AP X)<|qT R (A2 R Ex<|iR R)<|qT R (BU (d:=.int .i64 az.ID) R AJ (iR R) R)<|qT R (FC R (iR R)<|iR R)<|qO R (BP R (iR R)<|iR R)<|qP R (CM R iL<|iR R)<|AQ.nil<|av _<|cI R b0 (λB=>?_) λB=>?_
  ·exact zI (E _<|xH u B) R id
  exact Zd<|ak _<|aR<|AG B λb3 Y b1=>xA R Y<|mM R<|Zh<|Zx b1 (AH [(Z 0)]) wk
 exact Zn<|a0 _ _ wk<|J1 _ (AH [(Z 0)])<|xH u w
theorem YK{j n r}(h:Ia j n=some r):AO prog 59 [qa j,rS n] (rS r):=by
 unfold Ia at h
 refine mF func59 ntmps59 R λY=>aU<|mA R<|aZ<|aS λZ c2 A=>aU<|mM R<|xL Ac R<|mM R<|aZ<|Zf<|BI h λo1 l B C=>?_
 have J1:∀(T:Unit) (U:NN),o1=.nrm T→Z ⟨[],[],(U 0),24⟩:=by
  intro T U e
  have h1:=B _ e
  exact c2 _<|aU<|mA R<|aZ<|Zj<|Cz (P:=prog) (λ(r:(List UInt8))=>rS r) h1 iL<|.t<|.d R
 refine Zz (λ(E:Int) w=>⟨[(0,qa j),(1,rS n),(7,rL j),(8,rI E)],[],(w 0),24⟩) (AH [Y]) l wk ?_
 intro E w v1 F q
 have V:QI j n E=some v1:=F;unfold QI at V
 refine aU<|xS R<|aZ<|aT λc6=>cI R V (λI=>?_) λI=>?_
 ·refine Zd<|c6 _<|aT λc7=>Zf<|aU<|mM R<|mA R<|aZ<|aU<|mM R<|mM R<|AG I λX u h4=>xI Ac R u<|sQ R (A2 R CO iL)<|xV (.str X.Name) BC R<|mM R<|sQ R (Bo R iL iL)<|aZ<|cI R h4 (λJ=>?_) λJ=>?_
  ·refine aT λM=>aF [0,5] ?_
   exact aR<|mM R<|mM R<|xI Ac R u<|sQ R (A2 R Hv iL)<|xV (.str X.Value) BC R<|mA R<|aZ<|M _<|Zj<|Cz (P:=prog) (λ(r:(List UInt8))=>rS r) (C _<|xH q J) iL<|.t<|.d R
  refine Zd<|c7 _<|aF [0,1,7,8] ?_
  exact aR<|AG J λx5 O h6=>xA R O<|mM R<|Zh<|Zx h6 (AH [(w 0)]) wk
 exact Zn<|A _ _ wk<|J1 _ (AH [(w 0)])<|xH q I
theorem ZG{j n r}(h:NE j n=some r):AO prog 77 [qa j,rS n] (rB r):=by
 unfold NE at h
 refine mF func77 ntmps77 R λV=>aU<|mA R<|aZ<|aS λX Y w=>aU<|mM R<|xL Ac R<|mM R<|aZ<|Zf<|BI h λZ l A B=>?_
 have J1:∀(O:Unit) (T:NN),Z=.nrm O→X ⟨[],[],(T 0),19⟩:=by
  intro O T e
  have h1:=A _ e
  exact Y _<|zB h1 R id
 refine Zz (λ(C:Int) u=>⟨[(0,qa j),(1,rS n),(7,rL j),(8,rI C)],[],(u 0),19⟩) (AH [V]) l wk ?_
 intro C u v1 E q
 have U:Q1 j n C=some v1:=E;unfold Q1 at U
 refine aU<|xS R<|aZ<|aT λc6=>cI R U (λF=>?_) λF=>?_
 ·refine Zd<|c6 _<|aT λc7=>Zf<|aU<|mM R<|mA R<|aZ<|aU<|mM R<|mM R<|AG F λx4 I h4=>xI Ac R I<|sQ R (A2 R CO iL)<|xV (.str x4.Name) BC R<|mM R<|sQ R (Bo R iL iL)<|aZ<|cI R h4 (λJ=>?_) λJ=>?_
  ·exact zB (B _<|xH q J) R id
  refine Zd<|c7 _<|aF [0,1,7,8] ?_
  exact aR<|AG J λx5 M h6=>xA R M<|mM R<|Zh<|Zx h6 (AH [(u 0)]) wk
 exact Zn<|w _ _ wk<|J1 _ (AH [(u 0)])<|xH q F
theorem Vq{f1 m r}(h:HV f1 m=some r):AO prog 27 [qb f1,rI m] (.r<|.sl<|r.map<|Aj .i64):=by
 unfold HV at h
 refine mF func27 ntmps27 R λX=>aU<|mA R<|aZ<|aU<|mA R<|aZ<|aS λK3 c3 Z=>aU<|mM R<|xL Ah R<|mM R<|aZ<|Zf<|A3 h λo1 M a0=>?_
 have J1:∀(q:List Int) (Y:NN),o1=q→K3 ⟨[(5,.own 5005<|Y 0)],[(5005,some<|.arr (Y 0) 3 1<|q.map<|Aj .i64)],(Y 1),58⟩:=by
  intro q Y e
  have h1:=a0 _ e
  exact c3 _<|aU<|mM R<|mA R<|aZ<|Zj<|Cz (P:=prog) (λ(r:(List Int))=>.r<|.sl<|r.map<|Aj .i64) h1 iL<|.t<|.one<|.own R
 refine ZL (λ(B:Int) (l:List Int) u=>⟨[(0,qb f1),(1,rI m),(5,.own 5005<|u 0),(10,rL f1),(11,rI B)],[(5005,some<|.arr (u 0) 3 1<|l.map<|Aj .i64)],(u 1),58⟩) (AH [X,(X+1)]) M (Zm (Zm (ZR 5 5005 3 1 (by decide) R)<|by exact ZC (e':=[(0,qb f1),(1,rI m),(4,cZ),(5,.own 5005 X),(9,qb f1),(10,rL f1),(11,rI 0)]) (h':=[(5005,some<|.arr X 3 1<|([]:List Int).map<|Aj .i64)]) ⟨jL,jL,jL,jL,jL,jL,jL,Za⟩ ⟨.inl R,Za⟩ nL) wk) ?_
 intro B l u v1 a1 a2
 have h2:MQ f1 m B l=some v1:=a1;unfold MQ at h2
 refine aU<|xS R<|aZ<|aT λc7=>cI R h2 (λh3=>?_) λh3=>?_
 ·refine Zd<|c7 _<|aS λK8 c8 O=>Zf<|A3 h3 λp1 a6 a7=>?_
  have J2:∀(w:List Int) (J:NN),p1=w→K8 ⟨[(0,qb f1),(1,rI m),(5,.own 5005<|J 0),(10,rL f1),(11,rI B)],[(5005,some<|.arr (J 0) 3 1<|w.map<|Aj .i64)],(J 1),58⟩:=by
   intro w J e
   have h4:=a7 _ e
   exact c8 _<|aR<|AG h4 λx4 a8 h5=>xA R a8<|mM R<|Zh<|ZH h5 (AH [(J 0),(J 1)]) wk
  refine aU<|mM R<|mA R<|aZ<|aU<|mM R<|mM R<|AG a6 λx5 T h6=>xI Ah R T<|sQ R (A2 R CR iL)<|xV (.sl<|x5.Attrs.map AC.row) BA R<|mA R<|aZ<|aU<|mM R<|AG h6 λr1 aa h7=>cL (YK<|aa) R<|sQ R (Ds R iL iL)<|mA R<|aZ<|aS λab ac A=>aT λad=>aG [0,1,5,6,7,8,10,11] [5005] ?_
  refine aR<|mM R<|xQ R<|mM R<|vM R<|AG h7 λr2 ae h8=>vL (λhg=>ZG<|AP ae hg) R<|xN R<|mM R<|vM R<|vQ R (Aq R (iR R) iL)<|vQ R (AK R<|iR R)<|wQ R (AK R iL)<|AG h8 λr3 af h9=>AN.stepW (.two R R R) R R (ER (r:=rB r3) (caps:=[]) (bs:=[qa x5.Attrs,.r<|.str [97,100,100]]) R iL R ⟨⟨_,(iR R),.d R⟩,⟨_,iL,.d R⟩,Za⟩ (λhg=>ZG<|AP af hg) R)<|vQ R (BP R (iR R)<|iR R)<|xO R<|aZ<|ad _<|A3 h9 λp2 U ag=>?_
  have J3:∀(j:Bool) (V:NN),p2=j→ab ⟨[(0,qb f1),(1,rI m),(5,.own 5005<|u 0),(6,rI B),(8,rB j),(10,rL f1),(11,rI B)],[(5005,some<|.arr (u 0) 3 1<|l.map<|Aj .i64)],(V 0),58⟩:=by
   intro j V e
   have ah:=ag _ e
   refine ac _<|aU<|mM R<|mM R<|vM R<|vM R<|vQ R (Bu R Ah.slice<|iR R)<|AG ah λx6 ai aj=>vQ R (CF R (iR R) iL<|AP ai)<|vQ R (Aq R (iR R)<|iR R)<|vQ R (AK R<|iR R)<|wQ R (AK R iL)<|wQ R (AK R iL)<|wQ R (Ap R Ah.slice (iR R) (iR R) (λ_=>R) λ_=>T)<|wQ R (A2 R D1<|iR R)<|wQ R (BU (d:=.int .i64 x5.Char) R AJ (iR R) R)<|wQ R (Aq R (iR R) iL)<|vQ R (BP R (iR R)<|iR R)<|xO R<|aZ<|cI R aj (λC=>?_) λC=>?_
   ·exact aR<|mM R<|mM R<|sS R (Bw 54 R B9 (f:=(Aj .i64)) (l:=([B]:List Int)) ⟨R,⟨_,iL,R⟩,Za⟩ R (λ_=>R) R)<|AG C λal E ak=>sS R (Ca R B9 iL R (.inr<|.inl ⟨_,_,iL,R⟩) E)<|mA R<|Zh<|O _ _ wk<|J2 _ (AH [((V 0)+1),((V 0)+2)]) (Zb ak).symm
   exact Zd<|O _ _ wk<|J2 _ (AH [(u 0),(V 0)]) (Zb C).symm
  refine aC R (λF=>?_) λF=>?_
  ·have I:=Br F U
   exact aR<|mA R<|Zh<|A _ _ wk<|J3 _ (AH [(u 1)]) (Zb I).symm
  ·have I:=Bt F U
   exact Zd<|A _ _ wk<|J3 _ (AH [(u 1)]) (Zb I).symm
 exact Zn<|Z _ _ wk<|J1 _ (AH [(u 0),(u 1)])<|xH a2 h3
theorem Yn{d1 l r}(h:Jp d1 l=some r):AO prog 10 [.agg [qg d1.Nodes],.agg<|A5 l] (rI r):=by
 unfold Jp at h
 refine mF func10 ntmps10 R λn0=>aU<|sS R (Ay (cs:=[qg d1.Nodes]) 2 R iL R R)<|sS R (Ay (cs:=(A5 l)) 3 R iL R R)<|mA R<|aZ<|aT λU=>aU<|xC EF R<|AG h λe1 q V=>cL (jt<|q) R<|mA R<|aZ<|aU<|mM R<|xU R<|aZ<|cI R V (λu=>?_) λu=>?_
 ·refine aT λX=>aF [5] ?_
  exact aR<|mM R<|mA R<|aZ<|X _<|Zj<|yI u R
 refine Zd<|U _<|aU<|xC EF R<|lF Ka AJ R R<|AG u λi1 w Y=>cL (TO<|w) R<|mA R<|aZ<|aT λZ=>aT λc8=>aG [2,3,6] [2,3] ?_
 refine aR<|mM R<|xS R<|aZ<|c8 _<|cI R Y (λA=>?_) λA=>?_
 ·exact zI A R id
 refine Zd<|Z _<|aT λB=>aU<|lF Dy Dw R R<|mM R<|AG A λC j h5=>xI DJ R j<|sQ R (A2 R Cy iL)<|xV (.int .i64 C.Kind) AJ R<|AG h5 λr1 E h6=>cL (SP<|E) R<|sQ R (A0 R iL)<|aZ<|cI R h6 (λF=>?_) λF=>?_
 ·exact zI F R id
 refine Zd<|B _<|aT λI=>aT λJ=>aG [2,3,6] [2,3] ?_
 refine aR<|lF Dy Dw R R<|mM R<|xI DJ R j<|sQ R (A2 R E8 iL)<|xV (.sl<|C.Flow.map AD.row) B2 R<|AG F λr2 M h8=>sS R (CB (r:=.r<|.sl<|r2.map<|Aj .i64) (caps:=[]) (bs:=[qb C.Flow,rI 0]) R iL R ⟨.inl ⟨iL,R⟩,.inl ⟨iL,R⟩,Za⟩ λ_=>Vq<|M)<|xL B9 R<|mA R<|aZ<|J _<|aT λO=>aG [3,7] [3] ?_
 refine aR<|lF G4 AJ R R<|xS R<|mM R<|vF Je AJ R R<|vF G4 AJ R R<|vQ R (B7 R (iR R)<|iR R)<|xO R<|mM R<|vF Je AJ R R<|vM R<|vQ R (Cs R (iR R)<|iR R)<|xO R<|aZ<|O _<|cI R h8 (λT=>?_) λT=>?_
 ·exact zI T R id
 exact Zd<|I _<|zI T R id
theorem Ry{l:CN}{E:Int}{r:AD}{j:Nat}(h:If l E=some r):BY prog 74 1 [.ptr 1000 j 0 0,rI E] [(1000,some<|.box j 102<|BG l)] (λu h'=>∃(i:Nat→Nat),u=.agg (Ad r)∧h'=[(1000,some<|.box j 102<|BG l)]):=by
 unfold If at h
 refine Dq func74 R R ntmps74 (Zw R) λq=>aU<|sS R (BB (cs:=Eo) 4 R Ee R R)<|aZ<|aT λF=>aU<|mM R<|xS R<|mM R<|vM R<|vM R<|vQ R (B1 (ob:=.box _ _ _) R (iR R) fR R)<|vQ R (fB R M9 (iR R) fR R)<|vQ R (AZ (a:=.r<|.sl<|l.shown.map<|Aj .i64) R Ok (iR R) R R)<|vQ R (Bu R B9.slice<|iR R)<|vQ R (Cs R (iR R)<|iR R)<|xO R<|aZ<|cI R h (λA=>?_) λA=>?_
 ·refine aT λI=>aG [4] [4,1000] ?_
  refine aR ?_
  refine sQ R (Bg R KZ (q:=[(0,_)]) (by exact⟨R,R,R,iL,Za⟩) (cs:=LM)<|by rfl) ?_
  refine Zk R R (Af (ds:=LM) R DT iL R iL R R R R)<|oZ I ?_
  exact Zj<|ZM (s':=⟨[(4,.ptr 4 q 0 0)],[(4,some<|.box q 51 [rI 10,rI 0,.r<|.sl []]),(1000,some<|.box j 102<|BG l)],(q+1),31⟩) ((by exact ZC ⟨jL,Za⟩ ⟨.inr<|.inr ⟨_,_,_,_,R,R,⟨.inl R,.inl R,.inr<|.inr ⟨R,R⟩,Za⟩⟩,.inl R,Za⟩ nL))<|B8 (λ(r:AD) u h'=>∃(i:Nat→Nat),u=.agg (Ad r)∧h'=[(1000,some<|.box j 102<|BG l)]) A<|by exact⟨.agg [rI 10,rI 0,.r<|.sl []],[(1000,some<|.box j 102<|BG l)],.inr ⟨_,R,Cj,_,_,_,R,R⟩,⟨.inr R,Za⟩,R,R,AH [],R,R⟩
 refine Zd<|F _<|aT λJ=>aG [0,1,4] [4,1000] ?_
 refine MA 14 BJ (by kernel_rfl) R R ?_
 refine Zt R R R (AK R iL)<|Zt R R R (B1 (ob:=.box _ _ _) R iL fR R)<|Zt R R R (fB R TZ iL fR R)<|Zt R R R (fB R E8 iL fR R)<|Zt R R R (AZ (a:=qb l.node.Flow) R B2 iL R R)<|Zt R R R (AK R iL)<|Zt R R R (B1 (ob:=.box _ _ _) R iL fR R)<|Zt R R R (fB R M9 iL fR R)<|Zt R R R (AZ (a:=.r<|.sl<|l.shown.map<|Aj .i64) R Ok iL R R)<|Zt R R R (AK R iL)<|AG A λM B O=>Zt R R R (Ap R B9.slice iL iL (λ_=>R) λ_=>B)<|Zt R R R (BU (d:=.int .i64 M) R AJ iL R)<|AG O λw C T=>Zt R R R (Ap R Ah.slice iL iL (λ_=>R) λ_=>C)<|Zt R R R (CU (cs:=(Ad w)) R Cj iL R R)<|AT.nil<|Zk R R (Af (ds:=(Ad w)) R DT iL R iL R R R R)<|oZ J ?_
 exact Zj<|ZM (s':=⟨[(4,.ptr 4 q 0 0)],[(4,some<|.box q 51<|Ad w),(1000,some<|.box j 102<|BG l)],(q+1),31⟩) wk<|B8 (λ(r:AD) u h'=>∃(i:Nat→Nat),u=.agg (Ad r)∧h'=[(1000,some<|.box j 102<|BG l)]) T<|by exact⟨.agg<|Ad w,[(1000,some<|.box j 102<|BG l)],.inr ⟨_,R,Cj,_,_,_,R,R⟩,⟨.inr R,Za⟩,R,R,AH [],R,R⟩
theorem nU{j v1 r}(h:S6 j v1=some r):AO prog 146 [.r<|.sl<|j.map PB,rS v1] (rI r):=by
 unfold S6 at h
 refine mF func146 ntmps146 R λX=>aU<|mA R<|aZ<|aS λY Z w=>aU<|mM R<|xL Uf R<|mM R<|aZ<|Zf<|BI h λo1 l A B=>?_
 have J1:∀(T:Unit) (U:NN),o1=.nrm T→Y ⟨[],[],(U 0),19⟩:=by
  intro T U e
  have h1:=A _ e
  exact Z _<|zI h1 R id
 refine Zz (λ(C:Int) u=>⟨[(0,.r<|.sl<|j.map PB),(1,rS v1),(7,rL j),(8,rI C)],[],(u 0),19⟩) (AH [X]) l wk ?_
 intro C u v2 E q
 have V:NQ j v1 C=some v2:=E;unfold NQ at V
 refine aU<|xS R<|aZ<|aT λc6=>cI R V (λF=>?_) λF=>?_
 ·refine Zd<|c6 _<|aT λc7=>Zf<|aU<|mM R<|mA R<|aZ<|aU<|mM R<|mM R<|mM R<|AG F λx4 I h4=>xI Uf R I<|xV (.str x4) BC R<|sQ R (Bo R iL iL)<|aZ<|cI R h4 (λJ=>?_) λJ=>?_
  ·refine aT λM=>aF [5] ?_
   exact aR<|mM R<|mA R<|aZ<|M _<|Zj<|yI (B _<|xH q J) R
  refine Zd<|c7 _<|aF [0,1,7,8] ?_
  exact aR<|AG J λx5 O h6=>xA R O<|mM R<|Zh<|Zx h6 (AH [(u 0)]) wk
 exact Zn<|w _ _ wk<|J1 _ (AH [(u 0)])<|xH q F
theorem hO{l v1 r}(h:NJ l v1=some r):AO prog 103 [.r<|.sl<|l.map PB,rS v1] (rB r):=by
 unfold NJ at h
 exact mF func103 ntmps103 R λu=>aU<|mA R<|aZ<|aU<|mM R<|mM R<|AG h λw j q=>cL (nU<|j) R<|sQ R (Cs R iL iL)<|mA R<|aZ<|Zj<|yB q R
theorem kJ{n r}(h:P5 n=some r):AO prog 100 [rS n] (rB r):=by
 unfold P5 at h
 exact mF func100 ntmps100 R λq=>aU<|mA R<|aZ<|aU<|sS R (Bw 3 R Uf (f:=PB) (l:=([[98,111,108,100],[105,116,97,108,105,99],[117,110,100,101,114],[115,116,114,105,107,101],[102,105,120,101,100],[114,97,105,115,101],[115,105,122,101],[99,111,108,111,117,114],[108,97,110,103],[115,116,121,108,101]]:List (List UInt8))) ⟨R,⟨_,iL,R⟩,R,⟨_,iL,R⟩,R,⟨_,iL,R⟩,R,⟨_,iL,R⟩,R,⟨_,iL,R⟩,R,⟨_,iL,R⟩,R,⟨_,iL,R⟩,R,⟨_,iL,R⟩,R,⟨_,iL,R⟩,R,⟨_,iL,R⟩,Za⟩ R (λ_=>R) R)<|mM R<|AG h λu j l=>cL (hO<|j) R<|mA R<|aZ<|Zj<|yB l R
theorem ib{n r}(h:Mx n=some r):AO prog 69 [rS n] (rB r):=by
 unfold Mx at h
 refine mF func69 ntmps69 R λA=>aU<|mA R<|aZ<|aT λq=>aR<|mM R<|sQ R (Bo R iL iL)<|mM R<|vM R<|vQ R (Bo R (iR R) iL)<|xO R<|mM R<|vM R<|vQ R (DE R underlying9<|iR R)<|vQ R (BD R (iR R) iL)<|vQ R (AK R<|iR R)<|wQ R (AK R iL)<|AG h λB j u=>?_
 refine wQ R (LT R underlying9 (iR R) (by exact R) (by exact⟨_,iL⟩)<|AP j) ?_
 refine wQ R (Bo R (iR R) iL)<|vQ R (BP R (iR R)<|iR R)<|xO R<|mM R<|vM R<|vQ R (DE R underlying9<|iR R)<|vQ R (BD R (iR R) iL)<|vQ R (AK R<|iR R)<|wQ R (AK R iL)<|AG u λC l w=>?_
 refine wQ R (LT R underlying9 (iR R) (by exact R) (by exact⟨_,iL⟩)<|AP l) ?_
 exact wQ R (Bo R (iR R) iL)<|vQ R (BP R (iR R)<|iR R)<|xO R<|mA R<|aZ<|q _<|Zj<|yB w R
theorem Us{w:List AC}{A:AC}{B:AC}{r:(List AC)}{j:Nat}{l:Nat}(h:Lb w A B=some r):BY prog 145 2 [.agg<|BF A,.agg<|BF B,.ptr 1000 j 0 0] [(1000,some<|.box j 39 [.own 1001 l]),(1001,some<|.arr l 58 2<|w.map AC.row)] (λu h'=>∃(i:Nat→Nat),u=.tup []∧h'=[(1000,some<|.box j 39 [.own 1001<|i 0]),(1001,some<|.arr (i 0) 58 2<|r.map AC.row)]):=by
 unfold Lb at h
 refine Dq func145 R R ntmps145 (Zw R) λq=>aU<|sS R (Ay (cs:=(BF A)) 3 R iL R R)<|sS R (Ay (cs:=(BF B)) 4 R iL R R)<|aZ<|Zf<|aU<|lF CO BC R R<|sQ R (Bo R iL iL)<|mA R<|aZ<|cI R h (λC=>?_) λC=>?_
 ·refine aR<|sQ R (AZ (a:=.own 1001 l) R BA iL R R)<|xC CJ R<|sS R (Bw 11 R Ac (f:=AC.row) (l:=([A]:List AC)) ⟨R,⟨_,iL,R⟩,Za⟩ R (λ_=>R) R)<|AG C λJ E O=>sS R (Ca R Ac iL R (.inr<|.inl ⟨_,_,iL,R⟩) E)<|Zk R R (Af (ds:=[.own 1001<|q+3]) R F9 iL R iL R R R R)<|Zh ?_
  exact ZM (s':=⟨[],[(1000,some<|.box j 39 [.own 1001<|q+3]),(1001,some<|.arr (q+3) 58 2<|J.map AC.row)],(q+4),21⟩) wk<|B8 (λ(r:(List AC)) u h'=>∃(i:Nat→Nat),u=.tup []∧h'=[(1000,some<|.box j 39 [.own 1001<|i 0]),(1001,some<|.arr (i 0) 58 2<|r.map AC.row)]) O<|by exact⟨.tup [],[(1000,some<|.box j 39 [.own 1001<|q+3]),(1001,some<|.arr (q+3) 58 2<|J.map AC.row)],⟨_,R,Za⟩,⟨.inr R,.inr R,Za⟩,R,R,AH [(q+3)],R,R⟩
 refine aU<|lF Hv BC R R<|sQ R (Ds R iL iL)<|mA R<|aZ<|cI R C (λF=>?_) λF=>?_
 ·refine aG [2,4] [4,1000,1001] ?_
  refine aR<|sQ R (AZ (a:=.own 1001 l) R BA iL R R)<|xC CJ R<|sS R (Bw 19 R Ac (f:=AC.row) (l:=([B]:List AC)) ⟨R,⟨_,iL,R⟩,Za⟩ R (λ_=>R) R)<|AG F λM I T=>sS R (Ca R Ac iL R (.inr<|.inl ⟨_,_,iL,R⟩) I)<|Zk R R (Af (ds:=[.own 1001<|q+3]) R F9 iL R iL R R R R)<|Zh ?_
  exact ZM (s':=⟨[],[(1000,some<|.box j 39 [.own 1001<|q+3]),(1001,some<|.arr (q+3) 58 2<|M.map AC.row)],(q+4),21⟩) wk<|B8 (λ(r:(List AC)) u h'=>∃(i:Nat→Nat),u=.tup []∧h'=[(1000,some<|.box j 39 [.own 1001<|i 0]),(1001,some<|.arr (i 0) 58 2<|r.map AC.row)]) T<|by exact⟨.tup [],[(1000,some<|.box j 39 [.own 1001<|q+3]),(1001,some<|.arr (q+3) 58 2<|M.map AC.row)],⟨_,R,Za⟩,⟨.inr R,.inr R,Za⟩,R,R,AH [(q+3)],R,R⟩
 refine Zd ?_
 exact ZM (s':=⟨[],[(1000,some<|.box j 39 [.own 1001 l]),(1001,some<|.arr l 58 2<|w.map AC.row)],(q+2),21⟩) wk<|B8 (λ(r:(List AC)) u h'=>∃(i:Nat→Nat),u=.tup []∧h'=[(1000,some<|.box j 39 [.own 1001<|i 0]),(1001,some<|.arr (i 0) 58 2<|r.map AC.row)]) F<|by exact⟨.tup [],[(1000,some<|.box j 39 [.own 1001 l]),(1001,some<|.arr l 58 2<|w.map AC.row)],⟨_,R,Za⟩,⟨.inr R,.inr R,Za⟩,R,R,AH [l],R,R⟩
theorem tM{c1:List AC}{B:List AC}{C:List AC}{r:(List AC)}{j:Nat}{l:Nat}(h:RH c1 B C=some r):BY prog 144 2 [qa B,qa C,.fn 145 [.ptr 1000 j 0 0]] [(1000,some<|.box j 39 [.own 1001 l]),(1001,some<|.arr l 58 2<|c1.map AC.row)] (λE h'=>∃(i:Nat→Nat),E=.tup []∧h'=[(1000,some<|.box j 39 [.own 1001<|i 0]),(1001,some<|.arr (i 0) 58 2<|r.map AC.row)]):=by
 unfold RH at h
 refine Dq func144 R R ntmps144 (Zw R) λn0=>aU<|mA R<|mA R<|aZ<|Zf<|BI h λo4 w av F=>IP (λ(I:Int) (J:Int) (o2:List AC) q=>⟨[(0,qa B),(1,qa C),(2,.fn 145 [.ptr 1000 j 0 0]),(6,rI I),(7,rI J)],[(1000,some<|.box j 39 [.own 1001<|q 0]),(1001,some<|.arr (q 0) 58 2<|o2.map AC.row)],(q 1),92⟩) (AH [l,n0]) w wk ?_
 intro I J o2 q v1 M O
 have h1:PQ B C I J o2=some v1:=M;unfold PQ at h1
 refine aT λC2=>aU<|mM R<|mM R<|xL Ac R<|xS R<|mM R<|vM R<|vM R<|vQ R (Bu R Ac.slice<|iR R)<|vQ R (B7 R (iR R)<|iR R)<|xO R<|aZ<|cI R h1 (λT=>?_) λT=>?_
 ·refine Zd<|C2 _<|Zf<|Zf<|aT λC4=>?_
  refine ZA BJ (by kernel_rfl) ?_
  refine qP R (AK R iL)<|qP R (AK R iL)<|qP R (Bu R Ac.slice iL)<|qP R (Aq R iL iL)<|qP R (AK R iL)<|qO R (AK R iL)<|qO R (AK R iL)<|qO R (Bu R Ac.slice<|iR R)<|qO R (B7 R (iR R)<|iR R)<|qO R (AK R<|iR R)<|qT R (AK R iL)<|qT R (AK R iL)<|AG T λx1 U h3=>qT R (Ap R Ac.slice (iR R) (iR R) (λ_=>R)<|AP U)<|qT R (A2 R CO<|iR R)<|qT R (BU (d:=.str x1.Name) R BC (iR R) R)<|qT R (AK R iL)<|qT R (AK R iL)<|AG h3 λx2 V h4=>qT R (Ap R Ac.slice (iR R) (iR R) (λ_=>R)<|AP V)<|qT R (A2 R CO<|iR R)<|qT R (BU (d:=.str x2.Name) R BC (iR R) R)<|qT R (LH R (iR R)<|iR R)<|qO R (BP R (iR R)<|iR R)<|qP R (CM R iL<|iR R)<|qP R (Do R iL)<|AQ.nil<|C4 _<|cI R h4 (λX=>?_) λX=>?_
  ·refine aT λC5=>aG [0,1,2,6,7] [1000,1001] ?_
   refine aR<|mM R<|mM R<|mM R<|AG X λx3 Y h6=>xI Ac R Y<|xB ((BF x3)) CJ R ?_
   refine sQ R (Bg R GY (q:=[]) (by exact Za) (cs:=[.r<|.str [],.r<|.str []])<|by rfl) ?_
   refine AG h6 λw1 Z h7=>?_
   refine Zo [1000,1001] (hc:=[(1000,some<|.box j 39 [.own 1001<|q 0]),(1001,some<|.arr (q 0) 58 2<|o2.map AC.row)]) (bs:=(XQ x3)) (caps:=[.ptr 1000 j 0 0]) R R R R iL R ⟨.inl ⟨iL,R⟩,.inl ⟨iL,R⟩,Za⟩ ⟨R,R,R,R,R,R,Za⟩ (by decide) (Us Z) ?_
   intro i8 n1
   refine A7 [0,1,2,6,7,56,57,58,59,60,61,62] [1000,1001] ?_
   exact aZ<|C5 _<|aR<|mM R<|AG h7 λi9 a0 h8=>xA R a0<|mA R<|Zh<|Dg.mk h8 (AH [(i8 0),n1]) wk
  refine aT λC6=>aG [0,1,2,6,7] [1000,1001] ?_
  refine ZA BJ (by kernel_rfl) ?_
  refine qP R (AK R iL)<|qP R (AK R iL)<|qP R (Bu R Ac.slice iL)<|qP R (Aq R iL iL)<|qP R (AK R iL)<|qO R (AK R iL)<|qO R (AK R iL)<|AG X λx4 a2 h9=>qO R (Ap R Ac.slice (iR R) (iR R) (λ_=>R)<|AP a2)<|qO R (A2 R CO<|iR R)<|qO R (BU (d:=.str x4.Name) R BC (iR R) R)<|qO R (AK R iL)<|qO R (AK R iL)<|AG h9 λx5 a6 a7=>qO R (Ap R Ac.slice (iR R) (iR R) (λ_=>R)<|AP a6)<|qO R (A2 R CO<|iR R)<|qO R (BU (d:=.str x5.Name) R BC (iR R) R)<|qO R (LH R (iR R)<|iR R)<|qP R (CM R iL<|iR R)<|qP R (Do R iL)<|AQ.nil<|C6 _<|cI R a7 (λu=>?_) λu=>?_
  ·refine aT λC7=>aR<|mM R ?_
   refine sQ R (Bg R GY (q:=[]) (by exact Za) (cs:=[.r<|.str [],.r<|.str []])<|by rfl) ?_
   refine mM R<|mM R<|AG u λx6 a8 aa=>xI Ac R a8<|xB ((BF x6)) CJ R<|AG aa λw2 ab ac=>?_
   refine Zo [1000,1001] (hc:=[(1000,some<|.box j 39 [.own 1001<|q 0]),(1001,some<|.arr (q 0) 58 2<|o2.map AC.row)]) (bs:=(Wk x6)) (caps:=[.ptr 1000 j 0 0]) R R R R iL R ⟨.inl ⟨iL,R⟩,.inl ⟨iL,R⟩,Za⟩ ⟨R,R,R,R,R,R,Za⟩ (by decide) (Us ab) ?_
   intro ad n2
   refine A7 [0,1,2,6,7,65,66,67,68,69,70,82,83,84,85,86,87,88,89] [1000,1001] ?_
   refine aZ<|C7 _<|aG [0,1,2,6,7] [1000,1001] ?_
   exact aR<|mM R<|AG ac λj4 ae af=>xA R ae<|mA R<|Zh<|Dg.mk af (AH [(ad 0),n2]) wk
  refine aT λC8=>?_
  refine MA 9 BJ (by kernel_rfl) R R ?_
  refine Zt R R R (AK R iL)<|Zt R R R (AK R iL)<|Zt R R R (AK R iL)<|AG u λx7 ag ah=>Zt R R R (Ap R Ac.slice iL iL (λ_=>R) λ_=>ag)<|Zt R R R (CU (cs:=(BF x7)) R CJ iL R R)<|Zt R R R (AK R iL)<|Zt R R R (AK R iL)<|AG ah λx8 ai aj=>Zt R R R (Ap R Ac.slice iL iL (λ_=>R) λ_=>ai)<|Zt R R R (CU (cs:=(BF x8)) R CJ iL R R)<|AT.nil<|AG aj λw3 ak al=>?_
  refine Zo [1000,1001] (hc:=[(1000,some<|.box j 39 [.own 1001<|q 0]),(1001,some<|.arr (q 0) 58 2<|o2.map AC.row)]) (bs:=[.agg<|BF x7,.agg<|BF x8]) (caps:=[.ptr 1000 j 0 0]) R R R R iL R ⟨.inl ⟨iL,R⟩,.inl ⟨iL,R⟩,Za⟩ ⟨R,R,R,R,R,R,Za⟩ (by decide) (Us ak) ?_
  intro an n3
  refine A7 [0,1,2,6,7,18,19,20,21,22,23,24,25,26,27,65,66,67,68,69,70,82] [1000,1001] ?_
  refine aZ<|C8 _<|aG [0,1,2,6,7] [1000,1001] ?_
  exact aR<|mM R<|AG al λaw A ao=>xA R A<|mM R<|AG ao λj5 aq ar=>xA R aq<|mA R<|mA R<|Zh<|Dg.mk ar (AH [(an 0),n3]) wk
 refine Zn ?_
 exact ZM (s':=⟨[],[(1000,some<|.box j 39 [.own 1001<|q 0]),(1001,some<|.arr (q 0) 58 2<|o2.map AC.row)],(q 1),92⟩) wk<|B8 (λ(r:(List AC)) E h'=>∃(i:Nat→Nat),E=.tup []∧h'=[(1000,some<|.box j 39 [.own 1001<|i 0]),(1001,some<|.arr (i 0) 58 2<|r.map AC.row)]) (F _<|xH O T)<|by exact⟨.tup [],[(1000,some<|.box j 39 [.own 1001<|q 0]),(1001,some<|.arr (q 0) 58 2<|o2.map AC.row)],⟨_,R,Za⟩,⟨.inr R,.inr R,Za⟩,R,R,AH [(q 0)],R,R⟩
theorem U0{l c r}(h:LQ l c=some r):AO prog 102 [qa l,qa c] (qa r):=by
 unfold LQ at h
 refine mF func102 ntmps102 R λj=>aU<|mA R<|aZ<|aU<|sS R (BB (cs:=[cZ]) 5 R YL R R)<|aZ<|aT λu=>aR<|mM R<|mM R ?_
 refine sQ R (QL (bs:=[.ptr 5 j 0 0]) R<|by exact⟨iL,Za⟩) ?_
 refine AN.weak (Zm (FB 5 0 3050 58 2 (by decide) R R<|by decide)<|by exact ZC (e':=[(0,qa l),(1,qa c),(4,cZ),(5,.ptr 5 j 0 0),(6,qa l),(7,qa c),(8,.fn 145 [.ptr 5 j 0 0])]) (h':=[(5,some<|.box j 39 [.own 3050<|j+1]),(3050,some<|.arr (j+1) 58 2<|([]:List AC).map AC.row)]) ⟨jL,jL,jL,jL,jL,jL,jL,Za⟩ ⟨.inl R,.inl R,Za⟩ nL) ?_
 refine AG h λB q w=>?_
 refine Zo [5,3050] (hc:=[(1000,some<|.box j 39 [.own 1001<|j+1]),(1001,some<|.arr (j+1) 58 2<|([]:List AC).map AC.row)]) (bs:=[qa l,qa c,.fn 145 [.ptr 1000 j 0 0]]) (caps:=[]) R R R R iL R ⟨.inl ⟨iL,R⟩,.inl ⟨iL,R⟩,.inl ⟨iL,R⟩,Za⟩ ⟨R,R,R,R,R,R,Za⟩ (by decide) (tM q) ?_
 intro A C
 refine A7 [0,1,4,5,6,7,8,9] [5,3050] ?_
 exact aZ<|u _<|aU<|sQ R (AZ (a:=.own 3050<|A 0) R BA iL R R)<|mA R<|aZ<|Zj<|Cz (P:=prog) (λ(r:(List AC))=>qa r) w iL<|.t<|.one<|.own R
theorem mL{A:CN}{I:Int}{r:(List AC)}{j:Nat}(h:P9 A I=some r):BY prog 50 1 [.ptr 1000 j 0 0,rI I] [(1000,some<|.box j 102<|BG A)] (λrr h'=>∃(i:Nat→Nat),rr=qa r∧h'=[(1000,some<|.box j 102<|BG A)]):=by
 unfold P9 at h
 refine Dq func50 R R ntmps50 (Zw R) λn0=>aU<|mA R<|aZ<|aT λc2=>aR<|mM R<|mM R<|AG h λx1 aq h1=>sQ R (CF R iL iL λ_=>aq)<|AG h1 λB ar h2=>?_
 refine Zo [1000] (hc:=[(1000,some<|.box j 102<|BG A)]) (bs:=[.ptr 1000 j 0 0,rI x1]) (caps:=[]) R R R R iL R ⟨.inl ⟨iL,R⟩,.inl ⟨iL,R⟩,Za⟩ ⟨R,R,R,Za⟩ (by decide) (Ry ar) ?_
 intro i1 n1
 refine A7 [0,1,4,13,14,15,16] [1000] ?_
 refine mM R<|mM R<|AG h2 λE av h3=>?_
 refine Zo [1000] (hc:=[(1000,some<|.box j 102<|BG A)]) (bs:=[.ptr 1000 j 0 0,rI I]) (caps:=[]) R R R R iL R ⟨.inl ⟨iL,R⟩,.inl ⟨iL,R⟩,Za⟩ ⟨R,R,R,Za⟩ (by decide) (Ry av) ?_
 intro i2 q
 refine A7 [0,1,4,13,14,15,16,17,18,19] [1000] ?_
 refine sS R (BB (cs:=Eo) 5 R Ee R R)<|sS R (BB (cs:=Eo) 6 R Ee R R)<|Zk R R (Af (ds:=(Ad B)) R DT iL R iL R R R R)<|Zk R R (Af (ds:=(Ad E)) R DT iL R iL R R R R)<|aZ<|c2 _<|aT λc3=>aG [1,5,6] [5,6,1000] ?_
 refine aR<|xC Cj R<|sS R (BB (cs:=Eo) 7 R Ee R R)<|Zk R R (Af (ds:=(Ad B)) R DT iL R iL R R R R)<|aZ<|c3 _<|aS λK4 c4 ae=>aU<|lF D1 AJ R R<|xQ R<|aZ<|A3 h3 λp1 af aw=>?_
 have J1:∀(l:AD) (V:NN),p1=l→K4 ⟨[(1,rI I),(5,.ptr 5 q 0 0),(6,.ptr 6 (q+1) 0 0),(7,.ptr 7 (q+2) 0 0)],[(5,some<|.box q 51<|Ad B),(6,some<|.box (q+1) 51<|Ad E),(7,some<|.box (q+2) 51<|Ad l),(1000,some<|.box j 102<|BG A)],(V 0),73⟩:=by
  intro l V e
  have h4:=aw _ e
  refine c4 _<|aU<|mA R<|aZ<|aS λK7 c7 ag=>aU<|lF D1 AJ R R<|xU R<|aZ<|A3 h4 λp2 ah ax=>?_
  have J2:∀(J:List AC) (i4:NN),p2=J→K7 ⟨[(1,rI I),(5,.ptr 5 q 0 0),(6,.ptr 6 (q+1) 0 0),(8,.own 5008<|i4 0)],[(5,some<|.box q 51<|Ad B),(6,some<|.box (q+1) 51<|Ad E),(1000,some<|.box j 102<|BG A),(5008,some<|.arr (i4 0) 58 2<|J.map AC.row)],(i4 1),73⟩:=by
   intro J i4 e
   have h5:=ax _ e
   refine c7 _<|aS λK9 c9 ay=>aU<|lF CR BA R R<|xL Ac R<|mM R<|aZ<|Zf<|A3 h5 λo1 ai az=>?_
   have J3:∀(C:List AC) (i9:NN),o1=C→K9 ⟨[(8,qa C)],[(1000,some<|.box j 102<|BG A)],(i9 0),73⟩:=by
    intro C i9 e
    have h6:=az _ e
    refine c9 _<|aU<|mM R<|mA R<|aZ ?_
    exact Zj<|ZM (s':=⟨[(4,qa C)],[(1000,some<|.box j 102<|BG A)],(i9 0),73⟩) wk<|B8 (λ(r:(List AC)) rr h'=>∃(i:Nat→Nat),rr=qa r∧h'=[(1000,some<|.box j 102<|BG A)]) h6<|by exact⟨qa C,[(1000,some<|.box j 102<|BG A)],R,⟨.inr R,Za⟩,R,R,AH [],R,R⟩
   refine ZL (λ(w:List AC) (x3:Int) i7=>⟨[(1,rI I),(6,.ptr 6 (q+1) 0 0),(8,qa w),(44,qa B.Attrs),(45,rL B.Attrs),(46,rI x3)],[(6,some<|.box (q+1) 51<|Ad E),(1000,some<|.box j 102<|BG A)],(i7 0),73⟩) (AH [(i4 1)]) ai (Zm (by exact Ak.frz (e':=[(1,rI I),(5,.ptr 5 q 0 0),(6,.ptr 6 (q+1) 0 0),(8,qa J),(43,.ptr 5 q 0 2),(44,qa B.Attrs),(45,rL B.Attrs),(46,rI 0)]) (h':=[(5,some<|.box q 51<|Ad B),(6,some<|.box (q+1) 51<|Ad E),(1000,some<|.box j 102<|BG A)]) 5008 R ⟨jL,jL,jL,.inl<|.inr<|.inr ⟨R,R⟩,jL,jL,jL,jL,Za⟩ ⟨R,.inl R,R,.inl R,R,.inl R,Za⟩) wk) ?_
   intro w x3 i7 v1 b0 b1
   have h7:LI I B E w x3=some v1:=b0;unfold LI at h7
   refine aU<|xS R<|aZ<|aT λb2=>cI R h7 (λh8=>?_) λh8=>?_
   ·refine Zd<|b2 _<|aS λb3 b4 Y=>Zf<|A3 h8 λp3 b5 b6=>?_
    have J4:∀(T:List AC) (a0:NN),p3=T→b3 ⟨[(1,rI I),(6,.ptr 6 (q+1) 0 0),(8,qa T),(44,qa B.Attrs),(45,rL B.Attrs),(46,rI x3)],[(6,some<|.box (q+1) 51<|Ad E),(1000,some<|.box j 102<|BG A)],(a0 0),73⟩:=by
     intro T a0 e
     have h9:=b6 _ e
     exact b4 _<|aR<|AG h9 λx5 b7 b8=>xA R b7<|mM R<|Zh<|ZH b8 (AH [(a0 0)]) wk
    refine aU<|AG b5 λO b9 ba=>xI Ac R b9<|xB ((BF O)) CJ R<|sS R (BB (cs:=[.r<|.str [],.r<|.str []]) 12 R KW R R)<|Zk R R (Af (ds:=(BF O)) R JU iL R iL R R R R)<|aZ<|aT λbb=>?_
    refine ZA BJ (by kernel_rfl) ?_
    refine qP R (fB R CO iL fR R)<|qP R (AZ (a:=rS O.Name) R BC iL R R)<|AG ba λr3 bc bd=>Ep R R R (r:=rB r3) (caps:=[]) (bs:=[rS O.Name]) R iL R ⟨⟨_,iL,.d R⟩,Za⟩ (λ_=>ib<|bc) R<|qP R (AK R iL)<|qO R (AK R iL)<|qO R (BD R (iR R) iL)<|qP R (BP R iL<|iR R)<|qP R (AK R iL)<|qO R (fB R CR iL fR R)<|qO R (AZ (a:=qa E.Attrs) R BA (iR R) R R)<|qO R (fB R CO iL fR R)<|qO R (AZ (a:=rS O.Name) R BC (iR R) R R)<|AG bd λr4 be bf=>HS (.one R R R) R R (r:=rS r4) (caps:=[]) (bs:=[qa E.Attrs,rS O.Name]) R iL R ⟨⟨_,(iR R),.d R⟩,⟨_,(iR R),.d R⟩,Za⟩ (λhg=>Q4<|AP be hg) R<|qO R (fB R Hv iL fR R)<|qO R (AZ (a:=rS O.Value) R BC (iR R) R R)<|qO R (Bo R (iR R)<|iR R)<|qP R (BP R iL<|iR R)<|AQ.nil<|bb _<|cI R bf (λa1=>?_) λa1=>?_
    ·refine aG [1,6,8,12,44,45,46] [6,12,1000] ?_
     refine aR<|mM R<|xC CJ R<|sS R (Bw 69 R Ac (f:=AC.row) (l:=([O]:List AC)) ⟨R,⟨_,iL,R⟩,Za⟩ R (λ_=>R) R) ?_
     refine AN.weak (by exact Ak.frz (e':=[(1,rI I),(6,.ptr 6 (q+1) 0 0),(8,qa w),(12,.ptr 12 (i7 0) 0 0),(44,qa B.Attrs),(45,rL B.Attrs),(46,rI x3),(67,qa w),(68,.agg<|BF O),(69,.r<|.sl<|[O].map AC.row)]) (h':=[(6,some<|.box (q+1) 51<|Ad E),(12,some<|.box (i7 0) 58<|BF O),(1000,some<|.box j 102<|BG A)]) 69 R ⟨jL,jL,jL,jL,jL,jL,jL,jL,jL,.inl<|.inr<|.inr ⟨R,R⟩,Za⟩ ⟨R,.inl R,R,.inl R,R,.inl R,Za⟩) ?_
     exact AG a1 λaj a2 bg=>sS R (CB (r:=qa aj) (caps:=[]) (bs:=[qa w,.r<|.sl<|[O].map AC.row]) R iL R ⟨.inl ⟨iL,R⟩,.inl ⟨iL,R⟩,Za⟩ λ_=>U0<|a2)<|mA R<|Zh<|Y _ _ wk<|J4 _ (AH [((i7 0)+2)]) (Zb bg).symm
    exact Zd<|Y _ _ wk<|J4 _ (AH [((i7 0)+1)]) (Zb a1).symm
   exact Zn<|ay _ _ wk<|J3 _ (AH [(i7 0)])<|xH b1 h8
  refine aC R (λa6=>?_) λa6=>?_
  ·have a7:=Br a6 ah
   refine aU<|lF CR BA R R<|xL Ac R<|mM R<|aZ<|Zf<|BI a7 λo2 ak bw bh=>?_
   refine ZL (λ(x8:Int) (U:List AC) u=>⟨[(1,rI I),(5,.ptr 5 q 0 0),(6,.ptr 6 (q+1) 0 0),(8,.own 5008<|u 0),(29,qa l.Attrs),(30,rL l.Attrs),(31,rI x8)],[(5,some<|.box q 51<|Ad B),(6,some<|.box (q+1) 51<|Ad E),(1000,some<|.box j 102<|BG A),(5008,some<|.arr (u 0) 58 2<|U.map AC.row)],(u 1),73⟩) (AH [(V 0),((V 0)+1)]) ak (Zm (Zm (ZR 8 5008 58 2 (by decide) R)<|by exact ZC (e':=[(1,rI I),(5,.ptr 5 q 0 0),(6,.ptr 6 (q+1) 0 0),(7,.ptr 7 (q+2) 0 0),(8,.own 5008<|V 0),(25,.ptr 7 (q+2) 0 0),(26,rI l.Char),(27,rB<|(!(l.Char=10))),(28,.ptr 7 (q+2) 0 2),(29,qa l.Attrs),(30,rL l.Attrs),(31,rI 0)]) (h':=[(5,some<|.box q 51<|Ad B),(6,some<|.box (q+1) 51<|Ad E),(7,some<|.box (q+2) 51<|Ad l),(1000,some<|.box j 102<|BG A),(5008,some<|.arr (V 0) 58 2<|([]:List AC).map AC.row)]) ⟨jL,jL,jL,jL,jL,jL,jL,jL,jL,jL,jL,jL,Za⟩ ⟨.inl R,.inl R,.inl R,.inl R,.inl R,Za⟩ nL) wk) ?_
   intro x8 U u v2 bi bj
   have al:LX l x8 U=some v2:=bi;unfold LX at al
   refine aU<|xS R<|aZ<|aT λbk=>cI R al (λa8=>?_) λa8=>?_
   ·refine Zd<|bk _<|aS λbl bm Z=>Zf<|A3 a8 λp4 bn bo=>?_
    have J6:∀(F:List AC) (M:NN),p4=F→bl ⟨[(1,rI I),(5,.ptr 5 q 0 0),(6,.ptr 6 (q+1) 0 0),(8,.own 5008<|M 0),(29,qa l.Attrs),(30,rL l.Attrs),(31,rI x8)],[(5,some<|.box q 51<|Ad B),(6,some<|.box (q+1) 51<|Ad E),(1000,some<|.box j 102<|BG A),(5008,some<|.arr (M 0) 58 2<|F.map AC.row)],(M 1),73⟩:=by
     intro F M e
     have bp:=bo _ e
     exact bm _<|aR<|AG bp λbx an bq=>xA R an<|mM R<|Zh<|ZH bq (AH [(M 0),(M 1)]) wk
    refine aU<|AG bn λaa ao br=>xI Ac R ao<|xB ((BF aa)) CJ R<|sS R (BB (cs:=[.r<|.str [],.r<|.str []]) 10 R KW R R)<|Zk R R (Af (ds:=(BF aa)) R JU iL R iL R R R R)<|aZ<|aU<|lF CO BC R R<|AG br λr5 bs bt=>cL (kJ<|bs) R<|aZ<|cI R bt (λab=>?_) λab=>?_
    ·exact aR<|mM R<|xC CJ R<|sS R (Bw 40 R Ac (f:=AC.row) (l:=([aa]:List AC)) ⟨R,⟨_,iL,R⟩,Za⟩ R (λ_=>R) R)<|AG ab λbu X bv=>sS R (Ca R Ac iL R (.inr<|.inl ⟨_,_,iL,R⟩) X)<|mA R<|Zh<|Z _ _ wk<|J6 _ (AH [((u 1)+2),((u 1)+3)]) (Zb bv).symm
    exact Zd<|Z _ _ wk<|J6 _ (AH [(u 0),((u 1)+1)]) (Zb ab).symm
   exact Zn<|ag _ _ wk<|J2 _ (AH [(u 0),(u 1)]) (Zb<|bh _<|xH bj a8).symm
  ·have a7:=Bt a6 ah
   refine Zd ?_
   exact ag _ _ (Zm (Zm (ZR 8 5008 58 2 (by decide) R)<|by exact ZC (e':=[(1,rI I),(5,.ptr 5 q 0 0),(6,.ptr 6 (q+1) 0 0),(7,.ptr 7 (q+2) 0 0),(8,.own 5008<|V 0),(25,.ptr 7 (q+2) 0 0),(26,rI l.Char),(27,rB<|(!(l.Char=10)))]) (h':=[(5,some<|.box q 51<|Ad B),(6,some<|.box (q+1) 51<|Ad E),(7,some<|.box (q+2) 51<|Ad l),(1000,some<|.box j 102<|BG A),(5008,some<|.arr (V 0) 58 2<|([]:List AC).map AC.row)]) ⟨jL,jL,jL,jL,jL,jL,jL,jL,Za⟩ ⟨.inl R,.inl R,.inl R,.inl R,.inl R,Za⟩ nL) wk)<|J2 _ (AH [(V 0),((V 0)+1)]) (Zb a7).symm
 refine aC R (λac=>?_) λac=>?_
 ·have ad:=Br ac af
  exact aR<|xC Cj R<|Zk R R (Af (ds:=(Ad E)) R DT iL R iL R R R R)<|Zh<|ae _ _ wk<|J1 _ (AH [(q+3)]) (Zb ad).symm
 ·have ad:=Bt ac af
  exact Zd<|ae _ _ wk<|J1 _ (AH [(q+3)]) (Zb ad).symm
theorem jy{q:CN}{k1:Int}{r:(List AC)}{j:Nat}(h:Kj q k1=some r):BY prog 51 1 [.ptr 1000 j 0 0,rI k1] [(1000,some<|.box j 102<|BG q)] (λrr h'=>∃(i:Nat→Nat),rr=qa r∧h'=[(1000,some<|.box j 102<|BG q)]):=by
 unfold Kj at h
 refine Dq func51 R R ntmps51 (Zw R) λn0=>aU<|mA R<|aZ<|aS λK2 c2 a0=>Zf<|A3 h λo1 O a1=>?_
 have J1:∀(M:Int) (i5:NN),o1=M→K2 ⟨[(0,.ptr 1000 j 0 0),(1,rI M)],[(1000,some<|.box j 102<|BG q)],(i5 0),41⟩:=by
  intro M i5 e
  have h1:=a1 _ e
  refine c2 _<|aU<|mA R<|aZ<|aS λK4 c4 a2=>aT λc5=>aR<|mM R<|mM R<|AG h1 λE a6 h2=>?_
  refine Zo [1000] (hc:=[(1000,some<|.box j 102<|BG q)]) (bs:=[.ptr 1000 j 0 0,rI M]) (caps:=[]) R R R R iL R ⟨.inl ⟨iL,R⟩,.inl ⟨iL,R⟩,Za⟩ ⟨R,R,R,Za⟩ (by decide) (Ry a6) ?_
  intro i6 X
  refine A7 [0,1,5,15,16,17] [1000] ?_
  refine sQ R (Ou (a:=qa E.Attrs) R tx iL R)<|xL Ac R<|mM R<|aZ<|c5 _<|Zf<|A3 h2 λo2 T a7=>?_
  have J2:∀(l:List AC) (w:NN),o2=l→K4 ⟨[(5,.own 5005<|w 0)],[(1000,some<|.box j 102<|BG q),(5005,some<|.arr (w 0) 58 2<|l.map AC.row)],(w 1),41⟩:=by
   intro l w e
   have h3:=a7 _ e
   refine c4 _<|aU<|mM R<|mA R<|aZ ?_
   exact Zj<|ZM (s':=⟨[(4,qa l)],[(1000,some<|.box j 102<|BG q)],(w 1),41⟩) (Zm (by exact Ak.frz (e':=[(4,qa l),(5,qa l),(40,qa l)]) (h':=[(1000,some<|.box j 102<|BG q)]) 5005 R ⟨.inl<|.inr<|.inr ⟨R,R⟩,.inl<|.inr<|.inr ⟨R,R⟩,.inl<|.inr<|.inr ⟨R,R⟩,Za⟩ ⟨R,.inl R,Za⟩) wk)<|B8 (λ(r:(List AC)) rr h'=>∃(i:Nat→Nat),rr=qa r∧h'=[(1000,some<|.box j 102<|BG q)]) h3<|by exact⟨qa l,[(1000,some<|.box j 102<|BG q)],R,⟨.inr R,Za⟩,R,R,AH [],R,R⟩
  refine ZL (λ(Y:Int) (A:List AC) C=>⟨[(5,.own 5005<|C 0),(18,qa E.Attrs),(19,rL E.Attrs),(20,rI Y)],[(1000,some<|.box j 102<|BG q),(5005,some<|.arr (C 0) 58 2<|A.map AC.row)],(C 1),41⟩) (AH [X,(X+1)]) T (Zm (Zm (ZR 5 5005 58 2 (by decide) R)<|by exact ZC (e':=[(0,.ptr 1000 j 0 0),(1,rI M),(5,.own 5005 X),(15,.ptr 1000 j 0 0),(16,rI M),(17,.agg<|Ad E),(18,qa E.Attrs),(19,rL E.Attrs),(20,rI 0)]) (h':=[(1000,some<|.box j 102<|BG q),(5005,some<|.arr X 58 2<|([]:List AC).map AC.row)]) ⟨jL,jL,jL,jL,jL,jL,jL,jL,jL,Za⟩ ⟨.inl R,.inl R,Za⟩ nL) wk) ?_
  intro Y A C v1 a8 aa
  have h4:L3 E Y A=some v1:=a8;unfold L3 at h4
  refine aU<|xS R<|aZ<|aT λc8=>cI R h4 (λh5=>?_) λh5=>?_
  ·refine Zd<|c8 _<|aS λK9 c9 U=>Zf<|A3 h5 λp1 ab ac=>?_
   have J3:∀(B:List AC) (u:NN),p1=B→K9 ⟨[(5,.own 5005<|u 0),(18,qa E.Attrs),(19,rL E.Attrs),(20,rI Y)],[(1000,some<|.box j 102<|BG q),(5005,some<|.arr (u 0) 58 2<|B.map AC.row)],(u 1),41⟩:=by
    intro B u e
    have h6:=ac _ e
    exact c9 _<|aR<|AG h6 λx4 ad h7=>xA R ad<|mM R<|Zh<|ZH h7 (AH [(u 0),(u 1)]) wk
   refine aU<|AG ab λx5 ae h8=>xI Ac R ae<|xB ((BF x5)) CJ R<|sS R (BB (cs:=[.r<|.str [],.r<|.str []]) 7 R KW R R)<|Zk R R (Af (ds:=(BF x5)) R JU iL R iL R R R R)<|aZ<|aU<|sS R (Bw 24 R Uf (f:=PB) (l:=([[97,100,100],[99,117,116],[104,105,100,100,101,110],[108,111,99,107],[115,101,99,116,105,111,110],[98,114,101,97,107],[115,116,97,114,116]]:List (List UInt8))) ⟨R,⟨_,iL,R⟩,R,⟨_,iL,R⟩,R,⟨_,iL,R⟩,R,⟨_,iL,R⟩,R,⟨_,iL,R⟩,R,⟨_,iL,R⟩,R,⟨_,iL,R⟩,Za⟩ R (λ_=>R) R)<|lF CO BC R R<|AG h8 λr2 af h9=>cL (hO<|af) R<|sQ R (A0 R iL)<|mM R<|vF CO BC R R<|AG h9 λr3 ag ah=>vL (λhg=>ib<|AP ag hg) R<|vQ R (A0 R<|iR R)<|xN R<|aZ<|cI R ah (λF=>?_) λF=>?_
   ·refine aG [5,7,18,19,20] [7,1000,5005] ?_
    exact aR<|mM R<|xC CJ R<|sS R (Bw 37 R Ac (f:=AC.row) (l:=([x5]:List AC)) ⟨R,⟨_,iL,R⟩,Za⟩ R (λ_=>R) R)<|AG F λaw I ai=>sS R (Ca R Ac iL R (.inr<|.inl ⟨_,_,iL,R⟩) I)<|mA R<|Zh<|U _ _ wk<|J3 _ (AH [((C 1)+3),((C 1)+4)]) (Zb ai).symm
   exact Zd<|U _ _ wk<|J3 _ (AH [(C 0),((C 1)+2)]) (Zb F).symm
  exact Zn<|a2 _ _ wk<|J2 _ (AH [(C 0),(C 1)])<|xH aa h5
 refine Zz (λ(Z:Int) i3=>⟨[(0,.ptr 1000 j 0 0),(1,rI Z)],[(1000,some<|.box j 102<|BG q)],(i3 0),41⟩) (AH [n0]) O wk ?_
 intro Z i3 v2 aj ak
 have V:TK q Z=some v2:=aj;unfold TK at V
 refine aT λal=>aT λan=>aR<|mM R<|mM R<|AG V λr4 ao aq=>?_
 refine Zo [1000] (hc:=[(1000,some<|.box j 102<|BG q)]) (bs:=[.ptr 1000 j 0 0,rI Z]) (caps:=[]) R R R R iL R ⟨.inl ⟨iL,R⟩,.inl ⟨iL,R⟩,Za⟩ ⟨R,R,R,Za⟩ (by decide) (Ry ao) ?_
 intro ax n2
 refine A7 [0,1,8,9,10] [1000] ?_
 refine sQ R (Ou (a:=rI r4.Char) R nO iL R)<|xU R<|aZ<|an _<|cI R aq (λJ=>?_) λJ=>?_
 ·exact Zd<|al _<|Zf<|aR<|mM R<|AG J λk6 ar av=>xA R ar<|mA R<|Zh<|Zx av (AH [n2]) wk
 exact Zn<|a0 _ _ wk<|J1 _ (AH [n2])<|xH ak J
theorem nG{M a r}(h:MG M a=some r):BY prog 49 1 [rS M,qa a] [] (λB h'=>∃(i:Nat→Nat),B=.tup [.own 1000<|i 0,rI r.1]∧h'=[(1000,some<|.arr (i 0) 51 3<|r.2.map AD.row)]):=by
 unfold MG at h
 refine Dq func49 R R ntmps49 (Zw R) λu=>aU<|mA R<|mA R<|aZ<|aT λc2=>aU<|mM R<|AG h λw T h1=>cL (US<|T) R<|mA R<|aZ<|aU<|mM R<|xU R<|aZ<|cI R h1 (λU=>?_) λU=>?_
 ·refine aU<|mM R<|mA R<|mA R<|aZ ?_
  exact Zj<|ZM (s':=⟨[(4,.own 1000 u),(5,rI w)],[(1000,some<|.arr u 51 3<|([]:List AD).map AD.row)],(u+1),44⟩) (Zm (Zm (ZR 4 1000 51 3 (by decide) R)<|by exact ZC (e':=[(0,rS M),(1,qa a),(4,.own 1000 u),(5,rI w),(6,rI w),(10,qa a),(11,rI w),(12,rI w),(13,rB<|(!(w=0))),(14,rI w)]) (h':=[(1000,some<|.arr u 51 3<|([]:List AD).map AD.row)]) ⟨jL,jL,jL,jL,jL,jL,jL,jL,jL,jL,Za⟩ ⟨.inl R,Za⟩ nL) wk)<|B8 (λ(r:Int × (List AD)) B h'=>∃(i:Nat→Nat),B=.tup [.own 1000<|i 0,rI r.1]∧h'=[(1000,some<|.arr (i 0) 51 3<|r.2.map AD.row)]) U<|by exact⟨.tup [.own 1000 u,rI w],[(1000,some<|.arr u 51 3<|([]:List AD).map AD.row)],⟨_,R,⟨R,R,Za⟩⟩,⟨.inr R,Za⟩,R,R,AH [u],R,R⟩
 refine Zd<|c2 _<|aU<|mA R<|aZ<|aS λK7 c7 V=>Zf<|BI U λo1 I X J=>?_
 have J1:∀(l:List AD) (A:NN),o1=.nrm l→K7 ⟨[(7,.own 5007<|A 0)],[(5007,some<|.arr (A 0) 51 3<|l.map AD.row)],(A 1),44⟩:=by
  intro l A e
  have h3:=X _ e
  refine c7 _<|aU<|mM R<|mA R<|mA R<|aZ ?_
  exact Zj<|ZM (s':=⟨[(4,.own 1000<|A 1),(5,rI 0)],[(1000,some<|.arr (A 1) 51 3<|l.map AD.row)],((A 1)+1),44⟩) (Zm (Zm (Ak.ren 4 5007 1000 R R R)<|by exact ZC (e':=[(4,.own 1000<|A 1),(5,rI 0)]) (h':=[(1000,some<|.arr (A 1) 51 3<|l.map AD.row)]) ⟨jL,jL,Za⟩ ⟨.inl R,Za⟩ nL) wk)<|B8 (λ(r:Int × (List AD)) B h'=>∃(i:Nat→Nat),B=.tup [.own 1000<|i 0,rI r.1]∧h'=[(1000,some<|.arr (i 0) 51 3<|r.2.map AD.row)]) h3<|by exact⟨.tup [.own 1000<|A 1,rI 0],[(1000,some<|.arr (A 1) 51 3<|l.map AD.row)],⟨_,R,⟨R,R,Za⟩⟩,⟨.inr R,Za⟩,R,R,AH [(A 1)],R,R⟩
 refine ZL (λ(O:List UInt8) (q:List AD) j=>⟨[(0,rS O),(1,qa a),(7,.own 5007<|j 0)],[(5007,some<|.arr (j 0) 51 3<|q.map AD.row)],(j 1),44⟩) (AH [u,(u+1)]) I (Zm (Zm (ZR 7 5007 51 3 (by decide) R)<|by exact ZC (e':=[(0,rS M),(1,qa a),(4,cZ),(5,rI 0),(6,rI w),(7,.own 5007 u),(10,qa a),(11,rI w),(12,rI w),(13,rB<|(!(w=0)))]) (h':=[(5007,some<|.arr u 51 3<|([]:List AD).map AD.row)]) ⟨jL,jL,jL,jL,jL,jL,jL,jL,jL,jL,Za⟩ ⟨.inl R,Za⟩ nL) wk) ?_
 intro O q j v1 Y E
 have h4:Gt a O q=some v1:=Y;unfold Gt at h4
 refine aT λc9=>aU<|mM R<|sQ R (Ds R iL iL)<|aZ<|cI R h4 (λZ=>?_) λZ=>?_
 ·refine Zd<|c9 _<|Zf<|aU<|mM R<|DQ Z λC r2 a0 h6=>cL (Vl<|a0) R<|mM R<|xX R<|xX R<|mA R<|mA R<|aZ<|aT λa1=>aU<|mM R<|xQ R<|mM R<|vM R<|vQ R (Aq R (iR R) iL)<|xN R<|aZ<|cI R h6 (λh7=>?_) λh7=>?_
  ·refine aT λa2=>aF [] ?_
   refine aR<|mA R<|mA R<|oZ a2 ?_
   exact Zj<|ZM (s':=⟨[(4,.own 1000<|j 1),(5,rI 10)],[(1000,some<|.arr (j 1) 51 3<|([]:List AD).map AD.row)],((j 1)+1),44⟩) (Zm (Zm (ZR 4 1000 51 3 (by decide) R)<|by exact ZC (e':=[(4,.own 1000<|j 1),(5,rI 10)]) (h':=[(1000,some<|.arr (j 1) 51 3<|([]:List AD).map AD.row)]) ⟨jL,jL,Za⟩ ⟨.inl R,Za⟩ nL) wk)<|B8 (λ(r:Int × (List AD)) B h'=>∃(i:Nat→Nat),B=.tup [.own 1000<|i 0,rI r.1]∧h'=[(1000,some<|.arr (i 0) 51 3<|r.2.map AD.row)]) (J _<|xH E h7)<|by exact⟨.tup [.own 1000<|j 1,rI 10],[(1000,some<|.arr (j 1) 51 3<|([]:List AD).map AD.row)],⟨_,R,⟨R,R,Za⟩⟩,⟨.inr R,Za⟩,R,R,AH [(j 1)],R,R⟩
  refine Zd<|a1 _<|aT λa6=>aT λa7=>aG [0,1,7,8,9] [5007] ?_
  refine aR<|mM R<|sQ R (D2 R underlying21 underlying3 iL)<|AG h7 λr3 a8 h8=>cL (YA<|a8) R<|sQ R (A0 R iL)<|aZ<|a7 _<|cI R h8 (λh9=>?_) λh9=>?_
  ·refine aT λaa=>aF [] ?_
   refine aR<|mA R<|mA R<|oZ aa ?_
   exact Zj<|ZM (s':=⟨[(4,.own 1000<|j 1),(5,rI 2)],[(1000,some<|.arr (j 1) 51 3<|([]:List AD).map AD.row)],((j 1)+1),44⟩) (Zm (Zm (ZR 4 1000 51 3 (by decide) R)<|by exact ZC (e':=[(4,.own 1000<|j 1),(5,rI 2)]) (h':=[(1000,some<|.arr (j 1) 51 3<|([]:List AD).map AD.row)]) ⟨jL,jL,Za⟩ ⟨.inl R,Za⟩ nL) wk)<|B8 (λ(r:Int × (List AD)) B h'=>∃(i:Nat→Nat),B=.tup [.own 1000<|i 0,rI r.1]∧h'=[(1000,some<|.arr (i 0) 51 3<|r.2.map AD.row)]) (J _<|xH E h9)<|by exact⟨.tup [.own 1000<|j 1,rI 2],[(1000,some<|.arr (j 1) 51 3<|([]:List AD).map AD.row)],⟨_,R,⟨R,R,Za⟩⟩,⟨.inr R,Za⟩,R,R,AH [(j 1)],R,R⟩
  refine Zd<|a6 _<|aT λab=>aR<|mM R<|mM R<|sQ R (D2 R underlying21 underlying3 iL)<|mM R<|AG h9 λl1 ac ad=>sS R (Sm 36 (f:=AC.row) R Ac iL (.inl ⟨iL,λ_=>R⟩) ac) ?_
  refine sQ R (Bg R KZ (q:=[(0,_),(2,_)]) (by exact⟨R,R,R,iL,R,R,R,iL,Za⟩) (cs:=[rI<|(IntKind.i64.wrap C),rI 0,.own 36<|j 1])<|by rfl) ?_
  refine AN.weak (by exact Ak.frz (e':=[(0,rS O),(1,qa a),(7,.own 5007<|j 0),(8,.r<|.int .i32 C),(9,rI r2),(28,.r<|.int .i32 C),(29,rI<|(IntKind.i64.wrap C)),(30,rB r3),(31,rB<|(!r3)),(32,.own 5007<|j 0),(33,.r<|.int .i32 C),(34,rI<|(IntKind.i64.wrap C)),(35,qa a),(36,qa l1),(37,.agg [rI<|(IntKind.i64.wrap C),rI 0,qa l1])]) (h':=[(5007,some<|.arr (j 0) 51 3<|q.map AD.row)]) 36 R ⟨jL,jL,jL,jL,jL,jL,jL,jL,jL,jL,jL,jL,jL,.inl<|.inr<|.inr ⟨R,R⟩,.inr ⟨_,_,R,R,⟨.inl R,.inl R,.inr<|.inr ⟨R,R⟩,Za⟩⟩,Za⟩ ⟨R,.inl R,Za⟩) ?_
  refine sS R (Bw 38 R Ah (f:=AD.row) (l:=([(AD.mk (IntKind.i64.wrap C) 0 l1)]:List AD)) ⟨R,⟨_,iL,R⟩,Za⟩ R (λ_=>R) R)<|AG ad λah F ae=>sS R (Ca R Ah iL R (.inr<|.inl ⟨_,_,iL,R⟩) F)<|mA R<|aZ<|ab _<|aG [0,1,7,9] [5007] ?_
  refine aR<|mM R<|mM R<|AG ae λs5 af ag=>?_
  refine sQ R (LT R underlying9 iL (by exact⟨_,iL⟩) (by exact R) λ_=>af) ?_
  exact mA R<|Zh<|ZH ag (AH [((j 1)+2),((j 1)+3)]) wk
 exact Zn<|V _ _ wk<|J1 _ (AH [(j 0),(j 1)])<|xH E Z
theorem eZ{l r}(h:Lh l=some r):AO prog 71 [qa l] (rI r):=by
 unfold Lh at h
 exact mF func71 ntmps71 R λu=>aU<|mA R<|aZ<|aU<|mM R<|AG h λw j q=>cL (gD<|j) R<|mA R<|aZ<|Zj<|yI q R
theorem oW{f1 r}(h:Qq f1=some r):AO prog 65 [qb f1] (rI r):=by
 unfold Qq at h
 refine mF func65 ntmps65 R λY=>aU<|mA R<|aZ<|aS λZ c2 u=>aU<|mM R<|xL Ah R<|mM R<|aZ<|Zf<|BI h λo1 j w A=>?_
 have J1:∀(T:Unit) (U:NN),o1=.nrm T→Z ⟨[],[],(U 0),18⟩:=by
  intro T U e
  have h1:=w _ e
  exact c2 _<|zI h1 R id
 refine Zz (λ(B:Int) q=>⟨[(6,qb f1),(7,rL f1),(8,rI B)],[],(q 0),18⟩) (AH [Y]) j wk ?_
 intro B q v1 C l
 have V:Qw f1 B=some v1:=C;unfold Qw at V
 refine aU<|xS R<|aZ<|aT λc6=>cI R V (λE=>?_) λE=>?_
 ·refine Zd<|c6 _<|aT λc7=>Zf<|aU<|AG E λX F h4=>xI Ah R F<|xB ((Ad X)) Cj R<|sS R (BB (cs:=Eo) 4 R Ee R R)<|Zk R R (Af (ds:=(Ad X)) R DT iL R iL R R R R)<|aZ<|aU<|xC Cj R<|AG h4 λe1 I h5=>cL (Zv<|I) R<|mA R<|aZ<|aU<|mM R<|xU R<|aZ<|cI R h5 (λJ=>?_) λJ=>?_
  ·refine aT λM=>aF [5] ?_
   exact aR<|mM R<|mA R<|aZ<|M _<|Zj<|yI (A _<|xH l J) R
  refine Zd<|c7 _<|aF [6,7,8] ?_
  exact aR<|AG J λx5 O h7=>xA R O<|mM R<|Zh<|Zx h7 (AH [((q 0)+1)]) wk
 exact Zn<|u _ _ wk<|J1 _ (AH [(q 0)])<|xH l E
theorem ga{q r}(h:MZ q=some r):AO prog 165 (Rm q) (rI r):=by
 unfold MZ at h
 refine mF func165 ntmps165 R λA=>aU<|sS R (Ay (cs:=(Bq q)) 1 R iL R R)<|mA R<|aZ<|aT λc2=>aU<|lF CG AJ R R<|aZ<|Zf<|aS λK4 c4 u=>aU<|xQ R<|mA R<|aZ<|A3 h λp1 w B=>?_
 have J1:∀(C:Bool) (i1:NN),p1=C→K4 ⟨[(1,.ptr 1 A 0 0),(4,rI q.Kind),(5,rB C)],[(1,some<|.box A 100<|Bq q)],(i1 0),52⟩:=by
  intro C i1 e
  have h1:=B _ e
  refine c4 _<|cI R h1 (λE=>?_) λE=>?_
  ·refine aT λc6=>aU<|lF EK B2 R R<|xL Ah R<|sQ R (BD R iL iL)<|mM R<|vF CG AJ R R<|vQ R (Aq R (iR R) iL)<|vQ R (AK R<|iR R)<|wQ R (fB R Dt iL fR R)<|wQ R (AZ (a:=qa q.Attrs) R BA (iR R) R R)<|wQ R (Bu R Ac.slice<|iR R)<|wQ R (BD R (iR R) iL)<|vQ R (BP R (iR R)<|iR R)<|xO R<|aZ<|cI R E (λF=>?_) λF=>?_
   ·exact zI F R id
   refine Zd<|c6 _<|aT λc9=>aT λI=>aG [1] [1] ?_
   refine aR<|lF EM AJ R R<|xS R<|mM R<|vF EM AJ R R<|vQ R (BD R (iR R) iL)<|xO R<|aZ<|I _<|cI R F (λJ=>?_) λJ=>?_
   ·exact zI J R id
   exact Zd<|c9 _<|aU<|lF Dt BA R R<|AG J λr1 M h5=>cL (eZ<|M) R<|mA R<|aZ<|Zj<|yI h5 R
  refine aU<|xQ R<|mA R<|aZ<|cI R E (λO=>?_) λO=>?_
  ·refine aT λT=>aU<|lF EM AJ R R<|xU R<|mM R<|vF Dt BA R R<|vQ R (Bu R Ac.slice<|iR R)<|vQ R (BD R (iR R) iL)<|xO R<|aZ<|cI R O (λU=>?_) λU=>?_
   ·exact zI U R id
   refine Zd<|T _<|aT λV=>aT λX=>aG [1] [1] ?_
   refine aR<|lF EK B2 R R<|xL Ah R<|xQ R<|aZ<|X _<|cI R U (λY=>?_) λY=>?_
   ·exact zI Y R id
   exact Zd<|V _<|aU<|lF EK B2 R R<|AG Y λr2 Z h9=>cL (oW<|Z) R<|mA R<|aZ<|Zj<|yI h9 R
  exact Zd<|c2 _<|zI O R id
 refine aC R (λj=>?_) λj=>?_
 ·have l:=Br j w
  exact Zd<|u _ _ wk<|J1 _ (AH [(A+1)]) (Zb l).symm
 ·have l:=Bt j w
  exact aR<|xQ R<|mA R<|Zh<|u _ _ wk<|J1 _ (AH [(A+1)]) (Zb l).symm
theorem Y3{q:Ae}{r:Ae}{j:Nat}{l:Nat}{u:Nat}(h:Mb q=some r):BY prog 187 3 [.ptr 1000 j 0 0] [(1000,some<|.box j 193 [.own 1001 l,.own 1002 u,rI q.cut]),(1001,some<|.arr l 100 4<|q.out.map AI.row),(1002,some<|.arr u 51 3<|q.add.map AD.row)] (λU h'=>∃(i:Nat→Nat),U=.tup []∧h'=[(1000,some<|.box j 193 [.own 1001<|i 0,cZ,rI r.cut]),(1001,some<|.arr (i 0) 100 4<|r.out.map AI.row)]):=by
 unfold Mb at h
 refine Dq func187 R R ntmps187 (Zw R) λT=>aS λK1 c1 I=>aU<|mM R<|sQ R (B1 (ob:=.box _ _ _) R iL fR R)<|lF Ov B2 R R<|sQ R (LK R Ah.slice iL R)<|sQ R (BD R iL iL)<|aZ<|A3 h λp1 J V=>?_
 have J1:∀(A:Ae) (B:NN),p1=A→K1 ⟨[(0,.ptr 1000 j 0 0)],[(1000,some<|.box j 193 [.own 1001<|B 0,qb A.add,rI A.cut]),(1001,some<|.arr (B 0) 100 4<|A.out.map AI.row)],(B 1),47⟩:=by
  intro A B e
  have h1:=V _ e
  refine c1 _<|aS λK3 c3 M=>aU<|mM R<|sQ R (B1 (ob:=.box _ _ _) R iL fR R)<|lF Ft AJ R R<|sQ R (BD R iL iL)<|aZ<|A3 h1 λp2 O X=>?_
  have J2:∀(C:Ae) (w:NN),p2=C→K3 ⟨[(0,.ptr 1000 j 0 0)],[(1000,some<|.box j 193 [.own 1001<|w 0,qb C.add,rI C.cut]),(1001,some<|.arr (w 0) 100 4<|C.out.map AI.row)],(w 1),47⟩:=by
   intro C w e
   have h2:=X _ e
   refine c3 _<|aR<|mM R<|mM R<|sQ R (B1 (ob:=.box _ _ _) R iL fR R)<|sQ R (fB R Ov iL fR R)<|Zk R R (Af (ds:=[.own 1001<|w 0,cZ,rI C.cut]) R S8 iL R iL R R R R)<|sQ R (B1 (ob:=.box _ _ _) R iL fR R)<|sQ R (fB R Ft iL fR R)<|Zk R R (Af (ds:=[.own 1001<|w 0,cZ,rI 0]) R G7 iL R iL R R R R)<|Zh ?_
   exact ZM (s':=⟨[],[(1000,some<|.box j 193 [.own 1001<|w 0,cZ,rI 0]),(1001,some<|.arr (w 0) 100 4<|C.out.map AI.row)],(w 1),47⟩) wk<|B8 (λ(r:Ae) U h'=>∃(i:Nat→Nat),U=.tup []∧h'=[(1000,some<|.box j 193 [.own 1001<|i 0,cZ,rI r.cut]),(1001,some<|.arr (i 0) 100 4<|r.out.map AI.row)]) h2<|by exact⟨.tup [],[(1000,some<|.box j 193 [.own 1001<|w 0,cZ,rI 0]),(1001,some<|.arr (w 0) 100 4<|C.out.map AI.row)],⟨_,R,Za⟩,⟨.inr R,.inr R,Za⟩,R,R,AH [(w 0)],R,R⟩
  refine aC R (λE=>?_) λE=>?_
  ·have Y:=Br E O
   refine iq [0] [1,2,3,4,5,6,7,8,9] [10] 11 BJ (by kernel_rfl) R R R R R ?_
   refine G8.move R R R R<|G8.nil<|AF.step R R R (AK R iL)<|AF.step R R R (B1 (ob:=.box _ _ _) R iL fR R)<|AF.step R R R (fB R GP iL fR R)<|AF.step R R R (AZ (a:=.own 1001<|B 0) R EE iL R R)<|AF.step R R R (AK R iL)<|AF.step R R R (B1 (ob:=.box _ _ _) R iL fR R)<|AF.step R R R (fB R Ft iL fR R)<|AF.step R R R (AZ (a:=rI A.cut) R AJ iL R R) ?_
   refine AF.step R R R (Bg R Kb (q:=[(0,_),(1,_)]) (by exact⟨R,R,R,iL,R,R,R,iL,Za⟩) (cs:=[rI 2,rI A.cut,cZ,cZ])<|by rfl) ?_
   exact AF.nil<|AA.step R R R (iK 37 R Bx (f:=AI.row) (l:=([(AI.mk 2 A.cut [] [])]:List AI)) ⟨R,⟨_,iL,R⟩,Za⟩ R (λ_=>R) R)<|AA.nil<|AG Y λl1 Z h4=>AN.step R R R (Ca R Bx iL R (.inr<|.inl ⟨_,_,iL,R⟩) Z)<|sQ R (B1 (ob:=.box _ _ _) R iL fR R)<|sQ R (fB R GP iL fR R)<|Zk R R (Af (ds:=[.own 1001<|(B 1)+1,qb A.add,rI A.cut]) R SS iL R iL R R R R)<|Zh<|M _ _ wk<|J2 _ (AH [((B 1)+1),((B 1)+2)]) (Zb h4).symm
  ·have Y:=Bt E O
   exact Zd<|M _ _ wk<|J2 _ (AH [(B 0),(B 1)]) (Zb Y).symm
 refine aC R (λF=>?_) λF=>?_
 ·have h5:=Br F J
  refine AW.weak (by exact Ak.frz (e':=[(0,.ptr 1000 j 0 0),(2,.ptr 1000 j 0 0),(3,.ptr 1000 j 0 0),(4,.ptr 1000 j 0 1),(5,qb q.add),(6,rL q.add),(7,rB<|(decide<|0<(q.add.length:Int)))]) (h':=[(1000,some<|.box j 193 [.own 1001 l,qb q.add,rI q.cut]),(1001,some<|.arr l 100 4<|q.out.map AI.row)]) 1002 R ⟨jL,jL,jL,jL,.inl<|.inr<|.inr ⟨R,R⟩,jL,jL,Za⟩ ⟨R,.inr<|.inr<|.inl ⟨_,_,_,_,R,R,⟨.inl R,.inr<|.inr ⟨R,R⟩,.inl R,Za⟩⟩,R,.inl R,Za⟩) ?_
  refine iq [0] [1,2,3,4,5,6,7,8,9] [10] 11 BJ (by kernel_rfl) R R R R R ?_
  refine G8.move R R R R<|G8.nil<|AF.step R R R (AK R iL)<|AF.step R R R (B1 (ob:=.box _ _ _) R iL fR R)<|AF.step R R R (fB R GP iL fR R)<|AF.step R R R (AZ (a:=.own 1001 l) R EE iL R R)<|AF.step R R R (AK R iL)<|AF.step R R R (B1 (ob:=.box _ _ _) R iL fR R)<|AF.step R R R (fB R Ov iL fR R)<|AF.step R R R (AZ (a:=qb q.add) R B2 iL R R) ?_
  refine AF.step R R R (Bg R Kb (q:=[(0,_),(3,_)]) (by exact⟨R,R,R,iL,R,R,R,iL,Za⟩) (cs:=[rI 1,rI 0,cZ,qb q.add])<|by rfl) ?_
  exact AF.nil<|AA.step R R R (iK 18 R Bx (f:=AI.row) (l:=([(AI.mk 1 0 [] q.add)]:List AI)) ⟨R,⟨_,iL,R⟩,Za⟩ R (λ_=>R) R)<|AA.nil<|AG h5 λl2 a0 h6=>AN.step R R R (Ca R Bx iL R (.inr<|.inl ⟨_,_,iL,R⟩) a0)<|sQ R (B1 (ob:=.box _ _ _) R iL fR R)<|sQ R (fB R GP iL fR R)<|Zk R R (Af (ds:=[.own 1001<|T+1,qb q.add,rI q.cut]) R SS iL R iL R R R R)<|Zh<|I _ _ wk<|J1 _ (AH [(T+1),(T+2)]) (Zb h6).symm
 ·have h5:=Bt F J
  refine Zd ?_
  exact I _ _ (Zm (by exact Ak.frz (e':=[(0,.ptr 1000 j 0 0),(2,.ptr 1000 j 0 0),(3,.ptr 1000 j 0 0),(4,.ptr 1000 j 0 1),(5,qb q.add),(6,rL q.add),(7,rB<|(decide<|0<(q.add.length:Int)))]) (h':=[(1000,some<|.box j 193 [.own 1001 l,qb q.add,rI q.cut]),(1001,some<|.arr l 100 4<|q.out.map AI.row)]) 1002 R ⟨jL,jL,jL,jL,.inl<|.inr<|.inr ⟨R,R⟩,jL,jL,Za⟩ ⟨R,.inr<|.inr<|.inl ⟨_,_,_,_,R,R,⟨.inl R,.inr<|.inr ⟨R,R⟩,.inl R,Za⟩⟩,R,.inl R,Za⟩) wk)<|J1 _ (AH [l,T]) (Zb h5).symm
theorem Mn{E:Ae}{n1:Int}{u:List AC}{r:Ae}{j:Nat}{l:Nat}{q:Nat}(h:Gu E n1 u=some r):BY prog 153 3 [.ptr 1000 j 0 0,rI n1,qa u] [(1000,some<|.box j 193 [.own 1001 l,.own 1002 q,rI E.cut]),(1001,some<|.arr l 100 4<|E.out.map AI.row),(1002,some<|.arr q 51 3<|E.add.map AD.row)] (λT h'=>∃(i:Nat→Nat),T=.tup []∧h'=[(1000,some<|.box j 193 [.own 1001<|i 0,.own 1002<|i 1,rI r.cut]),(1001,some<|.arr (i 0) 100 4<|r.out.map AI.row),(1002,some<|.arr (i 1) 51 3<|r.add.map AD.row)]):=by
 unfold Gu at h
 refine Dq func153 R R ntmps153 (Zw R) λn0=>aT λc1=>aU<|mM R<|xQ R<|aZ<|cI R h (λZ=>?_) λZ=>?_
 ·exact Zj<|ZM (s':=⟨[],[(1000,some<|.box j 193 [.own 1001 l,.own 1002 q,rI E.cut]),(1001,some<|.arr l 100 4<|E.out.map AI.row),(1002,some<|.arr q 51 3<|E.add.map AD.row)],n0,67⟩) wk<|B8 (λ(r:Ae) T h'=>∃(i:Nat→Nat),T=.tup []∧h'=[(1000,some<|.box j 193 [.own 1001<|i 0,.own 1002<|i 1,rI r.cut]),(1001,some<|.arr (i 0) 100 4<|r.out.map AI.row),(1002,some<|.arr (i 1) 51 3<|r.add.map AD.row)]) Z<|by exact⟨.tup [],[(1000,some<|.box j 193 [.own 1001 l,.own 1002 q,rI E.cut]),(1001,some<|.arr l 100 4<|E.out.map AI.row),(1002,some<|.arr q 51 3<|E.add.map AD.row)],⟨_,R,Za⟩,⟨.inr R,.inr R,.inr R,Za⟩,R,R,AH [l,q],R,R⟩
 refine Zd<|c1 _<|aT λc3=>aR<|mM R<|AG Z λB a0 h2=>?_
 refine Zo [1000,1001,1002] (hc:=[(1000,some<|.box j 193 [.own 1001 l,.own 1002 q,rI E.cut]),(1001,some<|.arr l 100 4<|E.out.map AI.row),(1002,some<|.arr q 51 3<|E.add.map AD.row)]) (bs:=[.ptr 1000 j 0 0]) (caps:=[]) R R R R iL R ⟨.inl ⟨iL,R⟩,Za⟩ ⟨R,R,R,R,R,R,R,R,R,Za⟩ (by decide) (Y3 a0) ?_
 intro A M
 refine A7 [0,1,2,7,8,9,10] [1000,1001] ?_
 refine aZ<|c3 _<|aT λc4=>aU<|mM R<|sQ R (B1 (ob:=.box _ _ _) R iL fR R)<|lF GP EE R R<|sQ R (LK R Bx.slice iL R)<|AG h2 λI a1 h3=>sQ R (CF R iL iL λ_=>a1)<|mA R<|aZ<|aT λc6=>aG [0,1,2,6] [1000,1001] ?_
 refine aR<|mM R<|sQ R (Cs R iL iL)<|mM R<|vM R<|vQ R (B1 (ob:=.box _ _ _) R (iR R) fR R)<|vQ R (fB R GP (iR R) fR R)<|vQ R (AZ (a:=.own 1001<|A 0) R EE (iR R) R R)<|vM R<|AG h3 λx1 U h4=>vQ R (Em R Bx.slice (iR R) R (iR R)<|AP U)<|vQ R (Fg (ob:=.arr _ _ _ _) R CG (iR R) fR R)<|vQ R (Ju (d:=.int .i64 x1.Kind) R AJ (iR R) fR (AP U) R)<|vQ R (Aq R (iR R) iL)<|xN R<|mM R<|vM R<|vQ R (B1 (ob:=.box _ _ _) R (iR R) fR R)<|vQ R (fB R GP (iR R) fR R)<|vQ R (AZ (a:=.own 1001<|A 0) R EE (iR R) R R)<|vM R<|AG h4 λx2 V h5=>vQ R (Em R Bx.slice (iR R) R (iR R)<|AP V)<|vQ R (Fg (ob:=.arr _ _ _ _) R Dt (iR R) fR R)<|vQ R (Ju (d:=.sl<|x2.Attrs.map AC.row) R BA (iR R) fR (AP V) R)<|vM R<|AG h5 λr1 a2 h6=>vL (λhg=>Vi<|AP a2 hg) R<|xN R<|aZ<|c6 _<|cI R h6 (λh7=>?_) λh7=>?_
 ·refine aT λc7=>aG [0,1,6] [1000,1001] ?_
  refine aR<|mM R<|sQ R (B1 (ob:=.box _ _ _) R iL fR R)<|lF GP EE R R<|mM R<|AG h7 λC J h8=>sQ R (Em R Bx.slice iL R iL λ_=>J)<|sQ R (Fg (ob:=.arr _ _ _ _) R EM iL fR R)<|sQ R (Ju (d:=.int .i64 C.N) R AJ iL fR (λ_=>J) R)<|mM R<|AG h8 λX a6 h9=>xA R a6<|sQ R (Em R Bx.slice iL R iL λ_=>J)<|sQ R (Fg (ob:=.arr _ _ _ _) R EM iL fR R)<|Zk R R (Kw (v:=(AI.mk C.Kind X C.Attrs C.Elems)) R G7 iL R J iL R R R R)<|oZ c7 ?_
  exact Zj<|ZM (s':=⟨[],[(1000,some<|.box j 193 [.own 1001<|A 0,.own 1002 M,rI B.cut]),(1001,some<|.arr (A 0) 100 4<|(B.out.set I.toNat<|AI.mk C.Kind X C.Attrs C.Elems).map AI.row),(1002,some<|.arr M 51 3<|([]:List AD).map AD.row)],(M+1),67⟩) (Zm (Zm (FB 1000 1 1002 51 3 (by decide) R R<|by decide)<|by exact ZC (e':=[(0,.ptr 1000 j 0 0),(1,rI n1),(6,rI I),(42,.ptr 1000 j 0 0),(43,.ptr 1000 j 0 0),(44,.ptr 1000 j 0 0),(45,.own 1001<|A 0),(46,rI I),(47,.ptr 1001 (A 0) I.toNat 0),(48,.ptr 1001 (A 0) I.toNat 1),(49,rI C.N),(50,rI n1),(51,rI X),(52,.ptr 1001 (A 0) I.toNat 0),(53,.ptr 1001 (A 0) I.toNat 1)]) (h':=[(1000,some<|.box j 193 [.own 1001<|A 0,.own 1002 M,rI B.cut]),(1001,some<|.arr (A 0) 100 4<|(B.out.set I.toNat<|AI.mk C.Kind X C.Attrs C.Elems).map AI.row),(1002,some<|.arr M 51 3<|([]:List AD).map AD.row)]) ⟨jL,jL,jL,jL,jL,jL,jL,jL,jL,jL,jL,jL,jL,jL,jL,Za⟩ ⟨.inl R,.inl R,.inl R,Za⟩ nL) wk)<|B8 (λ(r:Ae) T h'=>∃(i:Nat→Nat),T=.tup []∧h'=[(1000,some<|.box j 193 [.own 1001<|i 0,.own 1002<|i 1,rI r.cut]),(1001,some<|.arr (i 0) 100 4<|r.out.map AI.row),(1002,some<|.arr (i 1) 51 3<|r.add.map AD.row)]) h9<|by exact⟨.tup [],[(1000,some<|.box j 193 [.own 1001<|A 0,.own 1002 M,rI B.cut]),(1001,some<|.arr (A 0) 100 4<|(B.out.set I.toNat<|AI.mk C.Kind X C.Attrs C.Elems).map AI.row),(1002,some<|.arr M 51 3<|([]:List AD).map AD.row)],⟨_,R,Za⟩,⟨.inr R,.inr R,.inr R,Za⟩,R,R,AH [(A 0),M],R,R⟩
 refine Zd<|c4 _<|aG [0,1,2] [1000,1001] ?_
 refine AG h7 λF a7 a8=>AG a8 λY aa ab=>?_
 refine JC 11 [pO 54<|.ptr 1000 j 0 0,pO 55<|.ptr 1000 j 0 0,pO 56<|.ptr 1000 j 0 0,pO 57<|.ptr 1000 j 0 0,pO 58<|.own 1001<|A 0,pO 59<|rI n1,pO 60<|qa u,⟨some 61,(λ_=>qa F),some (61,(λ_=>none)),[]⟩,pO 62<|.agg [rI 0,rI n1,qa F,cZ],⟨some 63,(λw=>.own 63<|w 9),some (63,(λw=>some<|.arr (w 9) 100 4<|[(AI.mk 0 n1 F [])].map AI.row)),[9]⟩,⟨some 64,(λw=>.own 1001<|w 10),some (1001,(λw=>some<|.arr (w 10) 100 4<|Y.map AI.row)),[10]⟩] BJ (by kernel_rfl) (by exact⟨λ_ _ h=>⟨R,λ_ _ e=>by cases e⟩,λ_ _ h=>⟨R,λ_ _ e=>by cases e⟩,λ_ _ h=>⟨R,λ_ _ e=>by cases e⟩,λ_ _ h=>⟨R,λ_ _ e=>by cases e⟩,λ_ _ h=>⟨R,λ_ _ e=>by cases e⟩,λ_ _ h=>⟨R,λ_ _ e=>by cases e⟩,λ_ _ h=>⟨R,λ_ _ e=>by cases e⟩,λ_ _ h=>⟨R,λ_ _ e=>by cases e;rfl⟩,λ_ _ h=>⟨R,λ_ _ e=>by cases e⟩,λ_ _ h=>⟨by simp only[h 9 R],λ_ _ e=>by cases e;simp only[h 9 R]⟩,λ_ _ h=>⟨by simp only[h 10 R],λ_ _ e=>by cases e;simp only[h 10 R]⟩,Za⟩) R (by exact⟨oB [(0,.ptr 1000 j 0 0)] [(1000,some<|.box j 193 [.own 1001<|A 0,cZ,rI B.cut])]<|AK R<|.inl R,oB [(0,.ptr 1000 j 0 0)] [(1000,some<|.box j 193 [.own 1001<|A 0,cZ,rI B.cut])]<|AK R<|.inl R,oB [(55,.ptr 1000 j 0 0)] [(1000,some<|.box j 193 [.own 1001<|A 0,cZ,rI B.cut])]<|B1 (ob:=.box _ _ _) R (.inl R) (λ_=>R) R,oB [(56,.ptr 1000 j 0 0)] [(1000,some<|.box j 193 [.own 1001<|A 0,cZ,rI B.cut])]<|fB R GP (.inl R) (λ_=>R) R,oB [(57,.ptr 1000 j 0 0)] [(1000,some<|.box j 193 [.own 1001<|A 0,cZ,rI B.cut])]<|AZ (a:=.own 1001<|A 0) R EE (.inl R) R R,oB [(1,rI n1)] []<|AK R<|.inl R,oB [(2,qa u)] []<|AK R<|.inl R,Ye R R (by intro d h;cases h;rfl) R (λ_=>[(60,qa u)]) (λ_=>[]) (λD w hr=>⟨PK hr 6 R R (by kernel_rfl) R R,Za⟩) (λD w hr=>Za) λw e h' n=>GJ.frz<|BV.toN<|Sm 61 (f:=AC.row) R Ac (.inl R) (.inl ⟨(.inl R),λ_=>R⟩) a7,oB [(59,rI n1),(61,qa F)] []<|Bg R Kb (q:=[(0,_),(1,_),(2,_)]) (by exact⟨R,R,R,(.inl R),R,R,R,(.inl R),R,R,R,(.inl R),Za⟩) (cs:=[rI 0,rI n1,qa F,cZ])<|by rfl,oM (λ_=>[(62,.agg [rI 0,rI n1,qa F,cZ])]) (λ_=>[]) R λw e h' n=>Bw 63 R Bx (f:=AI.row) (l:=([(AI.mk 0 n1 F [])]:List AI)) ⟨R,⟨_,(.inl R),R⟩,Za⟩ R (λ_=>R) R,oM (λw=>[(58,.own 1001<|A 0),(63,.own 63<|w 9)]) (λw=>[(63,some<|.arr (w 9) 100 4<|[(AI.mk 0 n1 F [])].map AI.row),(1001,some<|.arr (A 0) 100 4<|B.out.map AI.row)]) R λw e h' n=>Ca R Bx (.inl R) R (.inr<|.inl ⟨_,_,(.inl R),R⟩) aa,Za⟩) λw O=>?_
 refine A7 [0,1,2,54,55,56,57,59,60,61,62,63,64] [63,1000,1001] ?_
 refine sQ R (B1 (ob:=.box _ _ _) R iL fR R)<|sQ R (fB R GP iL fR R)<|Zk R R (Af (ds:=[.own 1001<|w 10,cZ,rI B.cut]) R SS iL R iL R R R R)<|Zh ?_
 exact ZM (s':=⟨[],[(1000,some<|.box j 193 [.own 1001<|w 10,.own 1002 O,rI B.cut]),(1001,some<|.arr (w 10) 100 4<|Y.map AI.row),(1002,some<|.arr O 51 3<|([]:List AD).map AD.row)],(O+1),67⟩) (Zm (Zm (FB 1000 1 1002 51 3 (by decide) R R<|by decide)<|by exact ZC (e':=[(0,.ptr 1000 j 0 0),(1,rI n1),(2,qa u),(54,.ptr 1000 j 0 0),(55,.ptr 1000 j 0 0),(56,.ptr 1000 j 0 0),(57,.ptr 1000 j 0 0),(59,rI n1),(60,qa u),(61,qa F),(62,.agg [rI 0,rI n1,qa F,cZ]),(63,.own 63<|w 9),(64,.own 1001<|w 10),(65,.ptr 1000 j 0 0),(66,.ptr 1000 j 0 0)]) (h':=[(63,some<|.arr (w 9) 100 4<|[(AI.mk 0 n1 F [])].map AI.row),(1000,some<|.box j 193 [.own 1001<|w 10,.own 1002 O,rI B.cut]),(1001,some<|.arr (w 10) 100 4<|Y.map AI.row),(1002,some<|.arr O 51 3<|([]:List AD).map AD.row)]) ⟨jL,jL,jL,jL,jL,jL,jL,jL,jL,jL,jL,jL,jL,jL,jL,Za⟩ ⟨.inl R,.inl R,.inl R,.inl R,Za⟩ nL) wk)<|B8 (λ(r:Ae) T h'=>∃(i:Nat→Nat),T=.tup []∧h'=[(1000,some<|.box j 193 [.own 1001<|i 0,.own 1002<|i 1,rI r.cut]),(1001,some<|.arr (i 0) 100 4<|r.out.map AI.row),(1002,some<|.arr (i 1) 51 3<|r.add.map AD.row)]) ab<|by exact⟨.tup [],[(1000,some<|.box j 193 [.own 1001<|w 10,.own 1002 O,rI B.cut]),(1001,some<|.arr (w 10) 100 4<|Y.map AI.row),(1002,some<|.arr O 51 3<|([]:List AD).map AD.row)],⟨_,R,Za⟩,⟨.inr R,.inr R,.inr R,Za⟩,R,R,AH [(w 10),O],R,R⟩
theorem nS{f1 r}(h:QU f1=some r):AO prog 66 [qb f1] (qb r):=by
 unfold QU at h
 refine mF func66 ntmps66 R λZ=>aU<|mA R<|aZ<|aU<|mM R<|xL Ah R<|AG h λa0 B h1=>sS R (UU 8 R Ah (f:=AD.row) (z0:=(AD.mk 0 0 [])) WG iL iL B)<|mA R<|aZ<|aS λK3 c3 J=>aU<|mM R<|xL Ah R<|mM R<|aZ<|Zf<|A3 h1 λo1 C M=>?_
 have J1:∀(w:List AD) (I:NN),o1=w→K3 ⟨[(3,.own 8<|I 0)],[(8,some<|.arr (I 0) 51 3<|w.map AD.row)],(I 1),29⟩:=by
  intro w I e
  have h2:=M _ e
  exact c3 _<|aU<|mM R<|mA R<|aZ<|Zj<|Cz (P:=prog) (λ(r:(List AD))=>qb r) h2 iL<|.t<|.one<|.own R
 refine ZL (λ(A:Int) (q:List AD) j=>⟨[(3,.own 8<|j 0),(9,qb f1),(10,rL f1),(11,rI A)],[(8,some<|.arr (j 0) 51 3<|q.map AD.row)],(j 1),29⟩) (AH [Z,(Z+1)]) C wk ?_
 intro A q j v1 O T
 have h3:JP f1 A q=some v1:=O;unfold JP at h3
 refine aU<|xS R<|aZ<|aT λc7=>cI R h3 (λU=>?_) λU=>?_
 ·refine Zd<|c7 _<|aT λc8=>Zf<|aU<|mM R<|AG U λl V h5=>xI Ah R V<|xB ((Ad l)) Cj R<|sS R (BB (cs:=Eo) 5 R Ee R R)<|mA R<|Zk R R (Af (ds:=(Ad l)) R DT iL R iL R R R R)<|aZ<|AG h5 λE X h6=>?_
  refine JC 10 [pO 16<|.own 8<|j 0,pO 17<|rI A,pO 18<|.ptr 5 (j 1) 0 0,pO 19<|rI l.Char,pO 20<|.ptr 5 (j 1) 0 1,pO 21<|rI l.Ref,pO 22<|.ptr 5 (j 1) 0 2,pO 23<|qa l.Attrs,⟨some 24,(λu=>.own 24<|u 8),some (24,(λu=>some<|.arr (u 8) 58 2<|E.map AC.row)),[8]⟩,⟨some 25,(λu=>.agg [rI l.Char,rI l.Ref,.own 24<|u 8]),none,[8]⟩] BJ (by kernel_rfl) (by exact⟨λ_ _ h=>⟨R,λ_ _ e=>by cases e⟩,λ_ _ h=>⟨R,λ_ _ e=>by cases e⟩,λ_ _ h=>⟨R,λ_ _ e=>by cases e⟩,λ_ _ h=>⟨R,λ_ _ e=>by cases e⟩,λ_ _ h=>⟨R,λ_ _ e=>by cases e⟩,λ_ _ h=>⟨R,λ_ _ e=>by cases e⟩,λ_ _ h=>⟨R,λ_ _ e=>by cases e⟩,λ_ _ h=>⟨R,λ_ _ e=>by cases e⟩,λ_ _ h=>⟨by simp only[h 8 R],λ_ _ e=>by cases e;simp only[h 8 R]⟩,λ_ _ h=>⟨by simp only[h 8 R],λ_ _ e=>by cases e⟩,Za⟩) R (by exact⟨oB [(3,.own 8<|j 0)] [(8,some<|.arr (j 0) 51 3<|q.map AD.row)]<|AK R<|.inl R,oB [(4,rI A)] []<|AK R<|.inl R,oB [(5,.ptr 5 (j 1) 0 0)] [(5,some<|.box (j 1) 51<|Ad l)]<|fB R D1 (.inl R) (λ_=>R) R,oB [(18,.ptr 5 (j 1) 0 0)] [(5,some<|.box (j 1) 51<|Ad l)]<|AZ (a:=rI l.Char) R AJ (.inl R) R R,oB [(5,.ptr 5 (j 1) 0 0)] [(5,some<|.box (j 1) 51<|Ad l)]<|fB R Ea (.inl R) (λ_=>R) R,oB [(20,.ptr 5 (j 1) 0 1)] [(5,some<|.box (j 1) 51<|Ad l)]<|AZ (a:=rI l.Ref) R AJ (.inl R) R R,oB [(5,.ptr 5 (j 1) 0 0)] [(5,some<|.box (j 1) 51<|Ad l)]<|fB R CR (.inl R) (λ_=>R) R,oB [(22,.ptr 5 (j 1) 0 2)] [(5,some<|.box (j 1) 51<|Ad l)]<|AZ (a:=qa l.Attrs) R BA (.inl R) R R,oM (λ_=>[(23,qa l.Attrs)]) (λ_=>[]) R λu e h' n=>Sm 24 (f:=AC.row) R Ac (.inl R) (.inl ⟨(.inl R),λ_=>R⟩) X,oC (λu=>[(19,rI l.Char),(21,rI l.Ref),(24,.own 24<|u 8)]) (λu=>[(24,some<|.arr (u 8) 58 2<|E.map AC.row)]) λu e h'=>Bg R KZ (q:=[(0,_),(1,_),(2,_)]) (by exact⟨R,R,R,(.inl R),R,R,R,(.inl R),R,R,R,(.inl R),Za⟩) (cs:=[rI l.Char,rI l.Ref,.own 24<|u 8])<|by rfl,Za⟩) λu n1=>?_
  refine A7 [3,4,5,9,10,11,12,13,14,15,16,17,18,19,20,21,22,23,24,25] [5,8,24] ?_
  refine AG h6 λx5 F h7=>sQ R (Em R Ah.slice iL R iL λ_=>F) ?_
  refine AN.weak (by exact Ak.frz (e':=[(3,.own 8<|j 0),(4,rI A),(5,.ptr 5 (j 1) 0 0),(9,qb f1),(10,rL f1),(11,rI A),(12,rB<|(decide<|A<(f1.length:Int))),(13,rI A),(14,.rop (AD.row l) 0),(15,.agg<|Ad l),(16,.own 8<|j 0),(17,rI A),(18,.ptr 5 (j 1) 0 0),(19,rI l.Char),(20,.ptr 5 (j 1) 0 1),(21,rI l.Ref),(22,.ptr 5 (j 1) 0 2),(23,qa l.Attrs),(24,qa E),(25,.agg [rI l.Char,rI l.Ref,qa E]),(26,.ptr 8 (j 0) A.toNat 0)]) (h':=[(5,some<|.box (j 1) 51<|Ad l),(8,some<|.arr (j 0) 51 3<|q.map AD.row)]) 24 R ⟨jL,jL,jL,jL,jL,jL,jL,jL,jL,jL,jL,jL,jL,jL,jL,jL,jL,jL,.inl<|.inr<|.inr ⟨R,R⟩,.inr ⟨_,_,R,R,⟨.inl R,.inl R,.inr<|.inr ⟨R,R⟩,Za⟩⟩,jL,Za⟩ ⟨R,.inl R,R,.inl R,Za⟩) ?_
  refine Zk R R (VY (v:=(AD.mk l.Char l.Ref E)) R DT iL R F iL R R R R)<|aZ<|c8 _<|aG [3,9,10,11] [8] ?_
  exact aR<|AG h7 λx6 Y h8=>xA R Y<|mM R<|Zh<|ZH h8 (AH [(j 0),n1]) wk
 exact Zn<|J _ _ wk<|J1 _ (AH [(j 0),(j 1)])<|xH T U
theorem RC{u:Ae}{A:List AD}{r:Ae}{j:Nat}{l:Nat}{q:Nat}(h:Hr u A=some r):BY prog 152 3 [.ptr 1000 j 0 0,qb A] [(1000,some<|.box j 193 [.own 1001 l,.own 1002 q,rI u.cut]),(1001,some<|.arr l 100 4<|u.out.map AI.row),(1002,some<|.arr q 51 3<|u.add.map AD.row)] (λB h'=>∃(i:Nat→Nat),B=.tup []∧h'=[(1000,some<|.box j 193 [.own 1001<|i 0,.own 1002<|i 1,rI r.cut]),(1001,some<|.arr (i 0) 100 4<|r.out.map AI.row),(1002,some<|.arr (i 1) 51 3<|r.add.map AD.row)]):=by
 unfold Hr at h
 refine Dq func152 R R ntmps152 (Zw R) λT=>AG h λC E J=>AG J λF I M=>?_
 refine JC 8 [pO 4<|.ptr 1000 j 0 0,pO 5<|.ptr 1000 j 0 0,pO 6<|.ptr 1000 j 0 0,pO 7<|.ptr 1000 j 0 1,pO 8<|.own 1002 q,pO 9<|qb A,pO 10<|qb C,⟨some 11,(λw=>.own 1002<|w 7),some (1002,(λw=>some<|.arr (w 7) 51 3<|F.map AD.row)),[7]⟩] BJ (by kernel_rfl) (by exact⟨λ_ _ h=>⟨R,λ_ _ e=>by cases e⟩,λ_ _ h=>⟨R,λ_ _ e=>by cases e⟩,λ_ _ h=>⟨R,λ_ _ e=>by cases e⟩,λ_ _ h=>⟨R,λ_ _ e=>by cases e⟩,λ_ _ h=>⟨R,λ_ _ e=>by cases e⟩,λ_ _ h=>⟨R,λ_ _ e=>by cases e⟩,λ_ _ h=>⟨R,λ_ _ e=>by cases e⟩,λ_ _ h=>⟨by simp only[h 7 R],λ_ _ e=>by cases e;simp only[h 7 R]⟩,Za⟩) R (by exact⟨oB [(0,.ptr 1000 j 0 0)] [(1000,some<|.box j 193 [.own 1001 l,.own 1002 q,rI u.cut])]<|AK R<|.inl R,oB [(0,.ptr 1000 j 0 0)] [(1000,some<|.box j 193 [.own 1001 l,.own 1002 q,rI u.cut])]<|AK R<|.inl R,oB [(5,.ptr 1000 j 0 0)] [(1000,some<|.box j 193 [.own 1001 l,.own 1002 q,rI u.cut])]<|B1 (ob:=.box _ _ _) R (.inl R) (λ_=>R) R,oB [(6,.ptr 1000 j 0 0)] [(1000,some<|.box j 193 [.own 1001 l,.own 1002 q,rI u.cut])]<|fB R Ov (.inl R) (λ_=>R) R,oB [(7,.ptr 1000 j 0 1)] [(1000,some<|.box j 193 [.own 1001 l,.own 1002 q,rI u.cut])]<|AZ (a:=.own 1002 q) R B2 (.inl R) R R,oB [(1,qb A)] []<|AK R<|.inl R,oD (λ_=>[(9,qb A)]) (λ_=>[]) λw e h' n=>CB (r:=qb C) (caps:=[]) (bs:=[qb A]) R (.inl R) R ⟨.inl ⟨(.inl R),R⟩,Za⟩ λ_=>nS<|E,oM (λ_=>[(8,.own 1002 q),(10,qb C)]) (λ_=>[(1002,some<|.arr q 51 3<|u.add.map AD.row)]) R λw e h' n=>Ca R Ah (.inl R) R (.inl ⟨(.inl R),λ_=>R⟩) I,Za⟩) λw O=>?_
 refine A7 [0,1,4,5,6,7,9,10,11] [1000,1001,1002] ?_
 refine sQ R (B1 (ob:=.box _ _ _) R iL fR R)<|sQ R (fB R Ov iL fR R)<|Zk R R (Af (ds:=[.own 1001 l,.own 1002<|w 7,rI u.cut]) R S8 iL R iL R R R R)<|Zh ?_
 exact ZM (s':=⟨[],[(1000,some<|.box j 193 [.own 1001 l,.own 1002<|w 7,rI u.cut]),(1001,some<|.arr l 100 4<|u.out.map AI.row),(1002,some<|.arr (w 7) 51 3<|F.map AD.row)],O,14⟩) wk<|B8 (λ(r:Ae) B h'=>∃(i:Nat→Nat),B=.tup []∧h'=[(1000,some<|.box j 193 [.own 1001<|i 0,.own 1002<|i 1,rI r.cut]),(1001,some<|.arr (i 0) 100 4<|r.out.map AI.row),(1002,some<|.arr (i 1) 51 3<|r.add.map AD.row)]) M<|by exact⟨.tup [],[(1000,some<|.box j 193 [.own 1001 l,.own 1002<|w 7,rI u.cut]),(1001,some<|.arr l 100 4<|u.out.map AI.row),(1002,some<|.arr (w 7) 51 3<|F.map AD.row)],⟨_,R,Za⟩,⟨.inr R,.inr R,.inr R,Za⟩,R,R,AH [l,(w 7)],R,R⟩
theorem UR{j r}(h:HO j=some r):AO prog 186 (Rm j) (rI r):=by
 unfold HO at h
 refine mF func186 ntmps186 R λu=>aU<|sS R (Ay (cs:=(Bq j)) 1 R iL R R)<|mA R<|aZ<|aT λq=>aU<|lF CG AJ R R<|xQ R<|aZ<|cI R h (λl=>?_) λl=>?_
 ·exact aU<|lF EK B2 R R<|xL Ah R<|mA R<|aZ<|Zj<|yI l R
 exact Zd<|q _<|aU<|lF EM AJ R R<|mA R<|aZ<|Zj<|yI l R
theorem Ri{d1 r}(h:I6 d1=some r):AO prog 147 [qd d1] (rI r):=by
 unfold I6 at h
 refine mF func147 ntmps147 R λn0=>aU<|mA R<|aZ<|aU<|mA R<|mA R<|aZ<|aS λK3 c3 a8=>aU<|mM R<|xL Bx R<|mM R<|aZ<|Zf<|Jg h λo1 a0 aa a1=>?_
 have J1:∀(q:Int) (A:Int) (i5:NN),o1=.nrm (q,A)→K3 ⟨[(3,rI q),(4,rI A)],[],(i5 0),78⟩:=by
  intro q A i5 e
  have h1:=aa _ _ e
  refine c3 _<|aT λc5=>aU<|mM R<|sQ R (BD R iL iL)<|mM R<|vM R<|vQ R (BD R (iR R) iL)<|xO R<|aZ<|cI R h1 (λh2=>?_) λh2=>?_
  ·exact zI h2 R id
  exact Zd<|c5 _<|zI h2 R id
 refine IP (λ(j:Int) (l:Int) (Z:Int) C=>⟨[(0,qd d1),(3,rI j),(4,rI l),(9,qd d1),(10,rL d1),(11,rI Z)],[],(C 0),78⟩) (AH [n0]) a0 wk ?_
 intro j l Z C v1 ab J
 have h3:Id d1 j l Z=some v1:=ab;unfold Id at h3
 refine aU<|xS R<|aZ<|aT λac=>cI R h3 (λh4=>?_) λh4=>?_
 ·refine Zd<|ac _<|aS λad ae E=>Zf<|Jg h4 λp1 af ag a2=>?_
  have J2:∀(u:Int) (B:Int) (i6:NN),p1=.nrm (u,B)→ad ⟨[(0,qd d1),(3,rI u),(4,rI B),(9,qd d1),(10,rL d1),(11,rI Z)],[],(i6 0),78⟩:=by
   intro u B i6 e
   have h5:=ag _ _ e
   exact ae _<|aR<|AG h5 λx4 ah h6=>xA R ah<|mM R<|Zh<|Dg.mk h6 (AH [(i6 0)]) wk
  refine aU<|mM R<|AG af λM ai h7=>xI Bx R ai<|xB ((Bq M)) En R<|sS R (BB (cs:=EH) 6 R FH R R)<|mA R<|Zk R R (Af (ds:=(Bq M)) R FT iL R iL R R R R)<|aZ<|aT λaj=>aU<|xC En R<|AG h7 λe1 ak h8=>cL (ga<|ak) R<|mA R<|aZ<|aU<|mM R<|xU R<|aZ<|cI R h8 (λh9=>?_) λh9=>?_
  ·refine aT λal=>aF [7] ?_
   exact aR<|mM R<|mA R<|aZ<|al _<|Zj<|yI (a1 _<|J _ (Zb<|a2 _ (Zb h9).symm).symm) R
  refine Zd<|aj _<|aS λan ao F=>aT λaq=>aG [0,3,4,5,6,9,10,11] [6] ?_
  refine aR<|mM R<|sQ R (BD R iL iL)<|aZ<|aq _<|BI h9 λp2 a6 ar av=>?_
  have J3:∀(u2:Unit) (i7:NN),p2=.nrm u2→an ⟨[(0,qd d1),(3,rI j),(4,rI l),(6,.ptr 6 (C 0) 0 0),(9,qd d1),(10,rL d1),(11,rI Z)],[(6,some<|.box (C 0) 100<|Bq M)],(i7 0),78⟩:=by
   intro u2 i7 e
   have aw:=ar _ e
   refine ao _<|aS λax ay I=>aU<|lF CG AJ R R<|xU R<|aZ<|A3 aw λp3 a7 az=>?_
   have J4:∀(w:Int) (i8:NN),p3=w→ax ⟨[(0,qd d1),(3,rI w),(4,rI l),(6,.ptr 6 (C 0) 0 0),(9,qd d1),(10,rL d1),(11,rI Z)],[(6,some<|.box (C 0) 100<|Bq M)],(i8 0),78⟩:=by
    intro w i8 e
    have b0:=az _ e
    refine ay _<|aU<|lF CG AJ R R<|xU R<|aZ<|cI R b0 (λO=>?_) λO=>?_
    ·exact aR<|mM R<|xC En R<|AG O λr1 b1 b2=>cL (UR<|b1) R<|AG b2 λx6 b3 b4=>xA R b3<|sQ R (Ku R iL iL)<|mA R<|Zh<|E _ _ wk<|J2 _ _ (AH [(i8 0)]) (Zb b4).symm
    exact Zd<|E _ _ wk<|J2 _ _ (AH [(i8 0)]) (Zb O).symm
   refine aC R (λT=>?_) λT=>?_
   ·have U:=Br T a7
    exact aR<|mM R<|lF EM AJ R R<|AG U λx7 b5 b6=>xA R b5<|sQ R (Ku R iL iL)<|mA R<|Zh<|I _ _ wk<|J4 _ (AH [(i7 0)]) (Zb b6).symm
   ·have U:=Bt T a7
    exact Zd<|I _ _ wk<|J4 _ (AH [(i7 0)]) (Zb U).symm
  refine aC R (λV=>?_) λV=>?_
  ·have X:=Br V a6
   refine aU<|mM R<|mM R<|AG X λx8 b7 b8=>sQ R (CF R iL iL λ_=>b7)<|AG b8 λx9 b9 ba=>xI Bx R b9<|xB ((Bq x9)) En R<|sS R (BB (cs:=EH) 8 R FH R R)<|Zk R R (Af (ds:=(Bq x9)) R FT iL R iL R R R R)<|aZ<|aU<|lF CG AJ R R<|lF CG AJ R R<|xQ R<|mM R<|vF CG AJ R R<|vQ R (Cf R (iR R) iL)<|vQ R (AK R<|iR R)<|wQ R (fB R Dt iL fR R)<|wQ R (AZ (a:=qa x9.Attrs) R BA (iR R) R R)<|wQ R (fB R Dt iL fR R)<|wQ R (AZ (a:=qa M.Attrs) R BA (iR R) R R)<|AG ba λr2 bb bc=>AN.stepW (.two R R R) R R (ER (r:=rB r2) (caps:=[]) (bs:=[qa x9.Attrs,qa M.Attrs]) R iL R ⟨⟨_,(iR R),.d R⟩,⟨_,(iR R),.d R⟩,Za⟩ (λhg=>Vi<|AP bb hg) R)<|vQ R (CM R (iR R)<|iR R)<|xN R<|mM R<|vF CG AJ R R<|vQ R (Aq R (iR R) iL)<|vQ R (AK R<|iR R)<|wQ R (fB R CG iL fR R)<|wQ R (AZ (a:=rI M.Kind) R AJ (iR R) R R)<|wQ R (Aq R (iR R) iL)<|vQ R (BP R (iR R)<|iR R)<|xO R<|aZ<|cI R bc (λY=>?_) λY=>?_
   ·refine aT λbd=>aF [] ?_
    exact aR<|mA R<|aZ<|bd _<|Zj<|yI (a1 _<|J _ (Zb<|a2 _ (Zb<|av _ (Zb Y).symm).symm).symm) R
   exact Zd<|F _ _ wk<|J3 _ (AH [((C 0)+2)]) (Zb Y).symm
  ·have X:=Bt V a6
   exact Zd<|F _ _ wk<|J3 _ (AH [((C 0)+1)]) (Zb X).symm
 exact Zn<|a8 _ _ wk<|J1 _ _ (AH [(C 0)])<|xH J h4
theorem Td{w:Ae}{r:(List AI) × Int × Ae}{j:Nat}{l:Nat}{q:Nat}(h:IZ w=some r):BY prog 155 3 [.ptr 1000 j 0 0] [(1000,some<|.box j 193 [.own 1001 l,.own 1002 q,rI w.cut]),(1001,some<|.arr l 100 4<|w.out.map AI.row),(1002,some<|.arr q 51 3<|w.add.map AD.row)] (λA h'=>∃(i:Nat→Nat),A=.tup [qd r.1,rI r.2.1]∧h'=[(1000,some<|.box j 193 [qd r.2.2.out,cZ,rI r.2.2.cut])]):=by
 unfold IZ at h
 refine Dq func155 R R ntmps155 (Zw R) λV=>aU<|mA R<|mA R<|aZ<|aT λI=>aR<|mM R<|AG h λu B J=>?_
 refine Zo [1000,1001,1002] (hc:=[(1000,some<|.box j 193 [.own 1001 l,.own 1002 q,rI w.cut]),(1001,some<|.arr l 100 4<|w.out.map AI.row),(1002,some<|.arr q 51 3<|w.add.map AD.row)]) (bs:=[.ptr 1000 j 0 0]) (caps:=[]) R R R R iL R ⟨.inl ⟨iL,R⟩,Za⟩ ⟨R,R,R,R,R,R,R,R,R,Za⟩ (by decide) (Y3 B) ?_
 intro X F
 refine A7 [0,2,3,4,5] [1000,1001] ?_
 refine aZ<|I _<|aT λM=>aU<|mM R<|sQ R (B1 (ob:=.box _ _ _) R iL fR R)<|lF GP EE R R<|AG J λY C O=>cL (Ri<|C) R<|xU R<|aZ<|cI R O (λE=>?_) λE=>?_
 ·refine aT λT=>aG [] [1000,1001] ?_
  refine aR<|mA R<|mA R<|oZ T ?_
  exact Zj<|ZM (s':=⟨[(2,.r<|.sl []),(3,rI 3)],[(1000,some<|.box j 193 [qd u.out,cZ,rI u.cut])],F,16⟩) (Zm (by exact Ak.frz (e':=[(2,cZ),(3,rI 3)]) (h':=[(1000,some<|.box j 193 [qd u.out,cZ,rI u.cut])]) 1001 R ⟨jL,jL,Za⟩ ⟨R,.inr<|.inr<|.inl ⟨_,_,_,_,R,R,⟨.inr<|.inr ⟨R,R⟩,.inl R,.inl R,Za⟩⟩,Za⟩)<|by exact ZC ⟨.inl<|.inr<|.inr ⟨R,R⟩,jL,Za⟩ ⟨.inl R,Za⟩ nL)<|B8 (λ(r:(List AI) × Int × Ae) A h'=>∃(i:Nat→Nat),A=.tup [qd r.1,rI r.2.1]∧h'=[(1000,some<|.box j 193 [qd r.2.2.out,cZ,rI r.2.2.cut])]) E<|by exact⟨.tup [.r<|.sl [],rI 3],[(1000,some<|.box j 193 [qd u.out,cZ,rI u.cut])],⟨_,R,⟨R,R,Za⟩⟩,⟨.inr R,Za⟩,R,R,AH [],R,R⟩
 refine Zd<|M _<|aT λU=>aG [0] [1000,1001] ?_
 refine aR<|mM R<|sQ R (B1 (ob:=.box _ _ _) R iL fR R)<|lF GP EE R R<|mA R<|mA R<|oZ U ?_
 exact Zj<|ZM (s':=⟨[(2,qd u.out),(3,rI 0)],[(1000,some<|.box j 193 [qd u.out,cZ,rI u.cut])],F,16⟩) (Zm (by exact Ak.frz (e':=[(0,.ptr 1000 j 0 0),(2,qd u.out),(3,rI 0),(12,.ptr 1000 j 0 0),(13,.ptr 1000 j 0 0),(14,.ptr 1000 j 0 0),(15,qd u.out)]) (h':=[(1000,some<|.box j 193 [qd u.out,cZ,rI u.cut])]) 1001 R ⟨jL,.inl<|.inr<|.inr ⟨R,R⟩,jL,jL,jL,jL,.inl<|.inr<|.inr ⟨R,R⟩,Za⟩ ⟨R,.inr<|.inr<|.inl ⟨_,_,_,_,R,R,⟨.inr<|.inr ⟨R,R⟩,.inl R,.inl R,Za⟩⟩,Za⟩) wk)<|B8 (λ(r:(List AI) × Int × Ae) A h'=>∃(i:Nat→Nat),A=.tup [qd r.1,rI r.2.1]∧h'=[(1000,some<|.box j 193 [qd r.2.2.out,cZ,rI r.2.2.cut])]) E<|by exact⟨.tup [qd u.out,rI 0],[(1000,some<|.box j 193 [qd u.out,cZ,rI u.cut])],⟨_,R,⟨R,R,Za⟩⟩,⟨.inr R,Za⟩,R,R,AH [],R,R⟩
theorem fv{d1 r}(h:It d1=some r):AO prog 120 [qd d1] (.tup [qd r.1,rI r.2]):=by
 unfold It at h
 refine mF func120 ntmps120 R λl=>aU<|mA R<|mA R<|aZ<|aU<|sS R (BB (cs:=N6) 4 R UZ R R)<|aZ<|aS λK3 c3 a2=>aU<|mM R<|xL Bx R<|mM R<|aZ<|Zf<|BI h λo1 V a6 X=>?_
 have J1:∀(A:Ae) (u:NN),o1=.nrm A→K3 ⟨[(4,.ptr 4 l 0 0)],[(4,some<|.box l 193 [.own 3040<|u 0,.own 3041<|u 1,rI A.cut]),(3040,some<|.arr (u 0) 100 4<|A.out.map AI.row),(3041,some<|.arr (u 1) 51 3<|A.add.map AD.row)],(u 2),76⟩:=by
  intro A u e
  have h1:=a6 _ e
  refine c3 _<|aT λc5=>aR<|IW h1 λr1 r2 w5 a7 h2=>?_
  refine Zo [4,3040,3041] (hc:=[(1000,some<|.box l 193 [.own 1001<|u 0,.own 1002<|u 1,rI A.cut]),(1001,some<|.arr (u 0) 100 4<|A.out.map AI.row),(1002,some<|.arr (u 1) 51 3<|A.add.map AD.row)]) (bs:=[.ptr 1000 l 0 0]) (caps:=[]) R R R R iL R ⟨.inl ⟨iL,R⟩,Za⟩ ⟨R,R,R,R,R,R,R,R,R,Za⟩ (by decide) (Td a7) ?_
  intro i6 n1
  refine A7 [4,73] [4] ?_
  exact xX R<|xX R<|mA R<|mA R<|aZ<|c5 _<|Zj<|DD (P:=prog) (λ(r:(List AI) × Int)=>qd r.1) (λ(r:(List AI) × Int)=>rI r.2) h2 iL (.t<|.d R)<|.t<|.d R
 refine ZL (λ(Y:Int) (q:Ae) j=>⟨[(4,.ptr 4 l 0 0),(8,qd d1),(9,rL d1),(10,rI Y)],[(4,some<|.box l 193 [.own 3040<|j 0,.own 3041<|j 1,rI q.cut]),(3040,some<|.arr (j 0) 100 4<|q.out.map AI.row),(3041,some<|.arr (j 1) 51 3<|q.add.map AD.row)],(j 2),76⟩) (AH [(l+1),(l+2),(l+3)]) V (Zm (Zm (FB 4 0 3040 100 4 (by decide) R R<|by decide)<|by exact ZC (e':=[(0,qd d1),(2,cZ),(3,rI 0),(4,.ptr 4 l 0 0),(8,qd d1),(9,rL d1),(10,rI 0)]) (h':=[(4,some<|.box l 193 [.own 3040<|l+1,cZ,rI 0]),(3040,some<|.arr (l+1) 100 4<|([]:List AI).map AI.row)]) ⟨jL,jL,jL,jL,jL,jL,jL,Za⟩ ⟨.inl R,.inl R,Za⟩ nL)<|Zm (Zm (FB 4 1 3041 51 3 (by decide) R R<|by decide)<|by exact ZC (e':=[(0,qd d1),(2,cZ),(3,rI 0),(4,.ptr 4 l 0 0),(8,qd d1),(9,rL d1),(10,rI 0)]) (h':=[(4,some<|.box l 193 [.own 3040<|l+1,.own 3041<|l+2,rI 0]),(3040,some<|.arr (l+1) 100 4<|([]:List AI).map AI.row),(3041,some<|.arr (l+2) 51 3<|([]:List AD).map AD.row)]) ⟨jL,jL,jL,jL,jL,jL,jL,Za⟩ ⟨.inl R,.inl R,.inl R,Za⟩ nL) wk) ?_
 intro Y q j v1 a8 C
 have h3:Ff d1 Y q=some v1:=a8;unfold Ff at h3
 refine aU<|xS R<|aZ<|aT λc7=>cI R h3 (λh4=>?_) λh4=>?_
 ·refine Zd<|c7 _<|aS λK8 c8 E=>Zf<|BI h4 λp1 aa ab Z=>?_
  have J2:∀(w6:Ae) (w:NN),p1=.nrm w6→K8 ⟨[(4,.ptr 4 l 0 0),(8,qd d1),(9,rL d1),(10,rI Y)],[(4,some<|.box l 193 [.own 3040<|w 0,.own 3041<|w 1,rI w6.cut]),(3040,some<|.arr (w 0) 100 4<|w6.out.map AI.row),(3041,some<|.arr (w 1) 51 3<|w6.add.map AD.row)],(w 2),76⟩:=by
   intro w6 w e
   have h5:=ab _ e
   exact c8 _<|aR<|AG h5 λx4 ac h6=>xA R ac<|mM R<|Zh<|ZH h6 (AH [(w 0),(w 1),(w 2)]) wk
  refine aU<|AG aa λF ad h7=>xI Bx R ad<|xB ((Bq F)) En R<|sS R (BB (cs:=EH) 6 R FH R R)<|Zk R R (Af (ds:=(Bq F)) R FT iL R iL R R R R)<|aZ<|aU<|xC En R<|AG h7 λe1 ae h8=>cL (ga<|ae) R<|mA R<|aZ<|aS λaf ag B=>aT λah=>aR<|lF CG AJ R R<|xQ R<|mM R<|vF EK B2 R R<|vQ R (Bu R Ah.slice<|iR R)<|vQ R (Aq R (iR R) iL)<|xN R<|mM R<|vM R<|vQ R (Aq R (iR R) iL)<|xN R<|mM R<|vF CG AJ R R<|vQ R (Cf R (iR R) iL)<|vQ R (AK R<|iR R)<|wQ R (fB R EM iL fR R)<|wQ R (AZ (a:=rI F.N) R AJ (iR R) R R)<|wQ R (Aq R (iR R) iL)<|vQ R (BP R (iR R)<|iR R)<|vQ R (AK R<|iR R)<|wQ R (AK R iL)<|wQ R (Aq R (iR R) iL)<|vQ R (BP R (iR R)<|iR R)<|xO R<|aZ<|ah _<|A3 h8 λp2 a0 ai=>?_
  have J3:∀(e2:Int) (i8:NN),p2=e2→af ⟨[(4,.ptr 4 l 0 0),(6,.ptr 6 (j 2) 0 0),(7,rI e2),(8,qd d1),(9,rL d1),(10,rI Y)],[(4,some<|.box l 193 [.own 3040<|j 0,.own 3041<|j 1,rI q.cut]),(6,some<|.box (j 2) 100<|Bq F),(3040,some<|.arr (j 0) 100 4<|q.out.map AI.row),(3041,some<|.arr (j 1) 51 3<|q.add.map AD.row)],(i8 0),76⟩:=by
   intro e2 i8 e
   have h9:=ai _ e
   refine ag _<|aT λaj=>aU<|mM R<|xU R<|aZ<|cI R h9 (λI=>?_) λI=>?_
   ·exact aU<|mM R<|mA R<|mA R<|aZ<|Zj<|DD (P:=prog) (λ(r:(List AI) × Int)=>qd r.1) (λ(r:(List AI) × Int)=>rI r.2) (X _<|C _ (Zb<|Z _ (Zb I).symm).symm) iL (.t<|.one<|.nil)<|.t<|.d R
   refine Zd<|aj _<|aU<|lF CG AJ R R<|aZ<|Zf<|aU<|xQ R<|mA R<|aZ<|cI R I (λJ=>?_) λJ=>?_
   ·refine aR<|lF EM AJ R R<|lF Dt BA R R<|AG J λw7 ak al=>?_
    refine Zo [4,3040,3041] (hc:=[(1000,some<|.box l 193 [.own 1001<|j 0,.own 1002<|j 1,rI q.cut]),(1001,some<|.arr (j 0) 100 4<|q.out.map AI.row),(1002,some<|.arr (j 1) 51 3<|q.add.map AD.row)]) (bs:=[.ptr 1000 l 0 0,rI F.N,qa F.Attrs]) (caps:=[]) R R R R iL R ⟨.inl ⟨iL,R⟩,.inl ⟨iL,R⟩,.inl ⟨iL,R⟩,Za⟩ ⟨R,R,R,R,R,R,R,R,R,Za⟩ (by decide) (Mn ak) ?_
    intro i9 n2
    refine A7 [4,6,7,8,9,10,46,47,49,50,60,61,62,63,64,65,66] [4,6,3040,3041] ?_
    exact Zh<|E _ _ wk<|J2 _ (AH [(i9 0),(i9 1),n2]) (Zb al).symm
   refine aU<|xQ R<|mA R<|aZ<|cI R J (λM=>?_) λM=>?_
   ·refine aG [4,6,8,9,10] [4,6,3040,3041] ?_
    refine aR<|lF EK B2 R R<|AG M λw8 an ao=>?_
    refine Zo [4,3040,3041] (hc:=[(1000,some<|.box l 193 [.own 1001<|j 0,.own 1002<|j 1,rI q.cut]),(1001,some<|.arr (j 0) 100 4<|q.out.map AI.row),(1002,some<|.arr (j 1) 51 3<|q.add.map AD.row)]) (bs:=[.ptr 1000 l 0 0,qb F.Elems]) (caps:=[]) R R R R iL R ⟨.inl ⟨iL,R⟩,.inl ⟨iL,R⟩,Za⟩ ⟨R,R,R,R,R,R,R,R,R,Za⟩ (by decide) (RC an) ?_
    intro a1 n3
    refine A7 [4,6,8,9,10,69,70,71] [4,6,3040,3041] ?_
    exact Zh<|E _ _ wk<|J2 _ (AH [(a1 0),(a1 1),n3]) (Zb ao).symm
   refine aT λaq=>aG [4,6,8,9,10] [4,6,3040,3041] ?_
   refine aR<|lF Ft AJ R R<|lF EM AJ R R<|AG M λx6 ar av=>xA R ar<|sQ R (fB R Ft iL fR R)<|Zk R R (Af (ds:=[.own 3040<|j 0,.own 3041<|j 1,rI x6]) R G7 iL R iL R R R R)<|aZ<|aq _<|aU<|lF Ft AJ R R<|sQ R (BD R iL iL)<|aZ<|cI R av (λO=>?_) λO=>?_
   ·refine aT λaw=>aF [] ?_
    exact aR<|mA R<|mA R<|aZ<|aw _<|Zj<|DD (P:=prog) (λ(r:(List AI) × Int)=>qd r.1) (λ(r:(List AI) × Int)=>rI r.2) (X _<|C _ (Zb<|Z _ (Zb O).symm).symm) iL (.t<|.one<|.nil)<|.t<|.d R
   exact Zd<|E _ _ wk<|J2 _ (AH [(j 0),(j 1),(i8 0)]) (Zb O).symm
  refine aC R (λT=>?_) λT=>?_
  ·have U:=Br T a0
   refine aG [4,6,8,9,10] [4,6,3040,3041] ?_
   exact aR<|lF Dt BA R R<|AG U λe3 ax ay=>cL (eZ<|ax) R<|mA R<|Zh<|B _ _ wk<|J3 _ (AH [((j 2)+1)]) (Zb ay).symm
  ·have U:=Bt T a0
   exact Zd<|B _ _ wk<|J3 _ (AH [((j 2)+1)]) (Zb U).symm
 exact Zn<|a2 _ _ wk<|J1 _ (AH [(j 0),(j 1),(j 2)])<|xH C h4
theorem tE{f1 p a r}(h:P6 f1 p a=some r):AO prog 104 [qb f1,.r<|.sl<|p.map<|Aj .i64,rS a] (qd r):=by
 unfold P6 at h
 refine mF func104 ntmps104 R λn0=>aU<|mA R<|aZ<|aU<|mM R<|xL Ah R<|AG h λa7 F h1=>sS R (UU 18 R MV (f:=Ed) (z0:=false) nz iL iL F)<|mA R<|aZ<|aS λK3 c3 a8=>aU<|mM R<|xL B9 R<|mM R<|aZ<|Zf<|A3 h1 λo1 Y aa=>?_
 have J1:∀(j:List Bool) (q:NN),o1=j→K3 ⟨[(0,qb f1),(2,rS a),(7,.own 18<|q 0)],[(18,some<|.arr (q 0) 4 1<|j.map Ed)],(q 1),69⟩:=by
  intro j q e
  have h2:=aa _ e
  refine c3 _<|aU<|mA R<|aZ<|aS λK6 c6 ab=>aU<|mM R<|xL Ah R<|mM R<|aZ<|Zf<|A3 h2 λo2 Z ac=>?_
  have J2:∀(u:List AI) (I:NN),o2=u→K6 ⟨[(10,.own 5010<|I 0)],[(5010,some<|.arr (I 0) 100 4<|u.map AI.row)],(I 1),69⟩:=by
   intro u I e
   have h3:=ac _ e
   refine c6 _<|aT λc8=>aR<|mM R ?_
   refine AN.weak (by exact Ak.frz (e':=[(10,qd u),(64,qd u)]) (h':=[]) 5010 R ⟨.inl<|.inr<|.inr ⟨R,R⟩,.inl<|.inr<|.inr ⟨R,R⟩,Za⟩ Za) ?_
   exact DQ h3 λr1 r2 ad h4=>sS R (CB (r:=.tup [qd r1,rI r2]) (caps:=[]) (bs:=[qd u]) R iL R ⟨.inl ⟨iL,R⟩,Za⟩ λ_=>fv<|ad)<|mM R<|xX R<|xX R<|mA R<|mA R<|aZ<|c8 _<|aU<|mM R<|mA R<|aZ<|Zj<|Cz (P:=prog) (λ(r:(List AI))=>qd r) h4 iL<|.t<|.d R
  refine ZL (λ(C:Int) (l:List AI) i8=>⟨[(2,rS a),(7,.own 18<|q 0),(10,.own 5010<|i8 0),(29,qb f1),(30,rL f1),(31,rI C)],[(18,some<|.arr (q 0) 4 1<|j.map Ed),(5010,some<|.arr (i8 0) 100 4<|l.map AI.row)],(i8 1),69⟩) (AH [(q 1),((q 1)+1)]) Z (Zm (Zm (ZR 10 5010 100 4 (by decide) R)<|by exact ZC (e':=[(0,qb f1),(2,rS a),(7,.own 18<|q 0),(10,.own 5010<|q 1),(29,qb f1),(30,rL f1),(31,rI 0)]) (h':=[(18,some<|.arr (q 0) 4 1<|j.map Ed),(5010,some<|.arr (q 1) 100 4<|([]:List AI).map AI.row)]) ⟨jL,jL,jL,jL,jL,jL,jL,Za⟩ ⟨.inl R,.inl R,Za⟩ nL) wk) ?_
  intro C l i8 v1 ae af
  have h5:Kd f1 a j C l=some v1:=ae;unfold Kd at h5
  refine aU<|xS R<|aZ<|aT λag=>cI R h5 (λh6=>?_) λh6=>?_
  ·refine Zd<|ag _<|aT λah=>Zf<|aU<|mM R<|AG h6 λX ai h7=>xI Ah R ai<|xB ((Ad X)) Cj R<|sS R (BB (cs:=Eo) 12 R Ee R R)<|mA R<|Zk R R (Af (ds:=(Ad X)) R DT iL R iL R R R R)<|aZ<|aT λaj=>aR ?_
   refine sQ R (Bg R Kb (q:=[(0,_),(1,_)]) (by exact⟨R,R,R,iL,R,R,R,iL,Za⟩) (cs:=Vh)<|by rfl) ?_
   refine sS R (BB (cs:=EH) 13 R FH R R)<|Zk R R (Af (ds:=Vh) R FT iL R iL R R R R)<|aZ<|aj _<|aS λak al E=>Zf<|A3 h7 λp1 an ao=>?_
   have J3:∀(A:AI) (B:NN),p1=A→ak ⟨[(2,rS a),(7,.own 18<|q 0),(10,.own 5010<|i8 0),(13,.ptr 13 ((i8 1)+1) 0 0),(29,qb f1),(30,rL f1),(31,rI C)],[(13,some<|.box ((i8 1)+1) 100 [rI A.Kind,rI A.N,.own 39<|B 0,cZ]),(18,some<|.arr (q 0) 4 1<|j.map Ed),(39,some<|.arr (B 0) 58 2<|A.Attrs.map AC.row),(5010,some<|.arr (i8 0) 100 4<|l.map AI.row)],(B 1),69⟩:=by
    intro A B e
    have h8:=ao _ e
    refine al _<|aR<|mM R<|xC En R ?_
    refine AN.weak (by exact Ak.frz (e':=[(2,rS a),(7,.own 18<|q 0),(10,.own 5010<|i8 0),(13,.ptr 13 ((i8 1)+1) 0 0),(29,qb f1),(30,rL f1),(31,rI C),(58,.own 5010<|i8 0),(59,.agg [rI A.Kind,rI A.N,qa A.Attrs,cZ])]) (h':=[(13,some<|.box ((i8 1)+1) 100 [rI A.Kind,rI A.N,qa A.Attrs,cZ]),(18,some<|.arr (q 0) 4 1<|j.map Ed),(5010,some<|.arr (i8 0) 100 4<|l.map AI.row)]) 39 R ⟨jL,jL,jL,jL,jL,jL,jL,jL,.inr ⟨_,_,R,R,⟨.inl R,.inl R,.inr<|.inr ⟨R,R⟩,.inl R,Za⟩⟩,Za⟩ ⟨R,.inr<|.inr<|.inl ⟨_,_,_,_,R,R,⟨.inl R,.inl R,.inr<|.inr ⟨R,R⟩,.inl R,Za⟩⟩,R,.inl R,R,.inl R,Za⟩) ?_
    exact sS R (Bw 60 R Bx (f:=AI.row) (l:=([(AI.mk A.Kind A.N A.Attrs [])]:List AI)) ⟨R,⟨_,iL,R⟩,Za⟩ R (λ_=>R) R)<|AG h8 λb7 O h9=>sS R (Ca R Bx iL R (.inr<|.inl ⟨_,_,iL,R⟩) O)<|mA R<|aZ<|ah _<|aR<|AG h9 λx8 aq ar=>xA R aq<|mM R<|Zh<|ZH ar (AH [((B 1)+1),((B 1)+2)]) wk
   refine aU<|mM R<|mM R<|AG an λx9 a0 av=>sQ R (Em R MV.slice iL R iL λ_=>a0)<|sQ R (Ju (d:=.bool x9) R XR iL fR (λ_=>a0) R)<|sQ R (A0 R iL)<|mA R<|aZ<|cI R av (λT=>?_) λT=>?_
   ·refine Zd ?_
    exact E _ _ (Zm (Zm (FB 13 2 39 58 2 (by decide) R R<|by decide)<|by exact ZC (e':=[(2,rS a),(7,.own 18<|q 0),(10,.own 5010<|i8 0),(11,rI C),(12,.ptr 12 (i8 1) 0 0),(13,.ptr 13 ((i8 1)+1) 0 0),(29,qb f1),(30,rL f1),(31,rI C),(32,rB<|(decide<|C<(f1.length:Int))),(33,rI C),(34,.rop (AD.row X) 0),(35,.agg<|Ad X),(36,.agg Vh),(41,rB<|(!x9)),(42,.own 18<|q 0),(43,rI C),(44,.ptr 18 (q 0) C.toNat 0),(45,rB x9),(46,rB<|(!x9))]) (h':=[(12,some<|.box (i8 1) 51<|Ad X),(13,some<|.box ((i8 1)+1) 100 [rI 0,rI 1,.own 39<|(i8 1)+2,cZ]),(18,some<|.arr (q 0) 4 1<|j.map Ed),(39,some<|.arr ((i8 1)+2) 58 2<|([]:List AC).map AC.row),(5010,some<|.arr (i8 0) 100 4<|l.map AI.row)]) ⟨jL,jL,jL,jL,jL,jL,jL,jL,jL,jL,jL,jL,jL,jL,jL,jL,jL,jL,jL,jL,Za⟩ ⟨.inl R,.inl R,.inl R,.inl R,.inl R,Za⟩ nL) wk)<|J3 _ (AH [((i8 1)+2),((i8 1)+3)]) (Zb T).symm
   refine aT λaw=>aG [2,7,10,12,13,29,30,31] [12,13,18,5010] ?_
   refine aR<|mM R<|sQ R (Bo R iL iL)<|mM R<|vF CR BA R R<|AG T λr3 ax ay=>vL (λhg=>Q4<|AP ax hg) R<|vM R<|vQ R (Bo R (iR R)<|iR R)<|xO R<|mA R<|aZ<|aw _<|cI R ay (λU=>?_) λU=>?_
   ·refine aR<|sQ R (fB R CG iL fR R)<|Zk R R (Af (ds:=[rI 2,rI 1,cZ,cZ]) R G7 iL R iL R R R R)<|Zh ?_
    exact E _ _ (Zm (Zm (FB 13 2 39 58 2 (by decide) R R<|by decide)<|by exact ZC (e':=[(2,rS a),(7,.own 18<|q 0),(10,.own 5010<|i8 0),(12,.ptr 12 (i8 1) 0 0),(13,.ptr 13 ((i8 1)+1) 0 0),(29,qb f1),(30,rL f1),(31,rI C),(47,rB<|((a=[])||(r3=a))),(48,rS a),(49,rB<|(decide<|a=[])),(50,rB<|(decide<|a=[])),(56,rB<|((a=[])||(r3=a))),(57,.ptr 13 ((i8 1)+1) 0 0)]) (h':=[(12,some<|.box (i8 1) 51<|Ad X),(13,some<|.box ((i8 1)+1) 100 [rI 2,rI 1,.own 39<|(i8 1)+2,cZ]),(18,some<|.arr (q 0) 4 1<|j.map Ed),(39,some<|.arr ((i8 1)+2) 58 2<|([]:List AC).map AC.row),(5010,some<|.arr (i8 0) 100 4<|l.map AI.row)]) ⟨jL,jL,jL,jL,jL,jL,jL,jL,jL,jL,jL,jL,jL,jL,Za⟩ ⟨.inl R,.inl R,.inl R,.inl R,.inl R,Za⟩ nL) wk)<|J3 _ (AH [((i8 1)+2),((i8 1)+3)]) (Zb U).symm
   refine aR<|mM R ?_
   refine sQ R (Bg R GY (q:=[(0,_),(1,_)]) (by exact⟨R,R,R,iL,R,R,R,iL,Za⟩) (cs:=[.r<|.str [99,117,116],rS a])<|by rfl) ?_
   exact sS R (Bw 39 R Ac (f:=AC.row) (l:=([(AC.mk [99,117,116] a)]:List AC)) ⟨R,⟨_,iL,R⟩,Za⟩ R (λ_=>R) R)<|sQ R (fB R Dt iL fR R)<|Zk R R (Af (ds:=[rI 0,rI 1,.own 39<|(i8 1)+2,cZ]) R F9 iL R iL R R R R)<|Zh<|E _ _ wk<|J3 _ (AH [((i8 1)+2),((i8 1)+3)]) (Zb U).symm
  exact Zn<|ab _ _ wk<|J2 _ (AH [(i8 0),(i8 1)])<|xH af h6
 refine ZL (λ(x2:Int) (w:List Bool) J=>⟨[(0,qb f1),(2,rS a),(7,.own 18<|J 0),(19,.r<|.sl<|p.map<|Aj .i64),(20,rL p),(21,rI x2)],[(18,some<|.arr (J 0) 4 1<|w.map Ed)],(J 1),69⟩) (AH [n0,(n0+1)]) Y wk ?_
 intro x2 w J v2 az b0
 have a1:KU p x2 w=some v2:=az;unfold KU at a1
 refine aU<|xS R<|aZ<|aT λb1=>cI R a1 (λV=>?_) λV=>?_
 ·exact Zd<|b1 _<|aT λb2=>Zf<|aU<|AG V λb3 a2 b4=>xI B9 R a2<|xV (.int .i64 b3) AJ R<|mA R<|aZ<|aR<|mM R<|mM R<|AG b4 λb8 M b5=>sQ R (Em R MV.slice iL R iL λ_=>M)<|Zk R R (Kw (v:=true) R qn iL R M iL R R R R)<|aZ<|b2 _<|aR<|AG b5 λb9 a6 b6=>xA R a6<|mM R<|Zh<|ZH b6 (AH [(J 0),(J 1)]) wk
 exact Zn<|a8 _ _ wk<|J1 _ (AH [(J 0),(J 1)])<|xH b0 V
theorem rO{p a r}(h:Ot p a=some r):AO prog 105 [.r<|.sl<|p.map<|Aj .i64,rI a] (rI r):=by
 unfold Ot at h
 refine mF func105 ntmps105 R λF=>aU<|mA R<|aZ<|aT λw=>aU<|mM R<|xQ R<|aZ<|cI R h (λj=>?_) λj=>?_
 ·exact zI j R id
 exact Zd<|w _<|aU<|mM R<|mM R<|AG j λI l A=>sQ R (CF R iL iL λ_=>l)<|AG A λB q C=>xI B9 R q<|xV (.int .i64 B) AJ R<|AG C λJ u E=>xA R u<|mA R<|aZ<|Zj<|yI E R
theorem lq{f1 r}(h:Pm f1=some r):BY prog 66 1 [qb f1] [] (λJ h'=>∃(i:Nat→Nat),J=.own 1000 (i 0)∧h'=[(1000,some<|.arr (i 0) 51 3<|r.map AD.row)]):=by
 unfold Pm at h
 refine Dq func66 R R ntmps66 (Zw R) λn0=>aU<|mA R<|aZ<|aU<|mM R<|xL Ah R<|AG h λa0 C h1=>sS R (UU 8 R Ah (f:=AD.row) (z0:=(AD.mk 0 0 [])) WG iL iL C)<|mA R<|aZ<|aS λK3 c3 M=>aU<|mM R<|xL Ah R<|mM R<|aZ<|Zf<|A3 h1 λo1 E O=>?_
 have J1:∀(q:List AD) (A:NN),o1=q→K3 ⟨[(3,.own 8<|A 0)],[(8,some<|.arr (A 0) 51 3<|q.map AD.row)],(A 1),29⟩:=by
  intro q A e
  have h2:=O _ e
  refine c3 _<|aU<|mM R<|mA R<|aZ ?_
  exact Zj<|ZM (s':=⟨[(2,.own 1000<|A 1)],[(1000,some<|.arr (A 1) 51 3<|q.map AD.row)],((A 1)+1),29⟩) (Zm (Zm (Ak.ren 2 8 1000 R R R)<|by exact ZC (e':=[(2,.own 1000<|A 1)]) (h':=[(1000,some<|.arr (A 1) 51 3<|q.map AD.row)]) ⟨jL,Za⟩ ⟨.inl R,Za⟩ nL) wk)<|B8 (λ(r:(List AD)) J h'=>∃(i:Nat→Nat),J=.own 1000 (i 0)∧h'=[(1000,some<|.arr (i 0) 51 3<|r.map AD.row)]) h2<|by exact⟨.own 1000<|A 1,[(1000,some<|.arr (A 1) 51 3<|q.map AD.row)],R,⟨.inr R,Za⟩,R,R,AH [(A 1)],R,R⟩
 refine ZL (λ(B:Int) (u:List AD) j=>⟨[(3,.own 8<|j 0),(9,qb f1),(10,rL f1),(11,rI B)],[(8,some<|.arr (j 0) 51 3<|u.map AD.row)],(j 1),29⟩) (AH [n0,(n0+1)]) E wk ?_
 intro B u j v1 T U
 have h3:Jw f1 B u=some v1:=T;unfold Jw at h3
 refine aU<|xS R<|aZ<|aT λc7=>cI R h3 (λV=>?_) λV=>?_
 ·refine Zd<|c7 _<|aT λc8=>Zf<|aU<|mM R<|AG V λl X h5=>xI Ah R X<|xB ((Ad l)) Cj R<|sS R (BB (cs:=Eo) 5 R Ee R R)<|mA R<|Zk R R (Af (ds:=(Ad l)) R DT iL R iL R R R R)<|aZ<|AG h5 λF Y h6=>?_
  refine JC 10 [pO 16<|.own 8<|j 0,pO 17<|rI B,pO 18<|.ptr 5 (j 1) 0 0,pO 19<|rI l.Char,pO 20<|.ptr 5 (j 1) 0 1,pO 21<|rI l.Ref,pO 22<|.ptr 5 (j 1) 0 2,pO 23<|qa l.Attrs,⟨some 24,(λw=>.own 24<|w 8),some (24,(λw=>some<|.arr (w 8) 58 2<|F.map AC.row)),[8]⟩,⟨some 25,(λw=>.agg [rI l.Char,rI l.Ref,.own 24<|w 8]),none,[8]⟩] BJ (by kernel_rfl) (by exact⟨λ_ _ h=>⟨R,λ_ _ e=>by cases e⟩,λ_ _ h=>⟨R,λ_ _ e=>by cases e⟩,λ_ _ h=>⟨R,λ_ _ e=>by cases e⟩,λ_ _ h=>⟨R,λ_ _ e=>by cases e⟩,λ_ _ h=>⟨R,λ_ _ e=>by cases e⟩,λ_ _ h=>⟨R,λ_ _ e=>by cases e⟩,λ_ _ h=>⟨R,λ_ _ e=>by cases e⟩,λ_ _ h=>⟨R,λ_ _ e=>by cases e⟩,λ_ _ h=>⟨by simp only[h 8 R],λ_ _ e=>by cases e;simp only[h 8 R]⟩,λ_ _ h=>⟨by simp only[h 8 R],λ_ _ e=>by cases e⟩,Za⟩) R (by exact⟨oB [(3,.own 8<|j 0)] [(8,some<|.arr (j 0) 51 3<|u.map AD.row)]<|AK R<|.inl R,oB [(4,rI B)] []<|AK R<|.inl R,oB [(5,.ptr 5 (j 1) 0 0)] [(5,some<|.box (j 1) 51<|Ad l)]<|fB R D1 (.inl R) (λ_=>R) R,oB [(18,.ptr 5 (j 1) 0 0)] [(5,some<|.box (j 1) 51<|Ad l)]<|AZ (a:=rI l.Char) R AJ (.inl R) R R,oB [(5,.ptr 5 (j 1) 0 0)] [(5,some<|.box (j 1) 51<|Ad l)]<|fB R Ea (.inl R) (λ_=>R) R,oB [(20,.ptr 5 (j 1) 0 1)] [(5,some<|.box (j 1) 51<|Ad l)]<|AZ (a:=rI l.Ref) R AJ (.inl R) R R,oB [(5,.ptr 5 (j 1) 0 0)] [(5,some<|.box (j 1) 51<|Ad l)]<|fB R CR (.inl R) (λ_=>R) R,oB [(22,.ptr 5 (j 1) 0 2)] [(5,some<|.box (j 1) 51<|Ad l)]<|AZ (a:=qa l.Attrs) R BA (.inl R) R R,oM (λ_=>[(23,qa l.Attrs)]) (λ_=>[]) R λw e h' n=>Sm 24 (f:=AC.row) R Ac (.inl R) (.inl ⟨(.inl R),λ_=>R⟩) Y,oC (λw=>[(19,rI l.Char),(21,rI l.Ref),(24,.own 24<|w 8)]) (λw=>[(24,some<|.arr (w 8) 58 2<|F.map AC.row)]) λw e h'=>Bg R KZ (q:=[(0,_),(1,_),(2,_)]) (by exact⟨R,R,R,(.inl R),R,R,R,(.inl R),R,R,R,(.inl R),Za⟩) (cs:=[rI l.Char,rI l.Ref,.own 24<|w 8])<|by rfl,Za⟩) λw n1=>?_
  refine A7 [3,4,5,9,10,11,12,13,14,15,16,17,18,19,20,21,22,23,24,25] [5,8,24] ?_
  refine AG h6 λx5 I h7=>sQ R (Em R Ah.slice iL R iL λ_=>I) ?_
  refine AN.weak (by exact Ak.frz (e':=[(3,.own 8<|j 0),(4,rI B),(5,.ptr 5 (j 1) 0 0),(9,qb f1),(10,rL f1),(11,rI B),(12,rB<|(decide<|B<(f1.length:Int))),(13,rI B),(14,.rop (AD.row l) 0),(15,.agg<|Ad l),(16,.own 8<|j 0),(17,rI B),(18,.ptr 5 (j 1) 0 0),(19,rI l.Char),(20,.ptr 5 (j 1) 0 1),(21,rI l.Ref),(22,.ptr 5 (j 1) 0 2),(23,qa l.Attrs),(24,qa F),(25,.agg [rI l.Char,rI l.Ref,qa F]),(26,.ptr 8 (j 0) B.toNat 0)]) (h':=[(5,some<|.box (j 1) 51<|Ad l),(8,some<|.arr (j 0) 51 3<|u.map AD.row)]) 24 R ⟨jL,jL,jL,jL,jL,jL,jL,jL,jL,jL,jL,jL,jL,jL,jL,jL,jL,jL,.inl<|.inr<|.inr ⟨R,R⟩,.inr ⟨_,_,R,R,⟨.inl R,.inl R,.inr<|.inr ⟨R,R⟩,Za⟩⟩,jL,Za⟩ ⟨R,.inl R,R,.inl R,Za⟩) ?_
  refine Zk R R (VY (v:=(AD.mk l.Char l.Ref F)) R DT iL R I iL R R R R)<|aZ<|c8 _<|aG [3,9,10,11] [8] ?_
  exact aR<|AG h7 λx6 Z h8=>xA R Z<|mM R<|Zh<|ZH h8 (AH [(j 0),n1]) wk
 exact Zn<|M _ _ wk<|J1 _ (AH [(j 0),(j 1)])<|xH U V
theorem nd{f1 a b c r}(h:RG f1 a b c=some r):AO prog 106 [qb f1,rI a,qb b,rS c] (qd r):=by
 unfold RG at h
 refine mF func106 ntmps106 R λn0=>aU<|mA R<|aZ<|aT λc2=>aR<|mM R<|AG h λE I h1=>?_
 refine Zo [14] (hc:=[]) (bs:=[qb b]) (caps:=[]) R R R R iL R ⟨.inl ⟨iL,R⟩,Za⟩ Za (by decide) (lq I) ?_
 intro i1 n1
 refine A7 [0,1,2,3,8,13,14] [14] ?_
 refine mA R<|aZ<|c2 _<|aS λK3 c3 J=>aU<|mM R<|sQ R (LK R Ah.slice iL R)<|mM R<|aZ<|Zf<|A3 h1 λo1 A M=>?_
 have J1:∀(l:List AD) (B:NN),o1=l→K3 ⟨[(0,qb f1),(1,rI a),(9,.own 14<|B 0)],[(14,some<|.arr (B 0) 51 3<|l.map AD.row)],(B 1),50⟩:=by
  intro l B e
  have h2:=M _ e
  refine c3 _<|aT λc5=>aR<|mM R ?_
  refine sQ R (Bg R Kb (q:=[(0,_),(1,_)]) (by exact⟨R,R,R,iL,R,R,R,iL,Za⟩) (cs:=[rI 0,rI a,cZ,cZ])<|by rfl) ?_
  refine mM R ?_
  refine sQ R (Bg R Kb (q:=[(0,_),(3,_)]) (by exact⟨R,R,R,iL,R,R,R,iL,Za⟩) (cs:=[rI 1,rI 0,cZ,.own 14<|B 0])<|by rfl) ?_
  refine mM R<|xL Ah R<|mM R<|AG h2 λw O h3=>sQ R (CF R iL iL λ_=>O) ?_
  refine sQ R (Bg R Kb (q:=[(0,_),(1,_)]) (by exact⟨R,R,R,iL,R,R,R,iL,Za⟩) (cs:=[rI 0,rI w,cZ,cZ])<|by rfl) ?_
  refine AN.weak (by exact Ak.frz (e':=[(0,qb f1),(1,rI a),(9,qb l),(36,rI a),(37,.agg [rI 0,rI a,cZ,cZ]),(38,qb l),(39,.agg [rI 1,rI 0,cZ,qb l]),(40,qb f1),(41,rL f1),(42,rI a),(43,rI w),(44,.agg [rI 0,rI w,cZ,cZ])]) (h':=[]) 14 R ⟨jL,jL,.inl<|.inr<|.inr ⟨R,R⟩,jL,jL,.inl<|.inr<|.inr ⟨R,R⟩,.inr ⟨_,_,R,R,⟨.inl R,.inl R,.inl R,.inr<|.inr ⟨R,R⟩,Za⟩⟩,jL,jL,jL,jL,jL,Za⟩ Za) ?_
  refine sS R (Bw 45 R Bx (f:=AI.row) (l:=([(AI.mk 0 a [] []),(AI.mk 1 0 [] l),(AI.mk 0 w [] [])]:List AI)) ⟨R,⟨_,iL,R⟩,R,⟨_,iL,R⟩,R,⟨_,iL,R⟩,Za⟩ R (λ_=>R) R) ?_
  refine AN.weak (by exact Ak.frz (e':=[(0,qb f1),(1,rI a),(9,qb l),(36,rI a),(37,.agg [rI 0,rI a,cZ,cZ]),(38,qb l),(39,.agg [rI 1,rI 0,cZ,qb l]),(40,qb f1),(41,rL f1),(42,rI a),(43,rI w),(44,.agg [rI 0,rI w,cZ,cZ]),(45,.r<|.sl<|[(AI.mk 0 a [] []),(AI.mk 1 0 [] l),(AI.mk 0 w [] [])].map AI.row)]) (h':=[]) 45 R ⟨jL,jL,jL,jL,jL,jL,jL,jL,jL,jL,jL,jL,.inl<|.inr<|.inr ⟨R,R⟩,Za⟩ Za) ?_
  refine DQ h3 λr1 r2 T h4=>sS R (CB (r:=.tup [qd r1,rI r2]) (caps:=[]) (bs:=[.r<|.sl<|[(AI.mk 0 a [] []),(AI.mk 1 0 [] l),(AI.mk 0 w [] [])].map AI.row]) R iL R ⟨.inl ⟨iL,R⟩,Za⟩ λ_=>fv<|T)<|mM R<|xX R<|xX R<|mA R<|mA R<|aZ<|c5 _<|aT λc6=>aF [11] ?_
  exact aR<|mM R<|mA R<|aZ<|c6 _<|Zj<|Cz (P:=prog) (λ(r:(List AI))=>qd r) h4 iL<|.t<|.d R
 refine ZL (λ(q:Int) (F:List AD) j=>⟨[(0,qb f1),(1,rI a),(3,rS c),(9,.own 14<|j 0),(16,rL E),(17,rI q)],[(14,some<|.arr (j 0) 51 3<|F.map AD.row)],(j 1),50⟩) (AH [(i1 0),n1]) A wk ?_
 intro q F j v1 U V
 have h5:Kt c E q F=some v1:=U;unfold Kt at h5
 refine aU<|xS R<|aZ<|aT λc8=>cI R h5 (λX=>?_) λX=>?_
 ·refine Zd<|c8 _<|aT λc9=>Zf<|aU<|mM R<|mA R<|aZ<|aR<|mM R<|mM R<|mM R<|mM R<|AG X λC u h7=>sQ R (Em R Ah.slice iL R iL λ_=>u)<|sQ R (Fg (ob:=.arr _ _ _ _) R CR iL fR R)<|sQ R (Ju (d:=.sl<|C.Attrs.map AC.row) R BA iL fR (λ_=>u) R)<|mM R ?_
  refine sQ R (Bg R GY (q:=[(0,_),(1,_)]) (by exact⟨R,R,R,iL,R,R,R,iL,Za⟩) (cs:=[.r<|.str [97,100,100],rS c])<|by rfl) ?_
  refine sQ R (Bg R GY (q:=[(0,_)]) (by exact⟨R,R,R,iL,Za⟩) (cs:=Sh)<|by rfl) ?_
  refine sS R (Bw 30 R Ac (f:=AC.row) (l:=([(AC.mk [97,100,100] c),(AC.mk [99,117,116] [])]:List AC)) ⟨R,⟨_,iL,R⟩,R,⟨_,iL,R⟩,Za⟩ R (λ_=>R) R) ?_
  refine AN.weak (by exact Ak.frz (e':=[(0,qb f1),(1,rI a),(3,rS c),(9,.own 14<|j 0),(10,rI q),(16,rL E),(17,rI q),(18,rB<|(decide<|q<(E.length:Int))),(19,rI q),(20,.own 14<|j 0),(21,rI q),(22,.own 14<|j 0),(23,rI q),(24,.ptr 14 (j 0) q.toNat 0),(25,.ptr 14 (j 0) q.toNat 2),(26,qa C.Attrs),(27,rS c),(28,.agg [.r<|.str [97,100,100],rS c]),(29,.agg Sh),(30,.r<|.sl<|[(AC.mk [97,100,100] c),(AC.mk [99,117,116] [])].map AC.row)]) (h':=[(14,some<|.arr (j 0) 51 3<|F.map AD.row)]) 30 R ⟨jL,jL,jL,jL,jL,jL,jL,jL,jL,jL,jL,jL,jL,jL,jL,jL,jL,jL,jL,.inl<|.inr<|.inr ⟨R,R⟩,Za⟩ ⟨R,.inl R,Za⟩) ?_
  refine AG h7 λr3 Y h8=>sS R (CB (r:=qa r3) (caps:=[]) (bs:=[qa C.Attrs,.r<|.sl<|[(AC.mk [97,100,100] c),(AC.mk [99,117,116] [])].map AC.row]) R iL R ⟨.inl ⟨iL,R⟩,.inl ⟨iL,R⟩,Za⟩ λ_=>U0<|Y)<|sQ R (Em R Ah.slice iL R iL λ_=>u)<|sQ R (Fg (ob:=.arr _ _ _ _) R CR iL fR R)<|Zk R R (Kw (v:=(AD.mk C.Char C.Ref r3)) R F9 iL R u iL R R R R)<|aZ<|c9 _<|aG [0,1,3,9,16,17] [14] ?_
  exact aR<|AG h8 λx6 Z h9=>xA R Z<|mM R<|Zh<|ZH h9 (AH [(j 0),((j 1)+1)]) wk
 exact Zn<|J _ _ wk<|J1 _ (AH [(j 0),(j 1)])<|xH V X
theorem Sa{d1 r}(h:J0 d1=some r):AO prog 148 [qd d1] (.tup [rI r.1,rI r.2]):=by
 unfold J0 at h
 refine mF func148 ntmps148 R λn0=>aU<|mA R<|mA R<|aZ<|aU<|mA R<|mA R<|aZ<|aS λK3 c3 a0=>aU<|mM R<|xL Bx R<|mM R<|aZ<|Zf<|LN h λo1 O a1=>?_
 have J1:∀(l:Int) (A:Int) (i5:NN),o1=(l,A)→K3 ⟨[(4,rI l),(5,rI A)],[],(i5 0),31⟩:=by
  intro l A i5 e
  have h1:=a1 _ _ e
  exact c3 _<|aU<|mM R<|mM R<|mA R<|mA R<|aZ<|Zj<|DD (P:=prog) (λ(r:Int × Int)=>rI r.1) (λ(r:Int × Int)=>rI r.2) h1 iL (.t<|.d R)<|.t<|.d R
 refine IP (λ(q:Int) (j:Int) (T:Int) I=>⟨[(4,rI q),(5,rI j),(8,qd d1),(9,rL d1),(10,rI T)],[],(I 0),31⟩) (AH [n0]) O wk ?_
 intro q j T I v1 a2 a6
 have h2:Jn d1 q j T=some v1:=a2;unfold Jn at h2
 refine aU<|xS R<|aZ<|aT λc7=>cI R h2 (λh3=>?_) λh3=>?_
 ·refine Zd<|c7 _<|aS λK8 c8 U=>Zf<|LN h3 λp1 a7 a8=>?_
  have J2:∀(u:Int) (B:Int) (i6:NN),p1=(u,B)→K8 ⟨[(4,rI u),(5,rI B),(8,qd d1),(9,rL d1),(10,rI T)],[],(i6 0),31⟩:=by
   intro u B i6 e
   have h4:=a8 _ _ e
   exact c8 _<|aR<|AG h4 λx4 aa h5=>xA R aa<|mM R<|Zh<|Dg.mk h5 (AH [(i6 0)]) wk
  refine aU<|AG a7 λx5 ab h6=>xI Bx R ab<|xB ((Bq x5)) En R<|sS R (BB (cs:=EH) 7 R FH R R)<|Zk R R (Af (ds:=(Bq x5)) R FT iL R iL R R R R)<|aZ<|aS λac ad F=>aU<|lF CG AJ R R<|xU R<|aZ<|A3 h6 λp2 V ae=>?_
  have J3:∀(w:Int) (Y:NN),p2=w→ac ⟨[(4,rI w),(5,rI j),(7,.ptr 7 (I 0) 0 0),(8,qd d1),(9,rL d1),(10,rI T)],[(7,some<|.box (I 0) 100<|Bq x5)],(Y 0),31⟩:=by
   intro w Y e
   have h7:=ae _ e
   refine ad _<|aU<|lF CG AJ R R<|xU R<|aZ<|cI R h7 (λh8=>?_) λh8=>?_
   ·exact aR<|mM R<|xC En R<|AG h8 λr1 af h9=>cL (UR<|af) R<|AG h9 λZ E ag=>xA R E<|mA R<|Zh<|U _ _ wk<|J2 _ _ (AH [(Y 0)]) (Zb ag).symm
   exact Zd<|U _ _ wk<|J2 _ _ (AH [(Y 0)]) (Zb h8).symm
  refine aC R (λJ=>?_) λJ=>?_
  ·have M:=Br J V
   exact aR<|mM R<|lF EM AJ R R<|AG M λX C ah=>xA R C<|mA R<|Zh<|F _ _ wk<|J3 _ (AH [((I 0)+1)]) (Zb ah).symm
  ·have M:=Bt J V
   exact Zd<|F _ _ wk<|J3 _ (AH [((I 0)+1)]) (Zb M).symm
 exact Zn<|a0 _ _ wk<|J1 _ _ (AH [(I 0)])<|xH a6 h3
theorem KH{l:BZ}{r:Int}{j:Nat}(h:GW l=some r):BY prog 149 1 [.ptr 1000 j 0 0] [(1000,some<|.box j 196 [qd l.steps,rI l.used])] (λq h'=>∃(i:Nat→Nat),q=rI r∧h'=[(1000,some<|.box j 196 [qd l.steps,rI l.used])]):=by
 unfold GW at h
 refine Dq func149 R R ntmps149 (Zw R) λB=>aU<|mA R<|aZ<|aT λC=>aU<|mM R<|sQ R (B1 (ob:=.box _ _ _) R iL fR R)<|lF L7 EE R R<|xL Bx R<|xQ R<|aZ<|cI R h (λu=>?_) λu=>?_
 ·refine aU<|mA R<|aZ ?_
  exact Zj<|ZM (s':=⟨[(2,rI<|(-1))],[(1000,some<|.box j 196 [qd l.steps,rI l.used])],B,16⟩) wk<|B8 (λ(r:Int) q h'=>∃(i:Nat→Nat),q=rI r∧h'=[(1000,some<|.box j 196 [qd l.steps,rI l.used])]) u<|by exact⟨rI<|(-1),[(1000,some<|.box j 196 [qd l.steps,rI l.used])],R,⟨.inr R,Za⟩,R,R,AH [],R,R⟩
 refine Zd<|C _<|aU<|mM R<|sQ R (B1 (ob:=.box _ _ _) R iL fR R)<|lF L7 EE R R<|AG u λw A E=>xI Bx R A<|sQ R (A2 R CG iL)<|xV (.int .i64 w.Kind) AJ R<|mA R<|aZ ?_
 exact Zj<|ZM (s':=⟨[(2,rI w.Kind)],[(1000,some<|.box j 196 [qd l.steps,rI l.used])],B,16⟩) wk<|B8 (λ(r:Int) q h'=>∃(i:Nat→Nat),q=rI r∧h'=[(1000,some<|.box j 196 [qd l.steps,rI l.used])]) E<|by exact⟨rI w.Kind,[(1000,some<|.box j 196 [qd l.steps,rI l.used])],R,⟨.inr R,Za⟩,R,R,AH [],R,R⟩
theorem Jr{l:BZ}{r:Int}{j:Nat}(h:Gg l=some r):BY prog 151 1 [.ptr 1000 j 0 0] [(1000,some<|.box j 196 [qd l.steps,rI l.used])] (λu h'=>∃(i:Nat→Nat),u=rI r∧h'=[(1000,some<|.box j 196 [qd l.steps,rI l.used])]):=by
 unfold Gg at h
 refine Dq func151 R R ntmps151 (Zw R) λE=>aU<|mA R<|aZ<|aT λF=>?_
 refine ZA BJ (by kernel_rfl) ?_
 refine qP R (AK R iL)<|qP R (B1 (ob:=.box _ _ _) R iL fR R)<|qP R (fB R L7 iL fR R)<|qP R (AZ (a:=qd l.steps) R EE iL R R)<|AG h λq w I=>qP R (Ap R Bx.slice iL iL (λ_=>R) λ_=>w)<|qP R (CU (cs:=(Bq q)) R En iL R R)<|AG I λJ A M=>Ep R R R (r:=rI J) (caps:=[]) (bs:=(Rm q)) R iL R ⟨⟨_,iL,.g (cs:=[.int .i64 q.Kind,.int .i64 q.N,.sl<|q.Attrs.map AC.row,.sl<|q.Elems.map AD.row]) R R⟩,Za⟩ (λ_=>UR<|A) R<|qP R (AK R iL)<|qP R (B1 (ob:=.box _ _ _) R iL fR R)<|qP R (fB R Lz iL fR R)<|qP R (AZ (a:=rI l.used) R AJ iL R R)<|AG M λC B O=>qP R (CF R iL iL λ_=>B)<|qP R (Do R iL)<|AQ.nil<|F _ ?_
 exact Zj<|ZM (s':=⟨[(2,rI C)],[(1000,some<|.box j 196 [qd l.steps,rI l.used])],E,15⟩) wk<|B8 (λ(r:Int) u h'=>∃(i:Nat→Nat),u=rI r∧h'=[(1000,some<|.box j 196 [qd l.steps,rI l.used])]) O<|by exact⟨rI C,[(1000,some<|.box j 196 [qd l.steps,rI l.used])],R,⟨.inr R,Za⟩,R,R,AH [],R,R⟩
theorem JG{u:BZ}{n1:Int}{r:AI × BZ}{j:Nat}(h:F1 u n1=some r):BY prog 150 1 [.ptr 1000 j 0 0,rI n1] [(1000,some<|.box j 196 [qd u.steps,rI u.used])] (λT h'=>∃(i:Nat→Nat),T=.agg (Bq r.1)∧h'=[(1000,some<|.box j 196 [qd r.2.steps,rI r.2.used])]):=by
 unfold F1 at h
 refine Dq func150 R R ntmps150 (Zw R) λq=>aU<|sS R (BB (cs:=EH) 4 R FH R R)<|aZ<|aU<|mM R<|sQ R (B1 (ob:=.box _ _ _) R iL fR R)<|lF L7 EE R R<|AG h λl E h1=>xI Bx R E<|xB ((Bq l)) En R<|sS R (BB (cs:=EH) 5 R FH R R)<|Zk R R (Af (ds:=(Bq l)) R FT iL R iL R R R R)<|aZ<|aS λK3 c3 F=>aU<|lF CG AJ R R<|xQ R<|aZ<|A3 h1 λp1 I U=>?_
 have J1:∀(A:AI) (O:NN),p1=A→K3 ⟨[(0,.ptr 1000 j 0 0),(1,rI n1),(4,.ptr 4 q 0 0),(5,.ptr 5 (q+1) 0 0)],[(4,some<|.box q 100 EH),(5,some<|.box (q+1) 100<|Bq A),(1000,some<|.box j 196 [qd u.steps,rI u.used])],(O 0),63⟩:=by
  intro A O e
  have h2:=U _ e
  refine c3 _<|aS λK5 c5 J=>aU<|mM R<|sQ R (B1 (ob:=.box _ _ _) R iL fR R)<|lF Lz AJ R R<|mM R<|AG h2 λV X h3=>xA R X<|sQ R (B1 (ob:=.box _ _ _) R iL fR R)<|sQ R (fB R Lz iL fR R)<|Zk R R (Af (ds:=[qd u.steps,rI V]) R G7 iL R iL R R R R)<|aZ<|aT λc7=>aG [0,4,5] [4,5,1000] ?_
  refine ZA BJ (by kernel_rfl) ?_
  refine qP R (AK R iL)<|qP R (B1 (ob:=.box _ _ _) R iL fR R)<|qP R (fB R Lz iL fR R)<|qP R (AZ (a:=rI V) R AJ iL R R)<|qP R (AK R iL)<|qP R (B1 (ob:=.box _ _ _) R iL fR R)<|qP R (fB R L7 iL fR R)<|qP R (AZ (a:=qd u.steps) R EE iL R R)<|qP R (Ap R Bx.slice iL iL (λ_=>R) λ_=>E)<|qP R (CU (cs:=(Bq l)) R En iL R R)<|AG h3 λr1 Y h4=>Ep R R R (r:=rI r1) (caps:=[]) (bs:=(Rm l)) R iL R ⟨⟨_,iL,.g (cs:=[.int .i64 l.Kind,.int .i64 l.N,.sl<|l.Attrs.map AC.row,.sl<|l.Elems.map AD.row]) R R⟩,Za⟩ (λ_=>UR<|Y) R<|qP R (Aq R iL iL)<|AQ.nil<|c7 _<|A3 h4 λp2 M Z=>?_
  have J2:∀(w:BZ) (i2:NN),p2=w→K5 ⟨[(4,.ptr 4 q 0 0),(5,.ptr 5 (q+1) 0 0)],[(4,some<|.box q 100 EH),(5,some<|.box (q+1) 100<|Bq A),(1000,some<|.box j 196 [qd w.steps,rI w.used])],(i2 0),63⟩:=by
   intro w i2 e
   have h5:=Z _ e
   refine c5 _<|aU<|xC En R<|Zk R R (Af (ds:=(Bq A)) R FT iL R iL R R R R)<|aZ ?_
   exact Zj<|ZM (s':=⟨[(4,.ptr 4 q 0 0)],[(4,some<|.box q 100<|Bq A),(1000,some<|.box j 196 [qd w.steps,rI w.used])],(i2 0),63⟩) wk<|B8 (λ(r:AI × BZ) T h'=>∃(i:Nat→Nat),T=.agg (Bq r.1)∧h'=[(1000,some<|.box j 196 [qd r.2.steps,rI r.2.used])]) h5<|by exact⟨.agg<|Bq A,[(1000,some<|.box j 196 [qd w.steps,rI w.used])],.inr ⟨_,R,En,_,_,_,R,R⟩,⟨.inr R,Za⟩,R,R,AH [],R,R⟩
  refine aC R (λB=>?_) λB=>?_
  ·have h6:=Br B M
   refine aG [0,4,5] [4,5,1000] ?_
   refine aR<|mM R<|mM R<|mM R<|sQ R (B1 (ob:=.box _ _ _) R iL fR R)<|lF L7 EE R R<|AG h6 λl1 a0 h7=>?_
   refine sQ R (TC R Bx.slice iL (by exact⟨_,iL⟩) (by exact R) (λ_=>R) λ_=>a0) ?_
   exact sQ R (B1 (ob:=.box _ _ _) R iL fR R)<|sQ R (fB R L7 iL fR R)<|Zk R R (Af (ds:=[qd l1,rI V]) R SS iL R iL R R R R)<|sQ R (B1 (ob:=.box _ _ _) R iL fR R)<|sQ R (fB R Lz iL fR R)<|Zk R R (Af (ds:=[qd l1,rI 0]) R G7 iL R iL R R R R)<|Zh<|J _ _ wk<|J2 _ (AH [(O 0)]) (Zb h7).symm
  ·have h6:=Bt B M
   exact Zd<|J _ _ wk<|J2 _ (AH [(O 0)]) (Zb h6).symm
 refine aC R (λC=>?_) λC=>?_
 ·have h8:=Br C I
  refine aG [0,1,4,5] [4,5,1000] ?_
  refine MA 14 BJ (by kernel_rfl) R R ?_
  refine Zt R R R (fB R EK iL fR R)<|Zt R R R (AZ (a:=qb l.Elems) R B2 iL R R)<|Zt R R R (AK R iL)<|Zt R R R (B1 (ob:=.box _ _ _) R iL fR R)<|Zt R R R (fB R Lz iL fR R)<|Zt R R R (AZ (a:=rI u.used) R AJ iL R R)<|Zt R R R (AK R iL)<|Zt R R R (B1 (ob:=.box _ _ _) R iL fR R)<|Zt R R R (fB R Lz iL fR R)<|Zt R R R (AZ (a:=rI u.used) R AJ iL R R)<|Zt R R R (AK R iL)<|AG h8 λx3 a1 h9=>Zt R R R (G5 R iL iL λ_=>a1)<|AG h9 λl2 a2 a6=>?_
  refine Zt R R R (TC R Ah.slice iL (by exact⟨_,iL⟩) (by exact⟨_,iL⟩) (λ_=>R) λ_=>a2) ?_
  exact Zt R R R (fB R EK iL fR R)<|AT.nil<|Zk R R (Af (ds:=[rI l.Kind,rI l.N,qa l.Attrs,qb l2]) R S8 iL R iL R R R R)<|Zh<|F _ _ wk<|J1 _ (AH [(q+2)]) (Zb a6).symm
 ·have h8:=Bt C I
  refine aG [0,1,4,5] [4,5,1000] ?_
  exact aR<|mM R<|sQ R (fB R EM iL fR R)<|Zk R R (Af (ds:=[rI l.Kind,rI n1,qa l.Attrs,qb l.Elems]) R G7 iL R iL R R R R)<|Zh<|F _ _ wk<|J1 _ (AH [(q+2)]) (Zb h8).symm
theorem Xz{w:List AC}{A:AC}{B:AC}{r:(List AC)}{j:Nat}{l:Nat}(h:Kr w A B=some r):BY prog 188 2 [.agg<|BF A,.agg<|BF B,.ptr 1000 j 0 0] [(1000,some<|.box j 39 [.own 1001 l]),(1001,some<|.arr l 58 2<|w.map AC.row)] (λu h'=>∃(i:Nat→Nat),u=.tup []∧h'=[(1000,some<|.box j 39 [.own 1001<|i 0]),(1001,some<|.arr (i 0) 58 2<|r.map AC.row)]):=by
 unfold Kr at h
 refine Dq func188 R R ntmps188 (Zw R) λq=>aU<|sS R (Ay (cs:=(BF A)) 3 R iL R R)<|sS R (Ay (cs:=(BF B)) 4 R iL R R)<|aZ<|aU<|lF CO BC R R<|sQ R (Bo R iL iL)<|aZ<|cI R h (λC=>?_) λC=>?_
 ·refine aR<|sQ R (AZ (a:=.own 1001 l) R BA iL R R)<|xC CJ R<|sS R (Bw 10 R Ac (f:=AC.row) (l:=([A]:List AC)) ⟨R,⟨_,iL,R⟩,Za⟩ R (λ_=>R) R)<|AG C λF E I=>sS R (Ca R Ac iL R (.inr<|.inl ⟨_,_,iL,R⟩) E)<|Zk R R (Af (ds:=[.own 1001<|q+3]) R F9 iL R iL R R R R)<|Zh ?_
  exact ZM (s':=⟨[],[(1000,some<|.box j 39 [.own 1001<|q+3]),(1001,some<|.arr (q+3) 58 2<|F.map AC.row)],(q+4),12⟩) wk<|B8 (λ(r:(List AC)) u h'=>∃(i:Nat→Nat),u=.tup []∧h'=[(1000,some<|.box j 39 [.own 1001<|i 0]),(1001,some<|.arr (i 0) 58 2<|r.map AC.row)]) I<|by exact⟨.tup [],[(1000,some<|.box j 39 [.own 1001<|q+3]),(1001,some<|.arr (q+3) 58 2<|F.map AC.row)],⟨_,R,Za⟩,⟨.inr R,.inr R,Za⟩,R,R,AH [(q+3)],R,R⟩
 refine Zd ?_
 exact ZM (s':=⟨[],[(1000,some<|.box j 39 [.own 1001 l]),(1001,some<|.arr l 58 2<|w.map AC.row)],(q+2),12⟩) wk<|B8 (λ(r:(List AC)) u h'=>∃(i:Nat→Nat),u=.tup []∧h'=[(1000,some<|.box j 39 [.own 1001<|i 0]),(1001,some<|.arr (i 0) 58 2<|r.map AC.row)]) C<|by exact⟨.tup [],[(1000,some<|.box j 39 [.own 1001 l]),(1001,some<|.arr l 58 2<|w.map AC.row)],⟨_,R,Za⟩,⟨.inr R,.inr R,Za⟩,R,R,AH [l],R,R⟩
theorem sF{c1:List AC}{B:List AC}{C:List AC}{r:(List AC)}{j:Nat}{l:Nat}(h:Pe c1 B C=some r):BY prog 144 2 [qa B,qa C,.fn 188 [.ptr 1000 j 0 0]] [(1000,some<|.box j 39 [.own 1001 l]),(1001,some<|.arr l 58 2<|c1.map AC.row)] (λE h'=>∃(i:Nat→Nat),E=.tup []∧h'=[(1000,some<|.box j 39 [.own 1001<|i 0]),(1001,some<|.arr (i 0) 58 2<|r.map AC.row)]):=by
 unfold Pe at h
 refine Dq func144 R R ntmps144 (Zw R) λn0=>aU<|mA R<|mA R<|aZ<|Zf<|BI h λo4 w av F=>IP (λ(I:Int) (J:Int) (o2:List AC) q=>⟨[(0,qa B),(1,qa C),(2,.fn 188 [.ptr 1000 j 0 0]),(6,rI I),(7,rI J)],[(1000,some<|.box j 39 [.own 1001<|q 0]),(1001,some<|.arr (q 0) 58 2<|o2.map AC.row)],(q 1),92⟩) (AH [l,n0]) w wk ?_
 intro I J o2 q v1 M O
 have h1:QF B C I J o2=some v1:=M;unfold QF at h1
 refine aT λC2=>aU<|mM R<|mM R<|xL Ac R<|xS R<|mM R<|vM R<|vM R<|vQ R (Bu R Ac.slice<|iR R)<|vQ R (B7 R (iR R)<|iR R)<|xO R<|aZ<|cI R h1 (λT=>?_) λT=>?_
 ·refine Zd<|C2 _<|Zf<|Zf<|aT λC4=>?_
  refine ZA BJ (by kernel_rfl) ?_
  refine qP R (AK R iL)<|qP R (AK R iL)<|qP R (Bu R Ac.slice iL)<|qP R (Aq R iL iL)<|qP R (AK R iL)<|qO R (AK R iL)<|qO R (AK R iL)<|qO R (Bu R Ac.slice<|iR R)<|qO R (B7 R (iR R)<|iR R)<|qO R (AK R<|iR R)<|qT R (AK R iL)<|qT R (AK R iL)<|AG T λx1 U h3=>qT R (Ap R Ac.slice (iR R) (iR R) (λ_=>R)<|AP U)<|qT R (A2 R CO<|iR R)<|qT R (BU (d:=.str x1.Name) R BC (iR R) R)<|qT R (AK R iL)<|qT R (AK R iL)<|AG h3 λx2 V h4=>qT R (Ap R Ac.slice (iR R) (iR R) (λ_=>R)<|AP V)<|qT R (A2 R CO<|iR R)<|qT R (BU (d:=.str x2.Name) R BC (iR R) R)<|qT R (LH R (iR R)<|iR R)<|qO R (BP R (iR R)<|iR R)<|qP R (CM R iL<|iR R)<|qP R (Do R iL)<|AQ.nil<|C4 _<|cI R h4 (λX=>?_) λX=>?_
  ·refine aT λC5=>aG [0,1,2,6,7] [1000,1001] ?_
   refine aR<|mM R<|mM R<|mM R<|AG X λx3 Y h6=>xI Ac R Y<|xB ((BF x3)) CJ R ?_
   refine sQ R (Bg R GY (q:=[]) (by exact Za) (cs:=[.r<|.str [],.r<|.str []])<|by rfl) ?_
   refine AG h6 λw1 Z h7=>?_
   refine Zo [1000,1001] (hc:=[(1000,some<|.box j 39 [.own 1001<|q 0]),(1001,some<|.arr (q 0) 58 2<|o2.map AC.row)]) (bs:=(XQ x3)) (caps:=[.ptr 1000 j 0 0]) R R R R iL R ⟨.inl ⟨iL,R⟩,.inl ⟨iL,R⟩,Za⟩ ⟨R,R,R,R,R,R,Za⟩ (by decide) (Xz Z) ?_
   intro i8 n1
   refine A7 [0,1,2,6,7,56,57,58,59,60,61,62] [1000,1001] ?_
   exact aZ<|C5 _<|aR<|mM R<|AG h7 λi9 a0 h8=>xA R a0<|mA R<|Zh<|Dg.mk h8 (AH [(i8 0),n1]) wk
  refine aT λC6=>aG [0,1,2,6,7] [1000,1001] ?_
  refine ZA BJ (by kernel_rfl) ?_
  refine qP R (AK R iL)<|qP R (AK R iL)<|qP R (Bu R Ac.slice iL)<|qP R (Aq R iL iL)<|qP R (AK R iL)<|qO R (AK R iL)<|qO R (AK R iL)<|AG X λx4 a2 h9=>qO R (Ap R Ac.slice (iR R) (iR R) (λ_=>R)<|AP a2)<|qO R (A2 R CO<|iR R)<|qO R (BU (d:=.str x4.Name) R BC (iR R) R)<|qO R (AK R iL)<|qO R (AK R iL)<|AG h9 λx5 a6 a7=>qO R (Ap R Ac.slice (iR R) (iR R) (λ_=>R)<|AP a6)<|qO R (A2 R CO<|iR R)<|qO R (BU (d:=.str x5.Name) R BC (iR R) R)<|qO R (LH R (iR R)<|iR R)<|qP R (CM R iL<|iR R)<|qP R (Do R iL)<|AQ.nil<|C6 _<|cI R a7 (λu=>?_) λu=>?_
  ·refine aT λC7=>aR<|mM R ?_
   refine sQ R (Bg R GY (q:=[]) (by exact Za) (cs:=[.r<|.str [],.r<|.str []])<|by rfl) ?_
   refine mM R<|mM R<|AG u λx6 a8 aa=>xI Ac R a8<|xB ((BF x6)) CJ R<|AG aa λw2 ab ac=>?_
   refine Zo [1000,1001] (hc:=[(1000,some<|.box j 39 [.own 1001<|q 0]),(1001,some<|.arr (q 0) 58 2<|o2.map AC.row)]) (bs:=(Wk x6)) (caps:=[.ptr 1000 j 0 0]) R R R R iL R ⟨.inl ⟨iL,R⟩,.inl ⟨iL,R⟩,Za⟩ ⟨R,R,R,R,R,R,Za⟩ (by decide) (Xz ab) ?_
   intro ad n2
   refine A7 [0,1,2,6,7,65,66,67,68,69,70,82,83,84,85,86,87,88,89] [1000,1001] ?_
   refine aZ<|C7 _<|aG [0,1,2,6,7] [1000,1001] ?_
   exact aR<|mM R<|AG ac λj4 ae af=>xA R ae<|mA R<|Zh<|Dg.mk af (AH [(ad 0),n2]) wk
  refine aT λC8=>?_
  refine MA 9 BJ (by kernel_rfl) R R ?_
  refine Zt R R R (AK R iL)<|Zt R R R (AK R iL)<|Zt R R R (AK R iL)<|AG u λx7 ag ah=>Zt R R R (Ap R Ac.slice iL iL (λ_=>R) λ_=>ag)<|Zt R R R (CU (cs:=(BF x7)) R CJ iL R R)<|Zt R R R (AK R iL)<|Zt R R R (AK R iL)<|AG ah λx8 ai aj=>Zt R R R (Ap R Ac.slice iL iL (λ_=>R) λ_=>ai)<|Zt R R R (CU (cs:=(BF x8)) R CJ iL R R)<|AT.nil<|AG aj λw3 ak al=>?_
  refine Zo [1000,1001] (hc:=[(1000,some<|.box j 39 [.own 1001<|q 0]),(1001,some<|.arr (q 0) 58 2<|o2.map AC.row)]) (bs:=[.agg<|BF x7,.agg<|BF x8]) (caps:=[.ptr 1000 j 0 0]) R R R R iL R ⟨.inl ⟨iL,R⟩,.inl ⟨iL,R⟩,Za⟩ ⟨R,R,R,R,R,R,Za⟩ (by decide) (Xz ak) ?_
  intro an n3
  refine A7 [0,1,2,6,7,18,19,20,21,22,23,24,25,26,27,65,66,67,68,69,70,82] [1000,1001] ?_
  refine aZ<|C8 _<|aG [0,1,2,6,7] [1000,1001] ?_
  exact aR<|mM R<|AG al λaw A ao=>xA R A<|mM R<|AG ao λj5 aq ar=>xA R aq<|mA R<|mA R<|Zh<|Dg.mk ar (AH [(an 0),n3]) wk
 refine Zn ?_
 exact ZM (s':=⟨[],[(1000,some<|.box j 39 [.own 1001<|q 0]),(1001,some<|.arr (q 0) 58 2<|o2.map AC.row)],(q 1),92⟩) wk<|B8 (λ(r:(List AC)) E h'=>∃(i:Nat→Nat),E=.tup []∧h'=[(1000,some<|.box j 39 [.own 1001<|i 0]),(1001,some<|.arr (i 0) 58 2<|r.map AC.row)]) (F _<|xH O T)<|by exact⟨.tup [],[(1000,some<|.box j 39 [.own 1001<|q 0]),(1001,some<|.arr (q 0) 58 2<|o2.map AC.row)],⟨_,R,Za⟩,⟨.inr R,.inr R,Za⟩,R,R,AH [(q 0)],R,R⟩
theorem ud{l q r}(h:Oj l q=some r):AO prog 154 [qa l,qa q] (qa r):=by
 unfold Oj at h
 refine mF func154 ntmps154 R λj=>aU<|mA R<|aZ<|aU<|sS R (BB (cs:=[cZ]) 5 R YL R R)<|aZ<|aT λw=>aR<|mM R<|mM R ?_
 refine sQ R (QL (bs:=[.ptr 5 j 0 0]) R<|by exact⟨iL,Za⟩) ?_
 refine AN.weak (Zm (FB 5 0 3050 58 2 (by decide) R R<|by decide)<|by exact ZC (e':=[(0,qa l),(1,qa q),(4,cZ),(5,.ptr 5 j 0 0),(6,qa l),(7,qa q),(8,.fn 188 [.ptr 5 j 0 0])]) (h':=[(5,some<|.box j 39 [.own 3050<|j+1]),(3050,some<|.arr (j+1) 58 2<|([]:List AC).map AC.row)]) ⟨jL,jL,jL,jL,jL,jL,jL,Za⟩ ⟨.inl R,.inl R,Za⟩ nL) ?_
 refine AG h λC u A=>?_
 refine Zo [5,3050] (hc:=[(1000,some<|.box j 39 [.own 1001<|j+1]),(1001,some<|.arr (j+1) 58 2<|([]:List AC).map AC.row)]) (bs:=[qa l,qa q,.fn 188 [.ptr 1000 j 0 0]]) (caps:=[]) R R R R iL R ⟨.inl ⟨iL,R⟩,.inl ⟨iL,R⟩,.inl ⟨iL,R⟩,Za⟩ ⟨R,R,R,R,R,R,Za⟩ (by decide) (sF u) ?_
 intro B E
 refine A7 [0,1,4,5,6,7,8,9] [5,3050] ?_
 exact aZ<|w _<|aU<|sQ R (AZ (a:=.own 3050<|B 0) R BA iL R R)<|mA R<|aZ<|Zj<|Cz (P:=prog) (λ(r:(List AC))=>qa r) A iL<|.t<|.one<|.own R
end Go.Proofs.YtdafahjmopdleaaGreatDoor.Al
