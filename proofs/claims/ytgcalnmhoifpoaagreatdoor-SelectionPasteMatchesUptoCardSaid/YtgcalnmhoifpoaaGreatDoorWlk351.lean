/- Walks, as printed. -/
import Derived.Test.YtgcalnmhoifpoaaGreatDoorPL2
import Derived.Test.YtgcalnmhoifpoaaGreatDoorProg
set_option linter.all false
set_option maxHeartbeats 4000000
set_option maxRecDepth 20000
set_option linter.unusedVariables false
namespace Go.Proofs.YtgcalnmhoifpoaaGreatDoor.Al
open Go.Proofs Go.Proofs.Tryz
@[reducible] noncomputable def CU t:=(prog.info? t).map (λi=>(i.zero,i.size,i.bytes))
theorem BA:prog.follows .mixedOrders=true:=by kernel_rfl
theorem UC:CU 105=some (some<|.agg #[.bool false,.bool false,.bool false,.bool false,.bool false],5,5):=by kernel_rfl
theorem XA:CU 112=some (some<|.slice none 0 0,1,24):=by kernel_rfl
theorem VN:CU 113=some (some<|.slice none 0 0,1,24):=by kernel_rfl
theorem WU:CU 114=some (some<|.slice none 0 0,1,24):=by kernel_rfl
theorem RC:CU 116=some (some<|.agg #[.slice none 0 0,.slice none 0 0,.slice none 0 0],3,72):=by kernel_rfl
theorem pI:CU 143=some (some<|.agg #[.slice none 0 0,.slice none 0 0,.int .i64 0],3,56):=by kernel_rfl
theorem jQ:CU 146=some (some<|.agg #[.slice none 0 0,.int .i64 0],2,32):=by kernel_rfl
theorem TC:CU 163=some (some<|.agg #[.int .i64 0,.int .i64 0,.int .i64 0,.int .i64 0],4,32):=by kernel_rfl
theorem Sx:CU 165=some (some<|.agg #[.int .i64 0,.int .i64 0,.int .i64 0,.int .i64 0,.int .i64 0,.string ⟨#[]⟩,.string ⟨#[]⟩,.string ⟨#[]⟩],8,88):=by kernel_rfl
theorem Tj:CU 183=some (some<|.agg #[.int .i64 0,.int .i64 0,.string ⟨#[]⟩,.int .i64 0,.slice none 0 0],5,64):=by kernel_rfl
theorem nX:CU 190=some (some<|.agg #[.int .i64 0,.int .i64 0],2,16):=by kernel_rfl
theorem SD:CU 195=some (some<|.agg #[.int .u8 0,.int .u8 0],2,2):=by kernel_rfl
theorem YD:CU 22=some (some<|.slice none 0 0,1,24):=by kernel_rfl
theorem ls:CU 24=some (some<|.agg #[.slice none 0 0],1,24):=by kernel_rfl
theorem TO:CU 26=some (some<|.agg #[.int .i64 0,.int .i64 0,.int .i64 0],3,24):=by kernel_rfl
theorem M7:CU 27=some (some<|.slice none 0 0,1,24):=by kernel_rfl
theorem Cd:CU 3=some (some<|.int .i64 0,1,8):=by kernel_rfl
theorem IW:CU 35=some (some<|.slice none 0 0,1,24):=by kernel_rfl
theorem Ks:CU 37=some (some<|.agg #[.int .i64 0,.int .i64 0,.slice none 0 0],3,40):=by kernel_rfl
theorem M6:CU 39=some (some<|.agg #[.string ⟨#[]⟩,.string ⟨#[]⟩],2,32):=by kernel_rfl
theorem MH:CU 4=some (some<|.bool false,1,1):=by kernel_rfl
theorem WG:CU 40=some (some<|.slice none 0 0,1,24):=by kernel_rfl
theorem Tb:CU 41=some (some<|.slice none 0 0,1,24):=by kernel_rfl
theorem Ww:CU 43=some (some<|.agg #[.int .i64 0,.int .i64 0,.slice none 0 0,.slice none 0 0],4,64):=by kernel_rfl
theorem XP:CU 44=some (some<|.slice none 0 0,1,24):=by kernel_rfl
theorem KC:CU 46=some (some<|.agg #[.int .i64 0,.int .i64 0,.slice none 0 0,.slice none 0 0,.int .i64 0,.int .i64 0,.slice none 0 0,.slice none 0 0,.slice none 0 0],9,152):=by kernel_rfl
theorem Su:CU 5=some (some<|.int .u8 0,1,1):=by kernel_rfl
theorem PK:CU 56=some (some<|.agg #[.int .i64 0,.int .i64 0,.slice none 0 0,.slice none 0 0],4,64):=by kernel_rfl
theorem Qc:CU 57=some (some<|.slice none 0 0,1,24):=by kernel_rfl
theorem WY:CU 58=some (some<|.slice none 0 0,1,24):=by kernel_rfl
theorem R1:CU 60=some (some<|.agg #[.slice none 0 0,.slice none 0 0,.slice none 0 0,.slice none 0 0,.slice none 0 0],5,120):=by kernel_rfl
theorem Xk:CU 62=some (some<|.agg #[.int .i64 0,.int .i64 0,.int .i64 0,.int .i64 0,.slice none 0 0,.slice none 0 0,.int .i64 0,.int .i64 0,.slice none 0 0,.slice none 0 0,.slice none 0 0,.slice none 0 0,.slice none 0 0,.slice none 0 0,.slice none 0 0,.slice none 0 0,.slice none 0 0,.slice none 0 0,.slice none 0 0],19,360):=by kernel_rfl
theorem Xh:CU 64=some (some<|.slice none 0 0,1,24):=by kernel_rfl
theorem Sg:CU 66=some (some<|.agg #[.int .i64 0,.int .i64 0,.slice none 0 0,.slice none 0 0,.int .i64 0,.int .i64 0,.slice none 0 0,.slice none 0 0,.slice none 0 0,.slice none 0 0,.string ⟨#[]⟩],11,192):=by kernel_rfl
theorem Jk:CU 9=some (some<|.string ⟨#[]⟩,1,16):=by kernel_rfl
theorem lb:CO prog 105 (.agg #[.bool false,.bool false,.bool false,.bool false,.bool false]):=CO.of UC
theorem am:CO prog 116 (.agg #[.slice none 0 0,.slice none 0 0,.slice none 0 0]):=CO.of RC
theorem TF:CO prog 143 (.agg #[.slice none 0 0,.slice none 0 0,.int .i64 0]):=CO.of pI
theorem dT:CO prog 163 (.agg #[.int .i64 0,.int .i64 0,.int .i64 0,.int .i64 0]):=CO.of TC
theorem ZS:CO prog 165 (.agg #[.int .i64 0,.int .i64 0,.int .i64 0,.int .i64 0,.int .i64 0,.string ⟨#[]⟩,.string ⟨#[]⟩,.string ⟨#[]⟩]):=CO.of Sx
theorem MZ:CO prog 183 (.agg #[.int .i64 0,.int .i64 0,.string ⟨#[]⟩,.int .i64 0,.slice none 0 0]):=CO.of Tj
theorem uI:CO prog 195 (.agg #[.int .u8 0,.int .u8 0]):=CO.of SD
theorem Vs:CO prog 26 (.agg #[.int .i64 0,.int .i64 0,.int .i64 0]):=CO.of TO
theorem V2:CO prog 35 (.slice none 0 0):=CO.of IW
theorem Ft:CO prog 37 (.agg #[.int .i64 0,.int .i64 0,.slice none 0 0]):=CO.of Ks
theorem Sv:CO prog 39 (.agg #[.string ⟨#[]⟩,.string ⟨#[]⟩]):=CO.of M6
theorem UY:CO prog 46 (.agg #[.int .i64 0,.int .i64 0,.slice none 0 0,.slice none 0 0,.int .i64 0,.int .i64 0,.slice none 0 0,.slice none 0 0,.slice none 0 0]):=CO.of KC
theorem E8:CO prog 56 (.agg #[.int .i64 0,.int .i64 0,.slice none 0 0,.slice none 0 0]):=CO.of PK
theorem tL:CO prog 60 (.agg #[.slice none 0 0,.slice none 0 0,.slice none 0 0,.slice none 0 0,.slice none 0 0]):=CO.of R1
theorem VT:CO prog 66 (.agg #[.int .i64 0,.int .i64 0,.slice none 0 0,.slice none 0 0,.int .i64 0,.int .i64 0,.slice none 0 0,.slice none 0 0,.slice none 0 0,.slice none 0 0,.string ⟨#[]⟩]):=CO.of Sg
theorem dD:Bf prog 116 3:=Bf.of underlying116 rfl RC
theorem El:Bf prog 163 4:=Bf.of underlying163 rfl TC
theorem Ig:Bf prog 165 8:=Bf.of underlying165 rfl Sx
theorem Fc:Bf prog 183 5:=Bf.of underlying183 rfl Tj
theorem qZ:Bf prog 195 2:=Bf.of underlying195 rfl SD
theorem E5:Bf prog 24 1:=Bf.of underlying24 rfl ls
theorem Fg:Bf prog 26 3:=Bf.of underlying26 rfl TO
theorem Dc:Bf prog 37 3:=Bf.of underlying37 rfl Ks
theorem CV:Bf prog 39 2:=Bf.of underlying39 rfl M6
theorem ME:Bf prog 43 4:=Bf.of underlying43 rfl Ww
theorem Gc:Bf prog 46 9:=Bf.of underlying46 rfl KC
theorem EX:Bf prog 56 4:=Bf.of underlying56 rfl PK
theorem ee:Bf prog 60 5:=Bf.of underlying60 rfl R1
theorem ji:Bf prog 62 19:=Bf.of underlying62 rfl Xk
theorem LM:Bf prog 66 11:=Bf.of underlying66 rfl Sg
theorem iu:H8 0=some (GK.flatMap<|Ai .u8):=by kernel_rfl
theorem lO:H8 1=some (Td.flatMap Ip.row):=by kernel_rfl
theorem lZ:QZ prog 105 [(0,1),(1,1),(2,1),(3,1),(4,1)] [.bool false,.bool false,.bool false,.bool false,.bool false]:=QZ.of (n:=5) (e:=4) underlying105 MH (ky<|by decide) UC
theorem rW:DY prog 116 [(0,1),(1,1),(2,1)] [.slice none 0 0,.slice none 0 0,.slice none 0 0]:=DY.of underlying116 (λw=>by kernel_rfl) RC
theorem TH:DY prog 146 [(0,1),(1,1)] [.slice none 0 0,.int .i64 0]:=DY.of underlying146 (λw=>by kernel_rfl) jQ
theorem JI:DY prog 26 [(0,1),(1,1),(2,1)] [.int .i64 0,.int .i64 0,.int .i64 0]:=DY.of underlying26 (λw=>by kernel_rfl) TO
theorem SP:DY prog 37 [(0,1),(1,1),(2,1)] [.int .i64 0,.int .i64 0,.slice none 0 0]:=DY.of underlying37 (λw=>by kernel_rfl) Ks
theorem GJ:DY prog 39 [(0,1),(1,1)] [.string ⟨#[]⟩,.string ⟨#[]⟩]:=DY.of underlying39 (λw=>by kernel_rfl) M6
theorem mt:DY prog 43 [(0,1),(1,1),(2,1),(3,1)] [.int .i64 0,.int .i64 0,.slice none 0 0,.slice none 0 0]:=DY.of underlying43 (λw=>by kernel_rfl) Ww
theorem sH:DY prog 46 [(0,1),(1,1),(2,1),(3,1),(4,4),(8,1)] [.int .i64 0,.int .i64 0,.slice none 0 0,.slice none 0 0,.int .i64 0,.int .i64 0,.slice none 0 0,.slice none 0 0,.slice none 0 0]:=DY.of underlying46 (λw=>by kernel_rfl) KC
theorem LX:DY prog 56 [(0,1),(1,1),(2,1),(3,1)] [.int .i64 0,.int .i64 0,.slice none 0 0,.slice none 0 0]:=DY.of underlying56 (λw=>by kernel_rfl) PK
theorem iq:DY prog 62 [(0,1),(1,1),(2,9),(11,1),(12,1),(13,5),(18,1)] [.int .i64 0,.int .i64 0,.int .i64 0,.int .i64 0,.slice none 0 0,.slice none 0 0,.int .i64 0,.int .i64 0,.slice none 0 0,.slice none 0 0,.slice none 0 0,.slice none 0 0,.slice none 0 0,.slice none 0 0,.slice none 0 0,.slice none 0 0,.slice none 0 0,.slice none 0 0,.slice none 0 0]:=DY.of underlying62 (λw=>by kernel_rfl) Xk
theorem Md:DY prog 66 [(0,9),(9,1),(10,1)] [.int .i64 0,.int .i64 0,.slice none 0 0,.slice none 0 0,.int .i64 0,.int .i64 0,.slice none 0 0,.slice none 0 0,.slice none 0 0,.slice none 0 0,.string ⟨#[]⟩]:=DY.of underlying66 (λw=>by kernel_rfl) Sg
theorem rt:Iu prog 56 1 1:=Iu.of underlying56 rfl rfl underlying3 rfl
theorem ow:Iu prog 56 3 3:=Iu.of underlying56 rfl rfl underlying27 rfl
theorem YZ:FS prog 163 [some<|.int .i64,some<|.int .i64,some<|.int .i64,some<|.int .i64]:=FS.of underlying163 (by kernel_rfl) (by kernel_rfl)<|by exact⟨rfl,rfl,underlying3,rfl,rfl,underlying3,rfl,rfl,underlying3,rfl,rfl,underlying3,trivial⟩
theorem tM:FS prog 165 [some<|.int .i64,some<|.int .i64,some<|.int .i64,some<|.int .i64,some<|.int .i64,some .string,some .string,some .string]:=FS.of underlying165 (by kernel_rfl) (by kernel_rfl)<|by exact⟨rfl,rfl,underlying3,rfl,rfl,underlying3,rfl,rfl,underlying3,rfl,rfl,underlying3,rfl,rfl,underlying3,rfl,rfl,underlying9,rfl,rfl,underlying9,rfl,rfl,underlying9,trivial⟩
theorem lL:FS prog 26 [some<|.int .i64,some<|.int .i64,some<|.int .i64]:=FS.of underlying26 (by kernel_rfl) (by kernel_rfl)<|by exact⟨rfl,rfl,underlying3,rfl,rfl,underlying3,rfl,rfl,underlying3,trivial⟩
theorem Ya:FS prog 39 [some .string,some .string]:=FS.of underlying39 (by kernel_rfl) (by kernel_rfl)<|by exact⟨rfl,rfl,underlying9,rfl,rfl,underlying9,trivial⟩
theorem KK:AY prog 116 0 0:=AY.of underlying116 rfl rfl XA<|by decide
theorem Vh:AY prog 116 1 1:=AY.of underlying116 rfl rfl VN<|by decide
theorem U6:AY prog 116 2 2:=AY.of underlying116 rfl rfl WU<|by decide
theorem GW:AY prog 143 0 0:=AY.of underlying143 rfl rfl Qc<|by decide
theorem Py:AY prog 143 1 1:=AY.of underlying143 rfl rfl M7<|by decide
theorem Fv:AY prog 143 2 2:=AY.of underlying143 rfl rfl Cd<|by decide
theorem LN:AY prog 146 0 0:=AY.of underlying146 rfl rfl Qc<|by decide
theorem KU:AY prog 146 1 1:=AY.of underlying146 rfl rfl Cd<|by decide
theorem EC:AY prog 163 0 0:=AY.of underlying163 rfl rfl Cd<|by decide
theorem Eg:AY prog 163 1 1:=AY.of underlying163 rfl rfl Cd<|by decide
theorem HP:AY prog 163 2 2:=AY.of underlying163 rfl rfl Cd<|by decide
theorem Hj:AY prog 163 3 3:=AY.of underlying163 rfl rfl Cd<|by decide
theorem IG:AY prog 165 0 0:=AY.of underlying165 rfl rfl Cd<|by decide
theorem KB:AY prog 165 1 1:=AY.of underlying165 rfl rfl Cd<|by decide
theorem Gy:AY prog 165 2 2:=AY.of underlying165 rfl rfl Cd<|by decide
theorem W9:AY prog 165 3 3:=AY.of underlying165 rfl rfl Cd<|by decide
theorem Oo:AY prog 165 4 4:=AY.of underlying165 rfl rfl Cd<|by decide
theorem TX:AY prog 165 5 5:=AY.of underlying165 rfl rfl Jk<|by decide
theorem RG:AY prog 165 6 6:=AY.of underlying165 rfl rfl Jk<|by decide
theorem L7:AY prog 165 7 7:=AY.of underlying165 rfl rfl Jk<|by decide
theorem GA:AY prog 183 0 0:=AY.of underlying183 rfl rfl Cd<|by decide
theorem HD:AY prog 183 1 1:=AY.of underlying183 rfl rfl Cd<|by decide
theorem HV:AY prog 183 2 2:=AY.of underlying183 rfl rfl Jk<|by decide
theorem Fb:AY prog 183 3 3:=AY.of underlying183 rfl rfl Cd<|by decide
theorem Hf:AY prog 183 4 4:=AY.of underlying183 rfl rfl IW<|by decide
theorem Kx:AY prog 190 0 0:=AY.of underlying190 rfl rfl Cd<|by decide
theorem Vd:AY prog 190 1 1:=AY.of underlying190 rfl rfl Cd<|by decide
theorem mH:AY prog 195 0 0:=AY.of underlying195 rfl rfl Su<|by decide
theorem kf:AY prog 195 1 1:=AY.of underlying195 rfl rfl Su<|by decide
theorem Dq:AY prog 24 0 0:=AY.of underlying24 rfl rfl YD<|by decide
theorem Ni:AY prog 26 0 0:=AY.of underlying26 rfl rfl Cd<|by decide
theorem Gl:AY prog 26 1 1:=AY.of underlying26 rfl rfl Cd<|by decide
theorem Kn:AY prog 26 2 2:=AY.of underlying26 rfl rfl Cd<|by decide
theorem Ek:AY prog 37 0 0:=AY.of underlying37 rfl rfl Cd<|by decide
theorem D9:AY prog 37 1 1:=AY.of underlying37 rfl rfl Cd<|by decide
theorem DA:AY prog 37 2 2:=AY.of underlying37 rfl rfl IW<|by decide
theorem B1:AY prog 39 0 0:=AY.of underlying39 rfl rfl Jk<|by decide
theorem Jo:AY prog 39 1 1:=AY.of underlying39 rfl rfl Jk<|by decide
theorem GT:AY prog 43 0 0:=AY.of underlying43 rfl rfl Cd<|by decide
theorem GO:AY prog 43 1 1:=AY.of underlying43 rfl rfl Cd<|by decide
theorem F2:AY prog 43 2 2:=AY.of underlying43 rfl rfl WG<|by decide
theorem Fl:AY prog 43 3 3:=AY.of underlying43 rfl rfl Tb<|by decide
theorem Ei:AY prog 46 0 0:=AY.of underlying46 rfl rfl Cd<|by decide
theorem Cy:AY prog 46 1 1:=AY.of underlying46 rfl rfl Cd<|by decide
theorem TZ:AY prog 46 2 2:=AY.of underlying46 rfl rfl IW<|by decide
theorem FP:AY prog 46 3 3:=AY.of underlying46 rfl rfl M7<|by decide
theorem Ga:AY prog 46 4 4:=AY.of underlying46 rfl rfl Ww<|by decide
theorem JQ:AY prog 46 5 8:=AY.of underlying46 rfl rfl XP<|by decide
theorem CH:AY prog 56 0 0:=AY.of underlying56 rfl rfl Cd<|by decide
theorem Ed:AY prog 56 1 1:=AY.of underlying56 rfl rfl Cd<|by decide
theorem D7:AY prog 56 2 2:=AY.of underlying56 rfl rfl IW<|by decide
theorem Ef:AY prog 56 3 3:=AY.of underlying56 rfl rfl M7<|by decide
theorem X0:AY prog 60 0 0:=AY.of underlying60 rfl rfl WY<|by decide
theorem ek:AY prog 60 1 1:=AY.of underlying60 rfl rfl WY<|by decide
theorem ft:AY prog 60 2 2:=AY.of underlying60 rfl rfl WG<|by decide
theorem W3:AY prog 60 3 3:=AY.of underlying60 rfl rfl Tb<|by decide
theorem Ns:AY prog 60 4 4:=AY.of underlying60 rfl rfl Tb<|by decide
theorem QB:AY prog 62 0 0:=AY.of underlying62 rfl rfl Cd<|by decide
theorem VH:AY prog 62 1 1:=AY.of underlying62 rfl rfl Cd<|by decide
theorem Z5:AY prog 62 2 2:=AY.of underlying62 rfl rfl KC<|by decide
theorem eh:AY prog 62 3 11:=AY.of underlying62 rfl rfl IW<|by decide
theorem Sm:AY prog 62 4 12:=AY.of underlying62 rfl rfl Qc<|by decide
theorem dP:AY prog 62 5 13:=AY.of underlying62 rfl rfl R1<|by decide
theorem dR:AY prog 62 6 18:=AY.of underlying62 rfl rfl XP<|by decide
theorem XN:AY prog 66 0 0:=AY.of underlying66 rfl rfl KC<|by decide
theorem Ra:AY prog 66 1 9:=AY.of underlying66 rfl rfl Xh<|by decide
theorem X1:AY prog 66 2 10:=AY.of underlying66 rfl rfl Jk<|by decide
theorem Iz:Bj prog 112 27 1 24:=Bj.of underlying112 M7 rfl rfl<|by decide
theorem Ng:Bj prog 113 4 1 1:=Bj.of underlying113 MH rfl rfl<|by decide
theorem Ve:Bj prog 114 35 1 24:=Bj.of underlying114 IW rfl rfl<|by decide
theorem DI:Bj prog 22 46 9 152:=Bj.of underlying22 KC rfl rfl<|by decide
theorem Ah:Bj prog 27 37 3 40:=Bj.of underlying27 Ks rfl rfl<|by decide
theorem I7:Bj prog 29 62 19 360:=Bj.of underlying29 Xk rfl rfl<|by decide
theorem Ac:Bj prog 35 39 2 32:=Bj.of underlying35 M6 rfl rfl<|by decide
theorem Cm:Bj prog 40 183 5 64:=Bj.of underlying40 Tj rfl rfl<|by decide
theorem Cp:Bj prog 41 163 4 32:=Bj.of underlying41 TC rfl rfl<|by decide
theorem Eu:Bj prog 44 165 8 88:=Bj.of underlying44 Sx rfl rfl<|by decide
theorem CT:Bj prog 57 56 4 64:=Bj.of underlying57 PK rfl rfl<|by decide
theorem F7:Bj prog 58 190 2 16:=Bj.of underlying58 nX rfl rfl<|by decide
theorem CN:Bj prog 64 3 1 8:=Bj.of underlying64 Cd rfl rfl<|by decide
theorem np:Oh prog 37 2 [.int .i64 0,.int .i64 0,.sl []]:=Oh.of Ks rfl rfl rfl
theorem XY:GX prog 37 [.int .i64 0,.int .i64 0,.sl []]:=GX.of Ks rfl
theorem qQ:GX prog 39 [.str [],.str []]:=GX.of M6 rfl
theorem io:GX prog 4 [.bool false]:=GX.of MH rfl
theorem Mv:Bd prog 112:=Bd.of underlying112 rfl XA
theorem cS:Bd prog 113:=Bd.of underlying113 rfl VN
theorem X8:Bd prog 114:=Bd.of underlying114 rfl WU
theorem Dt:Bd prog 22:=Bd.of underlying22 rfl YD
theorem B9:Bd prog 27:=Bd.of underlying27 rfl M7
theorem AJ:Bd prog 3:=Bd.of underlying3 rfl Cd
theorem BD:Bd prog 35:=Bd.of underlying35 rfl IW
theorem UW:Bd prog 4:=Bd.of underlying4 rfl MH
theorem FR:Bd prog 40:=Bd.of underlying40 rfl WG
theorem D2:Bd prog 41:=Bd.of underlying41 rfl Tb
theorem HM:Bd prog 44:=Bd.of underlying44 rfl XP
theorem Wr:Bd prog 5:=Bd.of underlying5 rfl Su
theorem EM:Bd prog 57:=Bd.of underlying57 rfl Qc
theorem SZ:Bd prog 58:=Bd.of underlying58 rfl WY
theorem Uj:Bd prog 64:=Bd.of underlying64 rfl Xh
theorem A6:Bd prog 9:=Bd.of underlying9 rfl Jk
theorem qU:Pg prog 105 5 4 1:=⟨underlying105,DE MH⟩
theorem oz:Pg prog 192 256 5 1:=⟨underlying192,DE Su⟩
theorem sq:Pg prog 196 16 195 2:=⟨underlying196,DE SD⟩
theorem th:∃i,prog.info? 105=some i∧i.size=5:=DE UC
theorem sD:∃i,prog.info? 112=some i∧i.size=1:=DE XA
theorem nO:∃i,prog.info? 113=some i∧i.size=1:=DE VN
theorem pE:∃i,prog.info? 114=some i∧i.size=1:=DE WU
theorem fi:∃i,prog.info? 116=some i∧i.size=3:=DE RC
theorem fL:∃i,prog.info? 163=some i∧i.size=4:=DE TC
theorem YQ:∃i,prog.info? 165=some i∧i.size=8:=DE Sx
theorem MO:∃i,prog.info? 183=some i∧i.size=5:=DE Tj
theorem qk:∃i,prog.info? 195=some i∧i.size=2:=DE SD
theorem Is:∃i,prog.info? 26=some i∧i.size=3:=DE TO
theorem Tx:∃i,prog.info? 27=some i∧i.size=1:=DE M7
theorem Gz:∃i,prog.info? 3=some i∧i.size=1:=DE Cd
theorem Gf:∃i,prog.info? 35=some i∧i.size=1:=DE IW
theorem EY:∃i,prog.info? 37=some i∧i.size=3:=DE Ks
theorem Lt:∃i,prog.info? 39=some i∧i.size=2:=DE M6
theorem rf:∃i,prog.info? 4=some i∧i.size=1:=DE MH
theorem WO:∃i,prog.info? 46=some i∧i.size=9:=DE KC
theorem FE:∃i,prog.info? 56=some i∧i.size=4:=DE PK
theorem Se:∃i,prog.info? 57=some i∧i.size=1:=DE Qc
theorem jK:∃i,prog.info? 60=some i∧i.size=5:=DE R1
theorem nf:∃i,prog.info? 64=some i∧i.size=1:=DE Xh
theorem JL:∃i,prog.info? 66=some i∧i.size=11:=DE Sg
@[reducible] def qa(l:List AC):AV:=.r<|.sl<|l.map AC.row
@[reducible] def qb(l:List AD):AV:=.r<|.sl<|l.map AD.row
@[reducible] def qc(l:List AI):AV:=.r<|.sl<|l.map AI.row
@[reducible] def qd(l:List As):AV:=.r<|.sl<|l.map As.row
@[reducible] def qe(l:List Av):AV:=.r<|.sl<|l.map Av.row
@[reducible] def qf(l:List BQ):AV:=.r<|.sl<|l.map BQ.row
@[reducible] def qg(l:List Ak):AV:=.r<|.sl<|l.map Ak.row
@[reducible] def qh(l:List FJ):AV:=.r<|.sl<|l.map FJ.row
@[reducible] def qi(l:List BS):AV:=.r<|.sl<|l.map BS.row
set_option linter.defProp false
@[reducible] def iQ(x:BS):List AV:=[.agg [rI<|x.Kind,rI<|x.Node,rI<|x.New.ID,rI<|x.New.Kind,qa x.New.Attrs,qb x.New.Flow,rI<|x.New.Grid.Rows,rI<|x.New.Grid.Cols,qe x.New.Grid.Cells,qd x.New.Grid.Merges,qf x.New.Draw,qa x.Attrs,qc x.Steps,qh x.Grid.Rows,qh x.Grid.Cols,qe x.Grid.Cells,qd x.Grid.Split,qd x.Grid.Merge,qf x.Draw]]
@[reducible] def F4(x:BS):List AV:=[rI<|x.Kind,rI<|x.Node,rI<|x.New.ID,rI<|x.New.Kind,qa x.New.Attrs,qb x.New.Flow,rI<|x.New.Grid.Rows,rI<|x.New.Grid.Cols,qe x.New.Grid.Cells,qd x.New.Grid.Merges,qf x.New.Draw,qa x.Attrs,qc x.Steps,qh x.Grid.Rows,qh x.Grid.Cols,qe x.Grid.Cells,qd x.Grid.Split,qd x.Grid.Merge,qf x.Draw]
@[reducible] def DK(x:Cu):List AV:=[rI<|x.node.ID,rI<|x.node.Kind,qa x.node.Attrs,qb x.node.Flow,rI<|x.node.Grid.Rows,rI<|x.node.Grid.Cols,qe x.node.Grid.Cells,qd x.node.Grid.Merges,qf x.node.Draw,.r<|.sl<|x.shown.map<|Ai .i64,.r<|.str x.author]
@[reducible] def F5:List AV:=[rI<|0,rI<|0,.cst<|.slice none 0 0,.cst<|.slice none 0 0,rI<|0,rI<|0,.cst<|.slice none 0 0,.cst<|.slice none 0 0,.cst<|.slice none 0 0,.cst<|.slice none 0 0,.r<|.str []]
@[reducible] def KO:List AV:=[rI<|0,rI<|0,.cst<|.slice none 0 0,.cst<|.slice none 0 0,rI<|0,rI<|0,.cst<|.slice none 0 0,.cst<|.slice none 0 0,.cst<|.slice none 0 0]
@[reducible] def NG(x:Ak):List AV:=[.agg [rI<|x.ID,rI<|x.Kind,qa x.Attrs,qb x.Flow,rI<|x.Grid.Rows,rI<|x.Grid.Cols,qe x.Grid.Cells,qd x.Grid.Merges,qf x.Draw]]
@[reducible] def rl(x:BQ):List AV:=[.agg [rI<|x.Clock,rI<|x.Site,rI<|x.Kind,rI<|x.Item,rI<|x.Parent,.r<|.str x.Place,.r<|.str x.Name,.r<|.str x.Value]]
@[reducible] def Bp(x:Ak):List AV:=[rI<|x.ID,rI<|x.Kind,qa x.Attrs,qb x.Flow,rI<|x.Grid.Rows,rI<|x.Grid.Cols,qe x.Grid.Cells,qd x.Grid.Merges,qf x.Draw]
@[reducible] def Cf(x:BQ):List AV:=[rI<|x.Clock,rI<|x.Site,rI<|x.Kind,rI<|x.Item,rI<|x.Parent,.r<|.str x.Place,.r<|.str x.Name,.r<|.str x.Value]
@[reducible] def Gw(x:Bh):List AV:=[.r<|.sl<|x.Adds.map<|D4 AD.row,.r<|.sl<|x.Cuts.map EZ,.r<|.sl<|x.Attrs.map<|D4 AC.row]
@[reducible] def U1(x:AC):List AV:=[.agg [.r<|.str x.Name,.r<|.str x.Value],.agg [.r<|.str [],.r<|.str []]]
@[reducible] def US(x:AC):List AV:=[.agg [.r<|.str [],.r<|.str []],.agg [.r<|.str x.Name,.r<|.str x.Value]]
@[reducible] def YT(x:Av):List AV:=[.agg [rI<|x.Row,rI<|x.Col,.r<|.str x.Text,rI<|x.Ref,qa x.Attrs]]
@[reducible] def Im:List AV:=[.cst<|.slice none 0 0,.cst<|.slice none 0 0,.cst<|.slice none 0 0]
@[reducible] def B0(x:Av):List AV:=[rI<|x.Row,rI<|x.Col,.r<|.str x.Text,rI<|x.Ref,qa x.Attrs]
@[reducible] def EB:List AV:=[rI<|0,rI<|0,.cst<|.slice none 0 0,.cst<|.slice none 0 0]
@[reducible] def VS:List AV:=[rI<|0,rI<|1,.cst<|.slice none 0 0,.cst<|.slice none 0 0]
@[reducible] def MS:List AV:=[rI<|0,rI<|0,.r<|.str [],rI<|0,.cst<|.slice none 0 0]
@[reducible] def cO:List AV:=[rB<|false,rB<|false,rB<|false,rB<|false,rB<|false]
@[reducible] def XE(x:BX):List AV:=[.agg [rI<|x.Rows,rI<|x.Cols,qe x.Cells,qd x.Merges]]
@[reducible] def Ee(x:Ez):List AV:=[qh x.Rows,qh x.Cols,qe x.Cells,qd x.Split,qd x.Merge]
@[reducible] def Mn:List AV:=[.cst<|.slice none 0 0,.cst<|.slice none 0 0,rI<|0]
@[reducible] def PZ(x:AI):List AV:=[.agg [rI<|x.Kind,rI<|x.N,qa x.Attrs,qb x.Elems]]
@[reducible] def DZ(x:BX):List AV:=[rI<|x.Rows,rI<|x.Cols,qe x.Cells,qd x.Merges]
@[reducible] def Bn(x:AI):List AV:=[rI<|x.Kind,rI<|x.N,qa x.Attrs,qb x.Elems]
@[reducible] def BR(x:As):List AV:=[rI<|x.Row,rI<|x.Col,rI<|x.H,rI<|x.W]
@[reducible] def cU(x:AD):List AV:=[.agg [rI<|x.Char,rI<|x.Ref,qa x.Attrs]]
@[reducible] def Fh:List AV:=[rI<|0,rI<|0,.cst<|.slice none 0 0]
@[reducible] def TV:List AV:=[.r<|.str [99,117,116],.r<|.str []]
@[reducible] def BO(x:AC):List AV:=[.r<|.str x.Name,.r<|.str x.Value]
@[reducible] def A5(x:AD):List AV:=[rI<|x.Char,rI<|x.Ref,qa x.Attrs]
@[reducible] def A0(x:BW):List AV:=[rI<|x.Node,rI<|x.From,rI<|x.To]
@[reducible] def MD(x:AD):List AV:=[rI<|x.Char,rI<|x.Ref,.r .any]
@[reducible] def vf{T r:Int}{x:Exit}{s:St}{j:ResultVar}:=@DU Int prog T r x s j λr=>rI r
@[reducible] def vc{T r:Bool}{x:Exit}{s:St}{j:ResultVar}:=@DU Bool prog T r x s j λr=>rB r
@[reducible] def yI:=@aJ prog
@[reducible] def yB:=@dZ prog
@[reducible] def Za:=@trivial
@[reducible] def Zc:=@wY
@[reducible] def Zd:=@AW.skip
@[reducible] def Zf:=@AW.block
@[reducible] def Zh:=@AL.nil
@[reducible] def Zj:=@AW.ret
@[reducible] def Zk:=@iC
@[reducible] def Zm:=@Ae.trans
@[reducible] def Zn:=@AW.exit
@[reducible] def Zo:=@um
@[reducible] def Zv:=@wj
@[reducible] def Zw:=@AT.step
@[reducible] def Zx:=@Tp.mk
@[reducible] def Zz:=@ux
@[reducible] def ZA:=@hZ
@[reducible] def ZE:=@Ae.cv
@[reducible] def ZI:=@Sf.mk
@[reducible] def ZK:=@vP
@[reducible] def R:=@rfl
set_option maxHeartbeats 4000000 in
set_option maxRecDepth 100000 in
theorem dG{r}(h:Yi=some r):AS prog 39 [] (rB r):=by
 unfold Yi at h
 cases h
 exact AS.runX [] (λp hp=>by cases hp) [] [] 40 1000000 BA func39 R R R<|by kernel_rfl
set_option maxHeartbeats 4000000 in
set_option maxRecDepth 100000 in
theorem tv{r}(h:bO=some r):AS prog 15 [] (rB r):=by
 unfold bO at h
 cases h
 exact AS.runX [(39,true)] (λp hp=>by simp only[wC,List.not_mem_nil,or_false] at hp;subst hp;exact dG rfl) [] [78,34] 40 1000000 BA func15 rfl rfl rfl<|by kernel_rfl
set_option maxHeartbeats 4000000 in
set_option maxRecDepth 100000 in
theorem lw{r}(h:Nl=some r):AS prog 4 [] (rB r):=by
 unfold Nl at h
 cases h
 exact AS.runX [(39,true),(15,true)] (λp hp=>by simp only[wC,List.not_mem_nil,or_false] at hp;rcases hp with rfl | rfl<;>first | exact dG rfl | exact tv rfl) [11,14,51,89,52,53,75,17,23] [78,34,19] 40 1000000 BA func4 rfl rfl rfl<|by kernel_rfl
theorem ZT{j r}(h:Lk j=some r):AS prog 155 [rS j] (rB r):=by
 unfold Lk at h
 refine mF func155 ntmps155 R λn0=>aU<|mA R<|aZ<|aT λC2=>aU<|mM R<|sQ R (Cz R iL iL)<|mM R<|vM R<|vQ R (Ds R underlying9<|iR R)<|vQ R (A9 R (iR R) iL)<|xO R<|mM R<|vM R<|AG h λa0 l h1=>vQ R (DL R underlying9 (iR R) iL<|AU l)<|vQ R (B5 R (iR R) iL)<|xO R<|mM R<|vM R<|AG h1 λa1 q h2=>vQ R (DL R underlying9 (iR R) iL<|AU q)<|vQ R (A9 R (iR R) iL)<|xO R<|aZ<|cI R h2 (λB=>?_) λB=>?_
 ·exact zB B R id
 refine Zd<|C2 _<|aS λK5 C5 C=>aT λC6=>aF [0] ?_
 refine aR<|mM R<|sQ R (Ds R underlying9 iL)<|mM R<|aZ<|C6 _<|Zf<|BP B λo1 u E F=>?_
 have J1:∀(X:Unit) (Y:NN),o1=.nrm X→K5 ⟨[],[],(Y 0),53⟩:=by
  intro X Y e
  have h4:=E _ e
  exact C5 _<|zB h4 R id
 refine Zz (λ(I:Int) A=>⟨[(0,rS j),(23,rL j),(24,rI I)],[],(A 0),53⟩) (AH [n0]) u wk ?_
 intro I A v1 J w
 have Z:NM j I=some v1:=J;unfold NM at Z
 refine aU<|xS R<|aZ<|aT λC9=>cI R Z (λM=>?_) λM=>?_
 ·refine Zd<|C9 _<|aT λO=>Zf<|aU<|mM R<|mA R<|aZ<|aU<|mM R<|mM R<|AG M λc1 T h7=>sQ R (DL R underlying9 iL iL λ_=>T)<|mA R<|aZ<|aU<|mM R<|xS R<|mM R<|vM R<|vQ R (A9 R (iR R) iL)<|xO R<|mM R<|vM R<|vQ R (B5 R (iR R) iL)<|vQ R (AK R<|iR R)<|wQ R (AK R iL)<|wQ R (A9 R (iR R) iL)<|vQ R (CW R (iR R)<|iR R)<|xN R<|mM R<|vM R<|vQ R (Ct R (iR R) iL)<|xN R<|mM R<|vM R<|vQ R (Ct R (iR R) iL)<|xN R<|aZ<|cI R h7 (λU=>?_) λU=>?_
  ·exact zB (F _<|xH w U) R id
  refine Zd<|O _<|aF [0,23,24] ?_
  exact aR<|AG U λx4 V h9=>xA R V<|mM R<|Zh<|Zx h9 (AH [(A 0)]) wk
 exact Zn<|C _ _ wk<|J1 _ (AH [(A 0)])<|xH w M
theorem XI{l r}(h:JS l=some r):AS prog 46 [rS l] (rB r):=by
 unfold JS at h
 refine mF func46 ntmps46 R λY=>aU<|mA R<|aZ<|aT λZ=>aU<|mM R<|sQ R (Cz R iL iL)<|mM R<|vM R<|vQ R (Ds R underlying9<|iR R)<|vQ R (A9 R (iR R) iL)<|xO R<|aZ<|cI R h (λA=>?_) λA=>?_
 ·exact zB A R id
 refine Zd<|Z _<|aS λK5 c5 B=>aU<|mM R<|sQ R (Ds R underlying9 iL)<|mM R<|aZ<|Zf<|BP A λo1 q C E=>?_
 have J1:∀(U:Unit) (V:NN),o1=.nrm U→K5 ⟨[],[],(V 0),27⟩:=by
  intro U V e
  have h2:=C _ e
  exact c5 _<|zB h2 R id
 refine Zz (λ(F:Int) w=>⟨[(0,rS l),(12,rL l),(13,rI F)],[],(w 0),27⟩) (AH [Y]) q wk ?_
 intro F w v1 I u
 have X:PM l F=some v1:=I;unfold PM at X
 refine aU<|xS R<|aZ<|aT λc9=>cI R X (λJ=>?_) λJ=>?_
 ·refine Zd<|c9 _<|aT λM=>Zf<|aU<|mM R<|mA R<|aZ<|aU<|mM R<|mM R<|AG J λa0 j h5=>sQ R (DL R underlying9 iL iL λ_=>j)<|xS R<|mM R<|vM R<|vM R<|vQ R (DL R underlying9 (iR R) (iR R) λ_=>j)<|vQ R (A9 R (iR R) iL)<|xO R<|aZ<|cI R h5 (λO=>?_) λO=>?_
  ·exact zB (E _<|xH u O) R id
  refine Zd<|M _<|aF [0,12,13] ?_
  exact aR<|AG O λx4 T h7=>xA R T<|mM R<|Zh<|Zx h7 (AH [(w 0)]) wk
 exact Zn<|B _ _ wk<|J1 _ (AH [(w 0)])<|xH u J
theorem bN{u b r}(h:Lb u b=some r):AS prog 118 [qa u,rB b] (rI r):=by
 unfold Lb at h
 refine mF func118 ntmps118 R λn0=>aU<|mA R<|aZ<|aS λK2 c2 C=>aU<|mM R<|xL Ac R<|mM R<|aZ<|Zf<|BP h λo1 w E l=>?_
 have J1:∀(u2:Unit) (i5:NN),o1=.nrm u2→K2 ⟨[],[],(i5 0),48⟩:=by
  intro u2 i5 e
  have h1:=E _ e
  exact c2 _<|zI h1 R id
 refine Zz (λ(F:Int) A=>⟨[(0,qa u),(1,rB b),(7,qa u),(8,rL u),(9,rI F)],[],(A 0),48⟩) (AH [n0]) w wk ?_
 intro F A v1 I j
 have h2:Me u b F=some v1:=I;unfold Me at h2
 refine aU<|xS R<|aZ<|aT λc6=>cI R h2 (λJ=>?_) λJ=>?_
 ·refine Zd<|c6 _<|aT λc7=>Zf<|aU<|mM R<|AG J λB M h4=>xI Ac R M<|xB ((BO B)) CV R<|sS R (BF (cs:=[.r<|.str [],.r<|.str []]) 6 R Sv R R)<|mA R<|Zk R R (Aj (ds:=(BO B)) R Lt iL R iL R R R R)<|aZ<|Zf<|aU<|lF B1 A6 R R<|AG h4 λr1 O h5=>cL (ZT<|O) R<|sQ R (A3 R iL)<|mA R<|aZ<|cI R h5 (λT=>?_) λT=>?_
  ·exact zI (l _<|xH j T) R id
  refine aT λU=>aG [0,1,5,6,7,8,9] [6] ?_
  refine aR<|lF Jo A6 R R<|AG T λr2 V h7=>cL (XI<|V) R<|sQ R (A3 R iL)<|mM R<|vM R<|vQ R (AK R<|iR R)<|wQ R (fB R Jo iL fR R)<|wQ R (AZ (a:=rS B.Value) R A6 (iR R) R R)<|wQ R (Cz R (iR R) iL)<|vQ R (BI R (iR R)<|iR R)<|vQ R (A3 R<|iR R)<|xN R<|mA R<|aZ<|U _<|cI R h7 (λX=>?_) λX=>?_
  ·exact zI (l _<|xH j X) R id
  refine aT λY=>?_
  refine ZA BA (by kernel_rfl) ?_
  refine qP R (AK R iL)<|qP R (A9 R iL iL)<|qP R (AK R iL)<|qO R (fB R B1 iL fR R)<|qO R (AZ (a:=rS B.Name) R A6 (iR R) R R)<|qO R (AK R iL)<|qO R (AK R iL)<|AG X λx5 Z h9=>qO R (CG R (iR R) iL<|AU Z)<|AG h9 λx6 a0 a1=>qO R (Az R Ac.slice (iR R) (iR R) (λ_=>R)<|AU a0)<|qO R (A4 R B1<|iR R)<|qO R (Bc (d:=.str x6.Name) R A6 (iR R) R)<|qO R (dQ R (iR R)<|iR R)<|qP R (BI R iL<|iR R)<|qP R (Dj R iL)<|AQ.nil<|Y _<|cI R a1 (λq=>?_) λq=>?_
  ·exact zI (l _<|xH j q) R id
  refine Zd<|c7 _<|aF [0,1,7,8,9] ?_
  exact aR<|AG q λx7 a2 a6=>xA R a2<|mM R<|Zh<|Zx a6 (AH [((A 0)+1)]) wk
 exact Zn<|C _ _ wk<|J1 _ (AH [(A 0)])<|xH j J
theorem Uk{l r}(h:Jq l=some r):AS prog 69 [qa l] (rI r):=by
 unfold Jq at h
 exact mF func69 ntmps69 R λu=>aU<|mA R<|aZ<|aU<|mM R<|AG h λw j q=>cL (bN<|j) R<|mA R<|aZ<|Zj<|yI q R
theorem Wo{k r}(h:Hn k=some r):AS prog 44 [rI k] (rB r):=by
 unfold Hn at h
 exact mF func44 ntmps44 R λj=>aU<|mA R<|aZ<|aU<|mM R<|xQ R<|mM R<|vM R<|vQ R (Am R (iR R) iL)<|xO R<|mM R<|vM R<|vQ R (Am R (iR R) iL)<|xO R<|mM R<|vM R<|vQ R (Am R (iR R) iL)<|xO R<|mA R<|aZ<|Zj<|yB h R
theorem nt{k r}(h:NO k=some r):AS prog 133 [rI k] (rB r):=by
 unfold NO at h
 exact mF func133 ntmps133 R λj=>aU<|mA R<|aZ<|aU<|mM R<|xQ R<|mM R<|vM R<|vQ R (Am R (iR R) iL)<|xO R<|mA R<|aZ<|Zj<|yB h R
theorem kH{k r}(h:Mw k=some r):AS prog 134 [rI k] (rB r):=by
 unfold Mw at h
 exact mF func134 ntmps134 R λj=>aU<|mA R<|aZ<|aU<|mM R<|xQ R<|mM R<|vM R<|vQ R (Am R (iR R) iL)<|xO R<|mA R<|aZ<|Zj<|yB h R
theorem rR{s a r}(h:Qr s a=some r):AS prog 169 [qd s,qd a] (rB r):=by
 unfold Qr at h
 refine mF func169 ntmps169 R λZ=>aU<|mA R<|aZ<|aT λc2=>aU<|mM R<|xL Cp R<|mM R<|xL Cp R<|xU R<|aZ<|cI R h (λu=>?_) λu=>?_
 ·exact zB u R id
 refine Zd<|c2 _<|aS λK5 c5 w=>aU<|mM R<|xL Cp R<|mM R<|aZ<|Zf<|BP u λo1 j A B=>?_
 have J1:∀(V:Unit) (X:NN),o1=.nrm V→K5 ⟨[],[],(X 0),26⟩:=by
  intro V X e
  have h2:=A _ e
  exact c5 _<|zB h2 R id
 refine Zz (λ(C:Int) q=>⟨[(0,qd s),(1,qd a),(12,rL s),(13,rI C)],[],(q 0),26⟩) (AH [Z]) j wk ?_
 intro C q v1 E l
 have Y:OA s a C=some v1:=E;unfold OA at Y
 refine aU<|xS R<|aZ<|aT λc9=>cI R Y (λF=>?_) λF=>?_
 ·refine Zd<|c9 _<|aT λI=>Zf<|aU<|mM R<|mA R<|aZ<|aT λJ=>?_
  refine ZA BA (by kernel_rfl) ?_
  refine qP R (AK R iL)<|qP R (AK R iL)<|AG F λx4 M h5=>qP R (Az R Cp.slice iL iL (λ_=>R) λ_=>M)<|qP R (Ci (cs:=(BR x4)) R El iL R R)<|qP R (AK R iL)<|qP R (AK R iL)<|AG h5 λx5 O h6=>qP R (Az R Cp.slice iL iL (λ_=>R) λ_=>O)<|qP R (Ci (cs:=(BR x5)) R El iL R R)<|qP R (L6 R YZ iL iL R)<|AQ.nil<|J _<|cI R h6 (λT=>?_) λT=>?_
  ·exact zB (B _<|xH l T) R id
  refine Zd<|I _<|aF [0,1,12,13] ?_
  exact aR<|AG T λx6 U h8=>xA R U<|mM R<|Zh<|Zx h8 (AH [(q 0)]) wk
 exact Zn<|w _ _ wk<|J1 _ (AH [(q 0)])<|xH l F
theorem UF{j u r}(h:G8 j u=some r):AS prog 146 [qa j,qa u] (rB r):=by
 unfold G8 at h
 refine mF func146 ntmps146 R λn0=>aU<|mA R<|aZ<|aT λc2=>aU<|mM R<|xL Ac R<|mM R<|xL Ac R<|xU R<|aZ<|cI R h (λA=>?_) λA=>?_
 ·exact zB A R id
 refine Zd<|c2 _<|aS λK5 c5 B=>aU<|mM R<|xL Ac R<|mM R<|aZ<|Zf<|BP A λo1 l C E=>?_
 have J1:∀(Y:Unit) (Z:NN),o1=.nrm Y→K5 ⟨[],[],(Z 0),26⟩:=by
  intro Y Z e
  have h2:=C _ e
  exact c5 _<|zB h2 R id
 refine Zz (λ(F:Int) w=>⟨[(0,qa j),(1,qa u),(12,rL j),(13,rI F)],[],(w 0),26⟩) (AH [n0]) l wk ?_
 intro F w v1 I q
 have h3:QK j u F=some v1:=I;unfold QK at h3
 refine aU<|xS R<|aZ<|aT λc9=>cI R h3 (λJ=>?_) λJ=>?_
 ·refine Zd<|c9 _<|aT λM=>Zf<|aU<|mM R<|mA R<|aZ<|aT λO=>?_
  refine ZA BA (by kernel_rfl) ?_
  refine qP R (AK R iL)<|qP R (AK R iL)<|AG J λx4 T h5=>qP R (Az R Ac.slice iL iL (λ_=>R) λ_=>T)<|qP R (Ci (cs:=(BO x4)) R CV iL R R)<|qP R (AK R iL)<|qP R (AK R iL)<|AG h5 λx5 U h6=>qP R (Az R Ac.slice iL iL (λ_=>R) λ_=>U)<|qP R (Ci (cs:=(BO x5)) R CV iL R R)<|qP R (L6 R Ya iL iL R)<|AQ.nil<|O _<|cI R h6 (λV=>?_) λV=>?_
  ·exact zB (E _<|xH q V) R id
  refine Zd<|M _<|aF [0,1,12,13] ?_
  exact aR<|AG V λx6 X h8=>xA R X<|mM R<|Zh<|Zx h8 (AH [(w 0)]) wk
 exact Zn<|B _ _ wk<|J1 _ (AH [(w 0)])<|xH q J
theorem ru{j l r}(h:Pf j l=some r):AS prog 171 [.agg<|B0 j,.agg<|B0 l] (rB r):=by
 unfold Pf at h
 exact mF func171 ntmps171 R λA=>aU<|sS R (A2 (cs:=(B0 j)) 2 R iL R R)<|sS R (A2 (cs:=(B0 l)) 3 R iL R R)<|mA R<|aZ<|aT λu=>aR<|lF GA AJ R R<|lF GA AJ R R<|xQ R<|mM R<|vF HD AJ R R<|vF HD AJ R R<|vQ R (Am R (iR R)<|iR R)<|xN R<|mM R<|vF HV A6 R R<|vF HV A6 R R<|vQ R (Cz R (iR R)<|iR R)<|xN R<|mM R<|vF Fb AJ R R<|vF Fb AJ R R<|vQ R (Am R (iR R)<|iR R)<|xN R<|mM R<|vF Hf BD R R<|vF Hf BD R R<|AG h λB q w=>vL (λhg=>UF<|AU q hg) R<|xN R<|mA R<|aZ<|u _<|Zj<|yB w R
theorem o8{s a r}(h:Qz s a=some r):AS prog 170 [qe s,qe a,.fn 171 []] (rB r):=by
 unfold Qz at h
 refine mF func170 ntmps170 R λn0=>aU<|mA R<|aZ<|aT λc2=>aU<|mM R<|xL Cm R<|mM R<|xL Cm R<|xU R<|aZ<|cI R h (λu=>?_) λu=>?_
 ·exact zB u R id
 refine Zd<|c2 _<|aS λK5 c5 w=>aU<|mM R<|xL Cm R<|mM R<|aZ<|Zf<|BP u λo1 j A B=>?_
 have J1:∀(X:Unit) (Y:NN),o1=.nrm X→K5 ⟨[],[],(Y 0),32⟩:=by
  intro X Y e
  have h2:=A _ e
  exact c5 _<|zB h2 R id
 refine Zz (λ(C:Int) q=>⟨[(1,qe a),(2,.fn 171 []),(15,qe s),(16,rL s),(17,rI C)],[],(q 0),32⟩) (AH [n0]) j wk ?_
 intro C q v1 E l
 have Z:Qo s a C=some v1:=E;unfold Qo at Z
 refine aU<|xS R<|aZ<|aT λc9=>cI R Z (λF=>?_) λF=>?_
 ·refine Zd<|c9 _<|aT λI=>Zf<|aU<|mM R<|AG F λx4 J h5=>xI Cm R J<|xB ((B0 x4)) Fc R<|sS R (BF (cs:=MS) 8 R MZ R R)<|mA R<|Zk R R (Aj (ds:=(B0 x4)) R MO iL R iL R R R R)<|aZ<|aU<|mM R<|mM R<|AG h5 λx5 M h6=>xI Cm R M<|xB ((B0 x5)) Fc R<|sS R (BF (cs:=MS) 9 R MZ R R)<|Zk R R (Aj (ds:=(B0 x5)) R MO iL R iL R R R R)<|aZ<|aT λO=>aG [1,2,8,9,15,16,17] [8,9] ?_
  refine aR<|mM R<|xC Fc R<|xC Fc R<|AG h6 λr1 T h7=>cL (ru<|T) R<|sQ R (A3 R iL)<|aZ<|O _<|cI R h7 (λU=>?_) λU=>?_
  ·exact zB (B _<|xH l U) R id
  exact Zd<|I _<|aR<|AG U λx6 V h9=>xA R V<|mM R<|Zh<|Zx h9 (AH [((q 0)+2)]) wk
 exact Zn<|w _ _ wk<|J1 _ (AH [(q 0)])<|xH l F
theorem sN{j l r}(h:KT j l=some r):AS prog 135 [.agg<|DZ j,.agg<|DZ l] (rB r):=by
 unfold KT at h
 exact mF func135 ntmps135 R λC=>aU<|sS R (A2 (cs:=(DZ j)) 2 R iL R R)<|sS R (A2 (cs:=(DZ l)) 3 R iL R R)<|mA R<|aZ<|aU<|lF GT AJ R R<|lF GT AJ R R<|xQ R<|mM R<|vF GO AJ R R<|vF GO AJ R R<|vQ R (Am R (iR R)<|iR R)<|xN R<|mM R<|vF Fl D2 R R<|vF Fl D2 R R<|AG h λE q w=>vL (λhg=>rR<|AU q hg) R<|xN R<|mM R<|vF F2 FR R R<|vF F2 FR R R<|AG w λA u B=>AL.stepW (.one R R R) R R (Dy (r:=rB A) (caps:=[]) (bs:=[qe j.Cells,qe l.Cells,.fn 171 []]) R iL R ⟨⟨_,(iR R),.d R⟩,⟨_,(iR R),.d R⟩,⟨_,iL,.one<|.closed (.fn 171 []) R⟩,Za⟩ (λhg=>o8<|AU u hg) R)<|xN R<|mA R<|aZ<|Zj<|yB B R
theorem Ub{k r}(h:JM k=some r):AS prog 128 [rI k] (rB r):=by
 unfold JM at h
 exact mF func128 ntmps128 R λj=>aU<|mA R<|aZ<|aU<|mM R<|xQ R<|mM R<|vM R<|vQ R (Am R (iR R) iL)<|xO R<|mM R<|vM R<|vQ R (Am R (iR R) iL)<|xO R<|mA R<|aZ<|Zj<|yB h R
theorem Z0{j r}(h:M5 j=some r):AS prog 71 [rI j] (rB r):=by
 unfold M5 at h
 exact mF func71 ntmps71 R λl=>aU<|mA R<|aZ<|aU<|mM R<|xQ R<|mM R<|vM R<|vQ R (Am R (iR R) iL)<|xO R<|mM R<|vM R<|vQ R (C1 R (iR R) iL)<|vQ R (AK R<|iR R)<|wQ R (AK R iL)<|wQ R (B5 R (iR R) iL)<|vQ R (BI R (iR R)<|iR R)<|xO R<|mM R<|vM R<|vQ R (C1 R (iR R) iL)<|vQ R (AK R<|iR R)<|wQ R (AK R iL)<|wQ R (B5 R (iR R) iL)<|vQ R (BI R (iR R)<|iR R)<|xO R<|mM R<|vM R<|vQ R (A9 R (iR R) iL)<|vQ R (AK R<|iR R)<|wQ R (AK R iL)<|wQ R (FG R (iR R) iL)<|vQ R (BI R (iR R)<|iR R)<|xO R<|mA R<|aZ<|Zj<|yB h R
theorem fC{l r}(h:Ml l=some r):AS prog 47 (cU l) (rI r):=by
 unfold Ml at h
 refine mF func47 ntmps47 R λw=>aU<|sS R (A2 (cs:=(A5 l)) 1 R iL R R)<|mA R<|aZ<|aT λT=>Zf<|aU<|lF Ek AJ R R<|xU R<|lF D9 AJ R R<|xU R<|sQ R (gU R underlying4 iL iL)<|mA R<|aZ<|cI R h (λA=>?_) λA=>?_
 ·exact zI A R id
 refine aS λU V q=>aT λX=>aG [1] [1] ?_
 refine aR<|lF D9 AJ R R<|xQ R<|mM R<|vF Ek AJ R R<|AG A λr1 B Y=>vL (λhg=>Z0<|AU B hg) R<|vQ R (A3 R<|iR R)<|xN R<|mA R<|aZ<|X _<|BH Y λZ u C=>?_
 have M:∀(E:Bool) (O:NN),Z=E→U ⟨[(1,.ptr 1 w 0 0),(11,rB E)],[(1,some<|.box w 37<|A5 l)],(O 0),37⟩:=by
  intro E O e
  have h3:=C _ e
  refine V _<|cI R h3 (λF=>?_) λF=>?_
  ·exact zI F R id
  exact Zd<|T _<|aU<|lF DA BD R R<|AG F λr2 I h5=>cL (Uk<|I) R<|mA R<|aZ<|Zj<|yI h5 R
 refine aC R (λj=>?_) λj=>?_
 ·have J:=CF j u
  exact Zd<|q _ _ wk<|M _ (AH [(w+1)]) (Zc J).symm
 ·have J:=CA j u
  refine aG [1] [1] ?_
  exact aR<|lF D9 AJ R R<|xU R<|mM R<|vF D9 AJ R R<|vQ R (B5 R (iR R) iL)<|vQ R (AK R<|iR R)<|wQ R (fB R D9 iL fR R)<|wQ R (AZ (a:=rI l.Ref) R AJ (iR R) R R)<|wQ R (A9 R (iR R) iL)<|vQ R (CW R (iR R)<|iR R)<|xN R<|mA R<|Zh<|q _ _ wk<|M _ (AH [(w+1)]) (Zc J).symm
theorem nw{f1 a r}(h:H2 f1 a=some r):AS prog 136 [qb f1,rB a] (rI r):=by
 unfold H2 at h
 refine mF func136 ntmps136 R λn0=>aU<|mA R<|aZ<|aS λK2 c2 A=>aU<|mM R<|xL Ah R<|mM R<|aZ<|Zf<|BP h λo1 q B u=>?_
 have J1:∀(u2:Unit) (i5:NN),o1=.nrm u2→K2 ⟨[(0,qb f1),(1,rB a)],[],(i5 0),43⟩:=by
  intro u2 i5 e
  have h1:=B _ e
  refine c2 _<|aT λc4=>aU<|mM R<|mM R<|vM R<|vQ R (Bk R Ah.slice<|iR R)<|vQ R (Am R (iR R) iL)<|vQ R (AK R<|iR R)<|wQ R (AK R iL)<|wQ R (AK R iL)<|wQ R (Bk R Ah.slice<|iR R)<|AG h1 λx4 C h2=>wQ R (CG R (iR R) iL<|AU C)<|AG h2 λx5 E h3=>wQ R (Az R Ah.slice (iR R) (iR R) (λ_=>R)<|AU E)<|wQ R (A4 R Ek<|iR R)<|wQ R (Bc (d:=.int .i64 x5.Char) R AJ (iR R) R)<|wQ R (Ct R (iR R) iL)<|vQ R (CW R (iR R)<|iR R)<|xN R<|aZ<|cI R h3 (λF=>?_) λF=>?_
  ·exact zI F R id
  exact Zd<|c4 _<|zI F R id
 refine Zz (λ(I:Int) w=>⟨[(0,qb f1),(1,rB a),(8,qb f1),(9,rL f1),(10,rI I)],[],(w 0),43⟩) (AH [n0]) q wk ?_
 intro I w v1 J j
 have h5:LI f1 a I=some v1:=J;unfold LI at h5
 refine aU<|xS R<|aZ<|aT λc9=>cI R h5 (λM=>?_) λM=>?_
 ·refine Zd<|c9 _<|aT λO=>Zf<|aU<|AG M λx6 T h7=>xI Ah R T<|xB ((A5 x6)) Dc R<|sS R (BF (cs:=Fh) 6 R Ft R R)<|Zk R R (Aj (ds:=(A5 x6)) R EY iL R iL R R R R)<|aZ<|aT λU=>aU<|xC Dc R<|AG h7 λe1 V h8=>cL (fC<|V) R<|mA R<|aZ<|aU<|mM R<|xU R<|aZ<|cI R h8 (λX=>?_) λX=>?_
  ·refine aT λY=>aF [7] ?_
   exact aR<|mM R<|mA R<|aZ<|Y _<|Zj<|yI (u _<|xH j X) R
  refine Zd<|U _<|aU<|mM R<|sQ R (A3 R iL)<|mM R<|vF D9 AJ R R<|vQ R (Am R (iR R) iL)<|xN R<|aZ<|cI R X (λl=>?_) λl=>?_
  ·exact zI (u _<|xH j l) R id
  refine Zd<|O _<|aF [0,1,8,9,10] ?_
  exact aR<|AG l λx7 Z a0=>xA R Z<|mM R<|Zh<|Zx a0 (AH [((w 0)+1)]) wk
 exact Zn<|A _ _ wk<|J1 _ (AH [(w 0)])<|xH j M
theorem lc{s1 r}(h:N6 s1=some r):AS prog 119 [rS s1] (.tup [.r<|.int .i32 r.1,rI r.2]):=by
 unfold N6 at h
 refine mF func119 ntmps119 R λn0=>aU<|mA R<|mA R<|aZ<|aU<|mM R<|sQ R (Ds R underlying9 iL)<|mA R<|aZ<|aT λc3=>aU<|mM R<|xS R<|aZ<|cI R h (λE=>?_) λE=>?_
 ·exact aU<|mA R<|mA R<|aZ<|Zj<|DH (P:=prog) (λ(r:Int × Int)=>.r<|.int .i32 r.1) (λ(r:Int × Int)=>rI r.2) E iL (.t<|.d R)<|.t<|.d R
 refine Zd<|c3 _<|aU<|mM R<|AG E λaf j h2=>sQ R (DL R underlying9 iL iL λ_=>j)<|mA R<|aZ<|aT λc7=>aR<|mM R<|AG h2 λx1 F h3=>?_
 refine sQ R (fm (f:=(Ai .u8)) (l:=GK) R oz iu (by kernel_rfl) iL (λ_=>R) (by decide) λ_=>F) ?_
 refine xV (.int .u8 x1) Wr R<|mA R<|aZ<|c7 _<|aT λc8=>aT λc9=>aF [0,4,5,6] ?_
 refine aR<|mM R<|sQ R (C1 R iL iL)<|aZ<|c9 _<|cI R h3 (λI=>?_) λI=>?_
 ·refine aU<|mM R<|sQ R (Ea R underlying5 underlying21 iL)<|sQ R (Jv (b:=31) R iL iL)<|sQ R (SA (b:=31) R iL iL)<|mA R<|aZ<|aT λJ=>aF [0,7] ?_
  exact aR<|mM R<|sQ R (DL R underlying9 iL iL λ_=>j)<|sQ R (Ea R underlying5 underlying21 iL)<|mM R<|sQ R (Xx R iL iL)<|mM R<|sQ R (Gg R iL iL)<|sQ R (JN R iL iL)<|mA R<|mA R<|aZ<|J _<|Zj<|DH (P:=prog) (λ(r:Int × Int)=>.r<|.int .i32 r.1) (λ(r:Int × Int)=>rI r.2) I iL (.t<|.d R)<|.t<|.d R
 refine Zd<|c8 _<|aU<|mM R<|sQ R (Gg R iL iL)<|sQ R (Ea R underlying5 underlying3 iL)<|mA R<|aZ<|aT λM=>aR<|mM R<|sQ R (SA (b:=4) R iL iL)<|AG I λC O h5=>?_
 refine sQ R (fm (f:=Ip.row) (l:=Td) R sq lO (by kernel_rfl) iL (λ_=>R) (by decide) λ_=>O) ?_
 refine xB ([.r<|.int .u8 C.lo,.r<|.int .u8 C.hi]) qZ R<|sS R (BF (cs:=[.r<|.int .u8 0,.r<|.int .u8 0]) 9 R uI R R)<|Zk R R (Aj (ds:=[.r<|.int .u8 C.lo,.r<|.int .u8 C.hi]) R qk iL R iL R R R R)<|aZ<|M _<|aT λT=>aT λU=>aG [0,4,5,8,9] [9] ?_
 refine aR<|mM R<|mM R<|xS R<|aZ<|U _<|cI R h5 (λV=>?_) λV=>?_
 ·exact aU<|mA R<|mA R<|aZ<|Zj<|DH (P:=prog) (λ(r:Int × Int)=>.r<|.int .i32 r.1) (λ(r:Int × Int)=>rI r.2) V iL (.t<|.d R)<|.t<|.d R
 refine Zd<|T _<|aU<|mM R<|AG V λag w h7=>sQ R (DL R underlying9 iL iL λ_=>w)<|mA R<|aZ<|aT λX=>aU<|mM R<|lF mH Wr R R<|xS R<|mM R<|vF kf Wr R R<|vM R<|vQ R (B5 R (iR R)<|iR R)<|xO R<|aZ<|cI R h7 (λY=>?_) λY=>?_
 ·refine aT λZ=>aF [] ?_
  exact aR<|mA R<|mA R<|aZ<|Z _<|Zj<|DH (P:=prog) (λ(r:Int × Int)=>.r<|.int .i32 r.1) (λ(r:Int × Int)=>rI r.2) Y iL (.t<|.d R)<|.t<|.d R
 refine Zd<|X _<|aT λa0=>aT λa1=>aF [0,5,8,10] ?_
 refine aR<|mM R<|sQ R (FG R iL iL)<|aZ<|a1 _<|cI R Y (λh9=>?_) λh9=>?_
 ·exact aU<|mM R<|sQ R (Gg R iL iL)<|sQ R (Ea R underlying5 underlying21 iL)<|sQ R (Jv (b:=6) R iL iL)<|mM R<|sQ R (Gg R iL iL)<|sQ R (Ea R underlying5 underlying21 iL)<|sQ R (JN R iL iL)<|mA R<|mA R<|aZ<|Zj<|DH (P:=prog) (λ(r:Int × Int)=>.r<|.int .i32 r.1) (λ(r:Int × Int)=>rI r.2) h9 iL (.t<|.d R)<|.t<|.d R
 refine Zd<|a0 _<|aU<|mM R<|AG h9 λah A a2=>sQ R (DL R underlying9 iL iL λ_=>A)<|mA R<|aZ<|aT λa6=>aU<|mM R<|xS R<|mM R<|vM R<|vQ R (B5 R iL<|iR R)<|xO R<|aZ<|cI R a2 (λl=>?_) λl=>?_
 ·refine aT λa7=>aF [] ?_
  exact aR<|mA R<|mA R<|aZ<|a7 _<|Zj<|DH (P:=prog) (λ(r:Int × Int)=>.r<|.int .i32 r.1) (λ(r:Int × Int)=>rI r.2) l iL (.t<|.d R)<|.t<|.d R
 refine Zd<|a6 _<|aT λa8=>aT λaa=>aF [0,5,8,10,11] ?_
 refine aR<|mM R<|sQ R (FG R iL iL)<|aZ<|aa _<|cI R l (λq=>?_) λq=>?_
 ·exact aU<|mM R<|sQ R (Gg R iL iL)<|sQ R (Ea R underlying5 underlying21 iL)<|sQ R (Jv (b:=12) R iL iL)<|mM R<|sQ R (Gg R iL iL)<|sQ R (Ea R underlying5 underlying21 iL)<|sQ R (Jv (b:=6) R iL iL)<|sQ R (JN R iL iL)<|mM R<|sQ R (Gg R iL iL)<|sQ R (Ea R underlying5 underlying21 iL)<|sQ R (JN R iL iL)<|mA R<|mA R<|aZ<|Zj<|DH (P:=prog) (λ(r:Int × Int)=>.r<|.int .i32 r.1) (λ(r:Int × Int)=>rI r.2) q iL (.t<|.d R)<|.t<|.d R
 refine Zd<|a8 _<|aU<|mM R<|AG q λai B ab=>sQ R (DL R underlying9 iL iL λ_=>B)<|mA R<|aZ<|aT λac=>aU<|mM R<|xS R<|mM R<|vM R<|vQ R (B5 R iL<|iR R)<|xO R<|aZ<|cI R ab (λu=>?_) λu=>?_
 ·refine aT λad=>aF [] ?_
  exact aR<|mA R<|mA R<|aZ<|ad _<|Zj<|DH (P:=prog) (λ(r:Int × Int)=>.r<|.int .i32 r.1) (λ(r:Int × Int)=>rI r.2) u iL (.t<|.d R)<|.t<|.d R
 refine Zd<|ac _<|aT λae=>aF [5,10,11,12] ?_
 exact aR<|mM R<|sQ R (Gg R iL iL)<|sQ R (Ea R underlying5 underlying21 iL)<|sQ R (Jv (b:=18) R iL iL)<|mM R<|sQ R (Gg R iL iL)<|sQ R (Ea R underlying5 underlying21 iL)<|sQ R (Jv (b:=12) R iL iL)<|sQ R (JN R iL iL)<|mM R<|sQ R (Gg R iL iL)<|sQ R (Ea R underlying5 underlying21 iL)<|sQ R (Jv (b:=6) R iL iL)<|sQ R (JN R iL iL)<|mM R<|sQ R (Gg R iL iL)<|sQ R (Ea R underlying5 underlying21 iL)<|sQ R (JN R iL iL)<|mA R<|mA R<|aZ<|ae _<|Zj<|DH (P:=prog) (λ(r:Int × Int)=>.r<|.int .i32 r.1) (λ(r:Int × Int)=>rI r.2) u iL (.t<|.d R)<|.t<|.d R
theorem pe{w r}(h:PR w=some r):AS prog 70 [rS w] (.tup [.r<|.int .i32 r.1,rI r.2]):=by
 unfold PR at h
 refine mF func70 ntmps70 R λM=>aU<|mA R<|mA R<|aZ<|aT λA=>aU<|mM R<|sQ R (DJ R iL iL)<|mM R<|vM R<|AG h λB j C=>vQ R (DL R underlying9 (iR R) iL<|AU j)<|vQ R (B5 R (iR R) iL)<|xN R<|aZ<|cI R C (λq=>?_) λq=>?_
 ·refine aT λE=>aF [0] ?_
  exact aR<|mM R<|AG q λF l I=>sQ R (DL R underlying9 iL iL λ_=>l)<|sQ R (Ea R underlying5 underlying21 iL)<|mA R<|mA R<|aZ<|E _<|Zj<|DH (P:=prog) (λ(r:Int × Int)=>.r<|.int .i32 r.1) (λ(r:Int × Int)=>rI r.2) I iL (.t<|.d R)<|.t<|.d R
 refine aF [0] ?_
 exact aR<|mM R<|D5 q λO T u J=>cL (lc<|u) R<|mM R<|xX R<|xX R<|mA R<|mA R<|aZ<|A _<|Zj<|DH (P:=prog) (λ(r:Int × Int)=>.r<|.int .i32 r.1) (λ(r:Int × Int)=>rI r.2) J iL (.t<|.d R)<|.t<|.d R
theorem tS{O r}(h:OV O=some r):AS prog 203 [rS O] (rB r):=by
 unfold OV at h
 refine mF func203 ntmps203 R λX=>aU<|mA R<|aZ<|aS λY Z u=>Zf<|BP h λo1 j w A=>?_
 have J1:∀(T:Unit) (U:NN),o1=.nrm T→Y ⟨[],[],(U 0),31⟩:=by
  intro T U e
  have h1:=w _ e
  exact Z _<|zB h1 R id
 refine Zz (λ(B:List UInt8) q=>⟨[(0,rS B)],[],(q 0),31⟩) (AH [X]) j wk ?_
 intro B q v1 C l
 have V:Fu B=some v1:=C;unfold Fu at V
 refine aT λc4=>aU<|mM R<|sQ R (DJ R iL iL)<|aZ<|cI R V (λE=>?_) λE=>?_
 ·refine Zd<|c4 _<|Zf<|aU<|mM R<|D5 E λr1 r2 F h4=>cL (pe<|F) R<|mM R<|xX R<|xX R<|mA R<|mA R<|aZ<|aT λc7=>aU<|mM R<|xQ R<|mM R<|vM R<|vQ R (Am R (iR R) iL)<|xN R<|mM R<|vM R<|vQ R (Am R (iR R) iL)<|xO R<|mM R<|vM R<|vQ R (Ea R underlying21 underlying3<|iR R)<|AG h4 λr3 I h5=>vL (λhg=>Z0<|AU I hg) R<|vQ R (A3 R<|iR R)<|xO R<|aZ<|cI R h5 (λJ=>?_) λJ=>?_
  ·exact zB (A _<|xH l J) R id
  refine Zd<|c7 _<|aF [0,4] ?_
  refine aR<|mM R<|mM R<|AG J λs5 M h7=>?_
  refine sQ R (Mi R underlying9 iL (by exact⟨_,iL⟩) (by exact R) λ_=>M) ?_
  exact mA R<|Zh<|Zx h7 (AH [(q 0)]) wk
 exact Zn<|u _ _ wk<|J1 _ (AH [(q 0)])<|xH l E
theorem sP{j r}(h:O7 j=some r):AS prog 204 (YT j) (rB r):=by
 unfold O7 at h
 exact mF func204 ntmps204 R λl=>aU<|sS R (A2 (cs:=(B0 j)) 1 R iL R R)<|mA R<|aZ<|aU<|lF HV A6 R R<|sQ R (Cz R iL iL)<|mM R<|vF Fb AJ R R<|vQ R (Am R (iR R) iL)<|xN R<|mM R<|vF Hf BD R R<|vQ R (Bk R Ac.slice<|iR R)<|vQ R (Am R (iR R) iL)<|xN R<|mA R<|aZ<|Zj<|yB h R
theorem fG{j r}(h:Pp j=some r):AS prog 220 [rI j] (rB r):=by
 unfold Pp at h
 exact mF func220 ntmps220 R λl=>aU<|mA R<|aZ<|aU<|mM R<|mM R<|xU R<|mA R<|aZ<|Zj<|yB h R
theorem RM{O T r}(h:JK O T=some r):AS prog 196 [rI O,rI T] (rI r):=by
 unfold JK at h
 refine mF func196 ntmps196 R λn0=>aU<|mA R<|aZ<|aU<|mM R<|AG h λq j U=>cL (fG<|j) R<|mA R<|aZ<|aU<|mM R<|AG U λu l V=>cL (fG<|l) R<|mA R<|aZ<|aT λX=>aU<|mM R<|aZ<|cI R V (λw=>?_) λw=>?_
 ·refine aT λY=>aT λZ=>aF [6] ?_
  refine aR<|mM R<|aZ<|Z _<|cI R w (λA=>?_) λA=>?_
  ·exact zI A R id
  exact Zd<|Y _<|zI A R id
 refine Zd<|X _<|aT λB=>aU<|mM R<|aZ<|cI R w (λC=>?_) λC=>?_
 ·exact zI C R id
 refine Zd<|B _<|aT λE=>aT λF=>aF [0,1] ?_
 refine aR<|mM R<|mM R<|xS R<|aZ<|F _<|cI R C (λI=>?_) λI=>?_
 ·exact zI I R id
 refine Zd<|E _<|aT λJ=>aU<|mM R<|mM R<|sQ R (A9 R iL iL)<|aZ<|cI R I (λM=>?_) λM=>?_
 ·exact zI M R id
 exact Zd<|J _<|zI M R id
theorem e7{v r}(h:MX v=some r):AS prog 195 [.r<|.sl<|v.map<|Ai .i64] (rI r):=by
 unfold MX at h
 refine mF func195 ntmps195 R λV=>aU<|mA R<|aZ<|aU<|mA R<|aZ<|aS λX Y u=>aU<|mM R<|xL CN R<|mM R<|aZ<|Zf<|BP h λZ j w A=>?_
 have J1:∀(O:Unit) (T:NN),Z=.nrm O→X ⟨[(3,rI 0)],[],(T 0),18⟩:=by
  intro O T e
  have h1:=w _ e
  exact Y _<|aU<|mM R<|mA R<|aZ<|Zj<|yI h1 R
 refine Zz (λ(B:Int) q=>⟨[(3,rI 0),(6,.r<|.sl<|v.map<|Ai .i64),(7,rL v),(8,rI B)],[],(q 0),18⟩) (AH [V]) j wk ?_
 intro B q v1 C l
 have U:Ec v B=some v1:=C;unfold Ec at U
 refine aU<|xS R<|aZ<|aT λc7=>cI R U (λE=>?_) λE=>?_
 ·refine Zd<|c7 _<|aT λc8=>Zf<|aU<|AG E λx4 F h4=>xI CN R F<|xV (.int .i64 x4) AJ R<|mA R<|aZ<|aU<|mM R<|mM R<|xU R<|aZ<|cI R h4 (λI=>?_) λI=>?_
  ·refine aT λJ=>aF [5] ?_
   exact aR<|mM R<|mA R<|aZ<|J _<|Zj<|yI (A _<|xH l I) R
  exact Zd<|c8 _<|aR<|AG I λx5 M h6=>xA R M<|mM R<|Zh<|Zx h6 (AH [(q 0)]) wk
 exact Zn<|u _ _ wk<|J1 _ (AH [(q 0)])<|xH l E
theorem pU{l q r}(h:La l q=some r):AS prog 205 [.agg<|B0 l,.agg<|B0 q] (rI r):=by
 unfold La at h
 refine mF func205 ntmps205 R λj=>aU<|sS R (A2 (cs:=(B0 l)) 2 R iL R R)<|sS R (A2 (cs:=(B0 q)) 3 R iL R R)<|mA R<|aZ<|aT λC=>AG h λu w E=>?_
 refine rP 9 [pO 5<|.ptr 2 j 0 0,pO 6<|rI l.Row,pO 7<|.ptr 3 (j+1) 0 0,pO 8<|rI q.Row,pO 9<|rI u,pO 10<|.ptr 2 j 0 1,pO 11<|rI l.Col,pO 12<|.ptr 3 (j+1) 0 1,pO 13<|rI q.Col] BA R (by exact⟨oB [(2,.ptr 2 j 0 0)] [(2,some<|.box j 183<|B0 l)]<|fB R GA (.inl R) (λ_=>R) R,oB [(5,.ptr 2 j 0 0)] [(2,some<|.box j 183<|B0 l)]<|AZ (a:=rI l.Row) R AJ (.inl R) R R,oB [(3,.ptr 3 (j+1) 0 0)] [(3,some<|.box (j+1) 183<|B0 q)]<|fB R GA (.inl R) (λ_=>R) R,oB [(7,.ptr 3 (j+1) 0 0)] [(3,some<|.box (j+1) 183<|B0 q)]<|AZ (a:=rI q.Row) R AJ (.inl R) R R,oD (λ_=>[(6,rI l.Row),(8,rI q.Row)]) (λ_=>[]) λF e O n=>Dy (r:=rI u) (caps:=[]) (bs:=[rI l.Row,rI q.Row]) R (.inl R) R ⟨⟨_,(.inl R),.d R⟩,⟨_,(.inl R),.d R⟩,Za⟩ (λ_=>RM<|w) R,oB [(2,.ptr 2 j 0 0)] [(2,some<|.box j 183<|B0 l)]<|fB R HD (.inl R) (λ_=>R) R,oB [(10,.ptr 2 j 0 1)] [(2,some<|.box j 183<|B0 l)]<|AZ (a:=rI l.Col) R AJ (.inl R) R R,oB [(3,.ptr 3 (j+1) 0 0)] [(3,some<|.box (j+1) 183<|B0 q)]<|fB R HD (.inl R) (λ_=>R) R,oB [(12,.ptr 3 (j+1) 0 1)] [(3,some<|.box (j+1) 183<|B0 q)]<|AZ (a:=rI q.Col) R AJ (.inl R) R R,Za⟩) λF T=>?_
 refine A8 [0,1,2,3,4,5,6,7,8,9,10,11,12,13] [2,3] ?_
 exact AG E λI A J=>cL (RM<|A) R<|sS R (B3 15 R CN (f:=(Ai .i64)) (l:=([u,I]:List Int)) ⟨R,⟨_,iL,R⟩,R,⟨_,iL,R⟩,Za⟩ R (λ_=>R) R)<|AG J λU B M=>cL (e7<|B) R<|mA R<|aZ<|C _<|Zj<|yI M R
theorem jG{C a c n r}(h:N7 C a c n=some r):AS prog 172 [qe C,rI a,rI c,rB n] (rI r):=by
 unfold N7 at h
 refine mF func172 ntmps172 R λn0=>aU<|mA R<|aZ<|aS λK2 c2 I=>aU<|mM R<|xL Cm R<|mM R<|aZ<|Zf<|BP h λo1 E J l=>?_
 have J1:∀(u2:Unit) (i5:NN),o1=.nrm u2→K2 ⟨[],[],(i5 0),79⟩:=by
  intro u2 i5 e
  have h1:=J _ e
  exact c2 _<|zI h1 R id
 refine Zz (λ(M:Int) F=>⟨[(0,qe C),(1,rI a),(2,rI c),(3,rB n),(12,qe C),(13,rL C),(14,rI M)],[],(F 0),79⟩) (AH [n0]) E wk ?_
 intro M F v1 O j
 have h2:OY C a c n M=some v1:=O;unfold OY at h2
 refine aU<|xS R<|aZ<|aT λc6=>cI R h2 (λT=>?_) λT=>?_
 ·refine Zd<|c6 _<|aT λc7=>Zf<|aU<|mM R<|AG T λq U h4=>xI Cm R U<|xB ((B0 q)) Fc R<|sS R (BF (cs:=MS) 10 R MZ R R)<|mA R<|Zk R R (Aj (ds:=(B0 q)) R MO iL R iL R R R R)<|aZ<|aT λc9=>Zf<|aU<|lF GA AJ R R<|xS R<|mM R<|vF GA AJ R R<|vM R<|vQ R (C1 R (iR R)<|iR R)<|xO R<|mM R<|vF HD AJ R R<|vQ R (B5 R (iR R) iL)<|xO R<|mM R<|vF HD AJ R R<|vM R<|vQ R (C1 R (iR R)<|iR R)<|xO R<|mA R<|aZ<|cI R h4 (λV=>?_) λV=>?_
  ·exact zI (l _<|xH j V) R id
  refine aT λX=>aG [0,1,2,3,9,10,12,13,14] [10] ?_
  refine aR<|lF Fb AJ R R<|xS R<|mM R<|vF Fb AJ R R<|vQ R (A9 R (iR R) iL)<|xO R<|mA R<|aZ<|X _<|cI R V (λY=>?_) λY=>?_
  ·exact zI (l _<|xH j Y) R id
  refine aU<|lF HV A6 R R<|AG Y λr1 Z h7=>cL (tS<|Z) R<|sQ R (A3 R iL)<|mA R<|aZ<|cI R h7 (λh8=>?_) λh8=>?_
  ·exact zI (l _<|xH j h8) R id
  refine Zd<|c9 _<|aT λa0=>aT λa1=>aG [0,1,2,3,9,10,12,13,14] [10] ?_
  refine aR<|lF Hf BD R R<|AG h8 λe1 a2 h9=>cL (Uk<|a2) R<|mA R<|aZ<|a1 _<|aU<|mM R<|xU R<|aZ<|cI R h9 (λu=>?_) λu=>?_
  ·refine aT λa6=>aF [11] ?_
   exact aR<|mM R<|mA R<|aZ<|a6 _<|Zj<|yI (l _<|xH j u) R
  refine Zd<|a0 _<|aT λa7=>aU<|xC Fc R<|AG u λr2 a8 aa=>cL (sP<|a8) R<|mM R<|vM R<|vQ R (A3 R<|iR R)<|xN R<|aZ<|cI R aa (λw=>?_) λw=>?_
  ·exact zI (l _<|xH j w) R id
  refine Zd<|a7 _<|aT λab=>aG [0,1,2,3,9,10,12,13,14] [10] ?_
  refine ZA BA (by kernel_rfl) ?_
  refine qP R (AK R iL)<|qP R (A9 R iL iL)<|qP R (AK R iL)<|qO R (AK R iL)<|qO R (AK R iL)<|AG w λx5 ac ad=>qO R (CG R (iR R) iL<|AU ac)<|AG ad λA ae af=>qO R (Az R Cm.slice (iR R) (iR R) (λ_=>R)<|AU ae)<|qO R (Ci (cs:=(B0 A)) R Fc (iR R) R R)<|qO R (FT R Fc iL R R)<|AG af λr3 ag ah=>Q2 (.one R R R) R R (r:=rI r3) (caps:=[]) (bs:=[.agg<|B0 A,.agg<|B0 q]) R iL R ⟨⟨_,(iR R),.g (cs:=[.int .i64 A.Row,.int .i64 A.Col,.str A.Text,.int .i64 A.Ref,.sl<|A.Attrs.map AC.row]) R R⟩,⟨_,(iR R),.g (cs:=[.int .i64 q.Row,.int .i64 q.Col,.str q.Text,.int .i64 q.Ref,.sl<|q.Attrs.map AC.row]) R R⟩,Za⟩ (λhg=>pU<|AU ag hg) R<|qO R (C1 R (iR R) iL)<|qP R (BI R iL<|iR R)<|AQ.nil<|ab _<|cI R ah (λB=>?_) λB=>?_
  ·exact zI (l _<|xH j B) R id
  exact Zd<|c7 _<|aR<|AG B λx7 ai aj=>xA R ai<|mM R<|Zh<|Zx aj (AH [((F 0)+1)]) wk
 exact Zn<|I _ _ wk<|J1 _ (AH [(F 0)])<|xH j T
theorem jx{j a c r}(h:Qj j a c=some r):AS prog 173 [.agg<|BR j,rI a,rI c] (rB r):=by
 unfold Qj at h
 refine mF func173 ntmps173 R λA=>aU<|sS R (A2 (cs:=(BR j)) 3 R iL R R)<|mA R<|aZ<|aU<|lF EC AJ R R<|sQ R (C1 R iL iL)<|mM R<|vF Eg AJ R R<|vQ R (C1 R (iR R) iL)<|xN R<|mM R<|vF HP AJ R R<|vQ R (C1 R (iR R) iL)<|xN R<|mM R<|vF Hj AJ R R<|vQ R (C1 R (iR R) iL)<|xN R<|mM R<|vF EC AJ R R<|vM R<|vQ R (B5 R (iR R)<|iR R)<|xN R<|mM R<|vF Eg AJ R R<|vM R<|vQ R (B5 R (iR R)<|iR R)<|xN R<|mM R<|vF HP AJ R R<|vM R<|vF EC AJ R R<|AG h λB l u=>vQ R (CG R (iR R) (iR R)<|AU l)<|vQ R (FG R (iR R)<|iR R)<|xN R<|mM R<|vF Hj AJ R R<|vM R<|vF Eg AJ R R<|AG u λC q w=>vQ R (CG R (iR R) (iR R)<|AU q)<|vQ R (FG R (iR R)<|iR R)<|xN R<|mA R<|aZ ?_
 exact Zj<|yB w R
theorem mX{j l r}(h:OG j l=some r):AS prog 174 [.agg<|BR j,.agg<|BR l] (rB r):=by
 unfold OG at h
 exact mF func174 ntmps174 R λq=>aU<|sS R (A2 (cs:=(BR j)) 2 R iL R R)<|sS R (A2 (cs:=(BR l)) 3 R iL R R)<|mA R<|aZ<|aU<|lF EC AJ R R<|lF EC AJ R R<|xS R<|mM R<|vF EC AJ R R<|vF EC AJ R R<|vQ R (Am R (iR R)<|iR R)<|vQ R (AK R<|iR R)<|wQ R (fB R Eg iL fR R)<|wQ R (AZ (a:=rI j.Col) R AJ (iR R) R R)<|wQ R (fB R Eg iL fR R)<|wQ R (AZ (a:=rI l.Col) R AJ (iR R) R R)<|wQ R (B5 R (iR R)<|iR R)<|vQ R (BI R (iR R)<|iR R)<|xO R<|mA R<|aZ<|Zj<|yB h R
theorem ou{j l r}(h:QL j l=some r):AS prog 177 [.agg<|BR j,.agg<|BR l] (rB r):=by
 unfold QL at h
 exact mF func177 ntmps177 R λI=>aU<|sS R (A2 (cs:=(BR j)) 2 R iL R R)<|sS R (A2 (cs:=(BR l)) 3 R iL R R)<|mA R<|aZ<|aU<|lF EC AJ R R<|lF EC AJ R R<|lF HP AJ R R<|AG h λJ q B=>xA R q<|xS R<|mM R<|vF EC AJ R R<|vF EC AJ R R<|vF HP AJ R R<|AG B λM u C=>vQ R (Gh R (iR R) (iR R)<|AU u)<|vQ R (B5 R (iR R)<|iR R)<|xN R<|mM R<|vF Eg AJ R R<|vF Eg AJ R R<|vF Hj AJ R R<|AG C λO w E=>vQ R (Gh R (iR R) (iR R)<|AU w)<|vQ R (B5 R (iR R)<|iR R)<|xN R<|mM R<|vF Eg AJ R R<|vF Eg AJ R R<|vF Hj AJ R R<|AG E λT A F=>vQ R (Gh R (iR R) (iR R)<|AU A)<|vQ R (B5 R (iR R)<|iR R)<|xN R<|mA R<|aZ<|Zj<|yB F R
theorem nd{l:As}{q:As}{r:Bool}{j:Nat}(h:Ts l q=some r):Bb prog 176 1 [.agg<|BR q,.ptr 1000 j 0 0] [(1000,some<|.box j 163<|BR l)] (λrr h'=>∃(i:Nat→Nat),rr=rB r∧h'=[(1000,some<|.box j 163<|BR l)]):=by
 unfold Ts at h
 refine EE func176 R R ntmps176 (Zv R) λA=>aU<|sS R (A2 (cs:=(BR q)) 2 R iL R R)<|mA R<|aZ<|aU<|xC El R<|xC El R<|AG h λw u B=>cL (ou<|u) R<|mA R<|aZ ?_
 exact Zj<|CP.mk (s':=⟨[(3,rB w)],[(1000,some<|.box j 163<|BR l)],(A+1),7⟩) wk<|Cc (λ(r:Bool) rr h'=>∃(i:Nat→Nat),rr=rB r∧h'=[(1000,some<|.box j 163<|BR l)]) B<|by exact⟨rB w,[(1000,some<|.box j 163<|BR l)],R,⟨.inr R,Za⟩,R,R,AH [],R,R⟩
theorem lj{l:As}{q:List As}{r:Int}{j:Nat}(h:Rk l q=some r):Bb prog 206 1 [qd q,.fn 176 [.ptr 1000 j 0 0]] [(1000,some<|.box j 163<|BR l)] (λrr h'=>∃(i:Nat→Nat),rr=rI r∧h'=[(1000,some<|.box j 163<|BR l)]):=by
 unfold Rk at h
 refine EE func206 R R ntmps206 (Zv R) λn0=>aU<|mA R<|aZ<|aS λK2 c2 B=>aU<|mM R<|xL Cp R<|mM R<|aZ<|Zf<|BP h λo1 u C E=>?_
 have J1:∀(Y:Unit) (F:NN),o1=.nrm Y→K2 ⟨[],[(1000,some<|.box j 163<|BR l)],(F 0),19⟩:=by
  intro Y F e
  have h1:=C _ e
  refine c2 _<|aU<|mA R<|aZ ?_
  exact Zj<|CP.mk (s':=⟨[(4,rI<|(-1))],[(1000,some<|.box j 163<|BR l)],(F 0),19⟩) wk<|Cc (λ(r:Int) rr h'=>∃(i:Nat→Nat),rr=rI r∧h'=[(1000,some<|.box j 163<|BR l)]) h1<|by exact⟨rI<|(-1),[(1000,some<|.box j 163<|BR l)],R,⟨.inr R,Za⟩,R,R,AH [],R,R⟩
 refine Zz (λ(w:Int) I=>⟨[(0,qd q),(1,.fn 176 [.ptr 1000 j 0 0]),(7,rL q),(8,rI w)],[(1000,some<|.box j 163<|BR l)],(I 0),19⟩) (AH [n0]) u wk ?_
 intro w I v1 J A
 have Z:Qf l q w=some v1:=J;unfold Qf at Z
 refine aU<|xS R<|aZ<|aT λc6=>cI R Z (λM=>?_) λM=>?_
 ·refine Zd<|c6 _<|aT λc7=>Zf<|aU<|mM R<|mA R<|aZ<|aT λc9=>aR<|mM R<|mM R<|mM R<|AG M λx4 O h4=>xI Cp R O<|xB ((BR x4)) El R<|AG h4 λr1 T h5=>?_
  refine Zo [1000] (hc:=[(1000,some<|.box j 163<|BR l)]) (bs:=[.agg<|BR x4]) (caps:=[.ptr 1000 j 0 0]) R R R R iL R ⟨.inl ⟨iL,R⟩,Za⟩ ⟨R,R,R,Za⟩ (by decide) (nd T) ?_
  intro i6 n1
  refine A8 [0,1,5,7,8,9,10,11,12,13,14,15,16] [1000] ?_
  refine aZ<|c9 _<|cI R h5 (λU=>?_) λU=>?_
  ·refine aT λV=>aG [5] [1000] ?_
   refine aR<|mM R<|mA R<|oZ V ?_
   exact Zj<|CP.mk (s':=⟨[(4,rI w)],[(1000,some<|.box j 163<|BR l)],n1,19⟩) wk<|Cc (λ(r:Int) rr h'=>∃(i:Nat→Nat),rr=rI r∧h'=[(1000,some<|.box j 163<|BR l)]) (E _<|xH A U)<|by exact⟨rI w,[(1000,some<|.box j 163<|BR l)],R,⟨.inr R,Za⟩,R,R,AH [],R,R⟩
  refine Zd<|c7 _<|aG [0,1,7,8] [1000] ?_
  exact aR<|AG U λx5 X h7=>xA R X<|mM R<|Zh<|Zx h7 (AH [n1]) wk
 exact Zn<|B _ _ wk<|J1 _ (AH [(I 0)])<|xH A M
theorem kB{l:As}{q:List As}{r:Bool}{j:Nat}(h:NQ l q=some r):Bb prog 175 1 [qd q,.fn 176 [.ptr 1000 j 0 0]] [(1000,some<|.box j 163<|BR l)] (λrr h'=>∃(i:Nat→Nat),rr=rB r∧h'=[(1000,some<|.box j 163<|BR l)]):=by
 unfold NQ at h
 refine EE func175 R R ntmps175 (Zv R) λE=>aU<|mA R<|aZ<|aT λA=>aR<|mM R<|mM R<|AG h λw u B=>?_
 refine Zo [1000] (hc:=[(1000,some<|.box j 163<|BR l)]) (bs:=[qd q,.fn 176 [.ptr 1000 j 0 0]]) (caps:=[]) R R R R iL R ⟨.inl ⟨iL,R⟩,.inl ⟨iL,R⟩,Za⟩ ⟨R,R,R,Za⟩ (by decide) (lj u) ?_
 intro F C
 refine A8 [0,1,4,5,6,7] [1000] ?_
 refine sQ R (C1 R iL iL)<|mA R<|oZ A ?_
 exact Zj<|CP.mk (s':=⟨[(4,rB<|(decide<|0≤w))],[(1000,some<|.box j 163<|BR l)],C,9⟩) wk<|Cc (λ(r:Bool) rr h'=>∃(i:Nat→Nat),rr=rB r∧h'=[(1000,some<|.box j 163<|BR l)]) B<|by exact⟨rB<|(decide<|0≤w),[(1000,some<|.box j 163<|BR l)],R,⟨.inr R,Za⟩,R,R,AH [],R,R⟩
theorem jl{q r}(h:Oa q=some r):AS prog 137 (XE q) (rI r):=by
 unfold Oa at h
 refine mF func137 ntmps137 R λI=>aU<|sS R (A2 (cs:=(DZ q)) 1 R iL R R)<|mA R<|aZ<|aT λc2=>aU<|lF GT AJ R R<|xS R<|mM R<|vF GT AJ R R<|vQ R (A9 R (iR R) iL)<|xO R<|mM R<|vF GO AJ R R<|vQ R (B5 R (iR R) iL)<|xO R<|mM R<|vF GO AJ R R<|vQ R (A9 R (iR R) iL)<|xO R<|aZ<|cI R h (λJ=>?_) λJ=>?_
 ·exact zI J R id
 refine Zd<|c2 _<|aT λc5=>aT λc6=>aG [1] [1] ?_
 refine aR<|lF F2 FR R R<|lF GT AJ R R<|lF GO AJ R R<|AG J λe1 M h2=>cL (jG<|M) R<|mA R<|aZ<|c6 _<|aU<|mM R<|xU R<|aZ<|cI R h2 (λO=>?_) λO=>?_
 ·refine aT λc8=>aF [3] ?_
  exact aR<|mM R<|mA R<|aZ<|c8 _<|Zj<|yI O R
 refine Zd<|c5 _<|aS λK9 c9 T=>aT λU=>aG [1] [1] ?_
 refine aR<|lF Fl D2 R R<|xL Cp R<|mM R<|aZ<|U _<|Zf<|BP O λo1 F V l=>?_
 have J1:∀(u2:Unit) (i5:NN),o1=.nrm u2→K9 ⟨[],[],(i5 0),81⟩:=by
  intro u2 i5 e
  have h4:=V _ e
  exact c9 _<|zI h4 R id
 refine Zz (λ(X:Int) C=>⟨[(1,.ptr 1 I 0 0),(35,qd q.Merges),(36,rL q.Merges),(37,rI X)],[(1,some<|.box I 43<|DZ q)],(C 0),81⟩) (AH [(I+1)]) F wk ?_
 intro X C v1 Y j
 have h5:Oc q X=some v1:=Y;unfold Oc at h5
 refine aU<|xS R<|aZ<|aT λZ=>cI R h5 (λh6=>?_) λh6=>?_
 ·refine Zd<|Z _<|aT λa0=>Zf<|aU<|mM R<|AG h6 λu a1 h7=>xI Cp R a1<|xB ((BR u)) El R<|sS R (BF (cs:=[rI 0,rI 0,rI 0,rI 0]) 5 R dT R R)<|mA R<|Zk R R (Aj (ds:=(BR u)) R fL iL R iL R R R R)<|aZ<|Zf<|aU<|xC El R<|lF GT AJ R R<|lF GO AJ R R<|AG h7 λr1 a2 h8=>cL (jx<|a2) R<|sQ R (A3 R iL)<|mA R<|aZ<|cI R h8 (λh9=>?_) λh9=>?_
  ·exact zI (l _<|xH j h9) R id
  refine aT λa6=>aG [1,4,5,35,36,37] [1,5] ?_
  refine aR<|lF HP AJ R R<|xQ R<|mM R<|vF Hj AJ R R<|vQ R (Am R (iR R) iL)<|xN R<|mA R<|aZ<|a6 _<|cI R h9 (λw=>?_) λw=>?_
  ·exact zI (l _<|xH j w) R id
  refine aT λa7=>?_
  refine ZA BA (by kernel_rfl) ?_
  refine qP R (AK R iL)<|qP R (A9 R iL iL)<|qP R (AK R iL)<|qO R (fB R Fl iL fR R)<|qO R (AZ (a:=qd q.Merges) R D2 (iR R) R R)<|qO R (AK R iL)<|AG w λx5 a8 aa=>qO R (CG R (iR R) iL<|AU a8)<|AG aa λE ab ac=>qO R (Az R Cp.slice (iR R) (iR R) (λ_=>R)<|AU ab)<|qO R (Ci (cs:=(BR E)) R El (iR R) R R)<|qO R (FT R El iL R R)<|AG ac λr2 ad ae=>Q2 (.one R R R) R R (r:=rB r2) (caps:=[]) (bs:=[.agg<|BR E,.agg<|BR u]) R iL R ⟨⟨_,(iR R),.g (cs:=[.int .i64 E.Row,.int .i64 E.Col,.int .i64 E.H,.int .i64 E.W]) R R⟩,⟨_,(iR R),.g (cs:=[.int .i64 u.Row,.int .i64 u.Col,.int .i64 u.H,.int .i64 u.W]) R R⟩,Za⟩ (λhg=>mX<|AU ad hg) R<|qO R (A3 R<|iR R)<|qP R (BI R iL<|iR R)<|qP R (Dj R iL)<|AQ.nil<|a7 _<|cI R ae (λA=>?_) λA=>?_
  ·exact zI (l _<|xH j A) R id
  refine aT λaf=>aG [1,4,5,35,36,37] [1,5] ?_
  refine aR<|lF Fl D2 R R<|mM R<|AG A λl1 ag ah=>?_
  refine sQ R (Tg R Cp.slice iL (by exact R) (by exact⟨_,iL⟩) (λ_=>R) λ_=>ag) ?_
  refine sQ R (Pw (bs:=[.ptr 5 (C 0) 0 0]) R<|by exact⟨iL,Za⟩) ?_
  refine AG ah λr3 ai aj=>?_
  refine Zo [5] (hc:=[(1000,some<|.box (C 0) 163<|BR u)]) (bs:=[qd l1,.fn 176 [.ptr 1000 (C 0) 0 0]]) (caps:=[]) R R R R iL R ⟨.inl ⟨iL,R⟩,.inl ⟨iL,R⟩,Za⟩ ⟨R,R,R,Za⟩ (by decide) (kB ai) ?_
  intro i6 n1
  refine A8 [1,4,5,35,36,37,74,75,76,77,78,79] [1,5] ?_
  refine mA R<|aZ<|af _<|cI R aj (λB=>?_) λB=>?_
  ·exact zI (l _<|xH j B) R id
  refine Zd<|a0 _<|aG [1,35,36,37] [1] ?_
  exact aR<|AG B λx7 ak al=>xA R ak<|mM R<|Zh<|Zx al (AH [n1]) wk
 exact Zn<|T _ _ wk<|J1 _ (AH [(C 0)])<|xH j h6
theorem uC{k j r}(h:PI k j=some r):AS prog 138 [rI k,qe j] (rI r):=by
 unfold PI at h
 refine mF func138 ntmps138 R λX=>aU<|mA R<|aZ<|aS λY Z A=>aU<|mM R<|xL Cm R<|mM R<|aZ<|Zf<|BP h λo1 l B C=>?_
 have J1:∀(T:Unit) (U:NN),o1=.nrm T→Y ⟨[],[],(U 0),36⟩:=by
  intro T U e
  have h1:=B _ e
  exact Z _<|zI h1 R id
 refine Zz (λ(E:Int) u=>⟨[(0,rI k),(7,qe j),(8,rL j),(9,rI E)],[],(u 0),36⟩) (AH [X]) l wk ?_
 intro E u v1 F q
 have V:OC k j E=some v1:=F;unfold OC at V
 refine aU<|xS R<|aZ<|aT λc6=>cI R V (λI=>?_) λI=>?_
 ·refine Zd<|c6 _<|aT λc7=>Zf<|aU<|AG I λw J h4=>xI Cm R J<|xB ((B0 w)) Fc R<|sS R (BF (cs:=MS) 6 R MZ R R)<|Zk R R (Aj (ds:=(B0 w)) R MO iL R iL R R R R)<|aZ<|aU<|mM R<|xQ R<|mM R<|vF HV A6 R R<|vQ R (DJ R (iR R) iL)<|vQ R (AK R<|iR R)<|wQ R (fB R Hf iL fR R)<|wQ R (AZ (a:=qa w.Attrs) R BD (iR R) R R)<|wQ R (Bk R Ac.slice<|iR R)<|wQ R (A9 R (iR R) iL)<|vQ R (CW R (iR R)<|iR R)<|xN R<|mM R<|vM R<|vQ R (Am R (iR R) iL)<|vQ R (AK R<|iR R)<|wQ R (fB R Fb iL fR R)<|wQ R (AZ (a:=rI w.Ref) R AJ (iR R) R R)<|wQ R (Ct R (iR R) iL)<|vQ R (BI R (iR R)<|iR R)<|xO R<|aZ<|cI R h4 (λM=>?_) λM=>?_
  ·exact zI (C _<|xH q M) R id
  refine Zd<|c7 _<|aF [0,7,8,9] ?_
  exact aR<|AG M λx5 O h6=>xA R O<|mM R<|Zh<|Zx h6 (AH [((u 0)+1)]) wk
 exact Zn<|A _ _ wk<|J1 _ (AH [(u 0)])<|xH q I
theorem sx{l r}(h:N9 l=some r):AS prog 207 [rS l] (rB r):=by
 unfold N9 at h
 refine mF func207 ntmps207 R λn0=>aU<|mA R<|aZ<|aT λc2=>aU<|mM R<|sQ R (Cz R iL iL)<|mM R<|vM R<|vQ R (Ds R underlying9<|iR R)<|vQ R (A9 R (iR R) iL)<|xO R<|mM R<|vM R<|vM R<|vQ R (Ds R underlying9<|iR R)<|AG h λx1 B h1=>vQ R (CG R (iR R) iL<|AU B)<|AG h1 λa0 q h2=>vQ R (DL R underlying9 (iR R) (iR R)<|AU q)<|vQ R (Am R (iR R) iL)<|xO R<|aZ<|cI R h2 (λC=>?_) λC=>?_
 ·exact zB C R id
 refine Zd<|c2 _<|aS λK5 c5 E=>aT λc6=>aF [0] ?_
 refine aR<|mM R<|sQ R (Ds R underlying9 iL)<|mM R<|aZ<|c6 _<|Zf<|BP C λo1 u F I=>?_
 have J1:∀(X:Unit) (Y:NN),o1=.nrm X→K5 ⟨[],[],(Y 0),35⟩:=by
  intro X Y e
  have h4:=F _ e
  exact c5 _<|zB h4 R id
 refine Zz (λ(J:Int) A=>⟨[(0,rS l),(20,rL l),(21,rI J)],[],(A 0),35⟩) (AH [n0]) u wk ?_
 intro J A v1 M w
 have Z:S7 l J=some v1:=M;unfold S7 at Z
 refine aU<|xS R<|aZ<|aT λc9=>cI R Z (λO=>?_) λO=>?_
 ·refine Zd<|c9 _<|aT λT=>Zf<|aU<|mM R<|mA R<|aZ<|aU<|mM R<|mM R<|AG O λa1 j h7=>sQ R (DL R underlying9 iL iL λ_=>j)<|xS R<|mM R<|vM R<|vM R<|vQ R (DL R underlying9 (iR R) (iR R) λ_=>j)<|vQ R (A9 R (iR R) iL)<|xO R<|aZ<|cI R h7 (λU=>?_) λU=>?_
  ·exact zB (I _<|xH w U) R id
  refine Zd<|T _<|aF [0,20,21] ?_
  exact aR<|AG U λx5 V h9=>xA R V<|mM R<|Zh<|Zx h9 (AH [(A 0)]) wk
 exact Zn<|E _ _ wk<|J1 _ (AH [(A 0)])<|xH w O
theorem iH{j r}(h:O9 j=some r):AS prog 178 (rl j) (rI r):=by
 unfold O9 at h
 refine mF func178 ntmps178 R λC=>aU<|sS R (A2 (cs:=(Cf j)) 1 R iL R R)<|mA R<|aZ<|aT λc2=>Zf<|aU<|lF Gy AJ R R<|xU R<|mM R<|vF Gy AJ R R<|vQ R (Ct R (iR R) iL)<|xN R<|mA R<|aZ<|cI R h (λM=>?_) λM=>?_
 ·exact zI M R id
 refine aT λc5=>aG [1] [1] ?_
 refine aR<|lF IG AJ R R<|xS R<|mM R<|vF IG AJ R R<|vQ R (A9 R (iR R) iL)<|xO R<|mM R<|vF KB AJ R R<|vQ R (B5 R (iR R) iL)<|xO R<|mM R<|vF KB AJ R R<|vQ R (A9 R (iR R) iL)<|xO R<|mM R<|vF W9 AJ R R<|vQ R (B5 R (iR R) iL)<|xO R<|mM R<|vF W9 AJ R R<|vQ R (A9 R (iR R) iL)<|xO R<|mA R<|aZ<|c5 _<|cI R M (λO=>?_) λO=>?_
 ·exact zI O R id
 refine aS λK7 c7 E=>aT λc8=>aG [1] [1] ?_
 refine aR<|lF Gy AJ R R<|xQ R<|mM R<|vF RG A6 R R<|vQ R (DJ R (iR R) iL)<|vQ R (AK R<|iR R)<|wQ R (fB R L7 iL fR R)<|wQ R (AZ (a:=rS j.Value) R A6 (iR R) R R)<|wQ R (DJ R (iR R) iL)<|vQ R (CW R (iR R)<|iR R)<|xN R<|mA R<|aZ<|c8 _<|BH O λp1 F T=>?_
 have J1:∀(U:Bool) (J:NN),p1=U→K7 ⟨[(1,.ptr 1 C 0 0),(41,rB U)],[(1,some<|.box C 165<|Cf j)],(J 0),116⟩:=by
  intro U J e
  have h3:=T _ e
  refine c7 _<|cI R h3 (λV=>?_) λV=>?_
  ·exact zI V R id
  refine aU<|lF Gy AJ R R<|xQ R<|mM R<|vF Oo AJ R R<|vQ R (B5 R (iR R) iL)<|vQ R (AK R<|iR R)<|wQ R (fB R Oo iL fR R)<|wQ R (AZ (a:=rI j.Parent) R AJ (iR R) R R)<|wQ R (A9 R (iR R) iL)<|vQ R (CW R (iR R)<|iR R)<|xN R<|mA R<|aZ<|cI R V (λX=>?_) λX=>?_
  ·exact zI X R id
  refine aS λY Z l=>aT λa0=>aG [1] [1] ?_
  refine aR<|lF Gy AJ R R<|xQ R<|mM R<|vF TX A6 R R<|AG X λr1 a1 h6=>vL (λhg=>sx<|AU a1 hg) R<|vQ R (A3 R<|iR R)<|xN R<|mA R<|aZ<|a0 _<|BH h6 λp2 I a2=>?_
  have J2:∀(x2:Bool) (i2:NN),p2=x2→Y ⟨[(1,.ptr 1 C 0 0),(82,rB x2)],[(1,some<|.box C 165<|Cf j)],(i2 0),116⟩:=by
   intro x2 i2 e
   have h7:=a2 _ e
   refine Z _<|cI R h7 (λh8=>?_) λh8=>?_
   ·exact zI h8 R id
   refine aU<|lF Gy AJ R R<|xQ R<|mM R<|vF L7 A6 R R<|vQ R (DJ R (iR R) iL)<|xN R<|mM R<|vF L7 A6 R R<|AG h8 λr2 a6 h9=>vL (λhg=>XI<|AU a6 hg) R<|vQ R (A3 R<|iR R)<|xN R<|mA R<|aZ<|cI R h9 (λq=>?_) λq=>?_
   ·exact zI q R id
   exact Zd<|c2 _<|zI q R id
  refine aC R (λu=>?_) λu=>?_
  ·have w:=CF u I
   exact Zd<|l _ _ wk<|J2 _ (AH [(J 0)]) (Zc w).symm
  ·have w:=CA u I
   refine aG [1] [1] ?_
   exact aR<|lF Gy AJ R R<|xQ R<|mM R<|vF RG A6 R R<|AG w λr3 a7 a8=>vL (λhg=>ZT<|AU a7 hg) R<|vQ R (A3 R<|iR R)<|xN R<|mA R<|Zh<|l _ _ wk<|J2 _ (AH [(J 0)]) (Zc a8).symm
 refine aC R (λA=>?_) λA=>?_
 ·have B:=CF A F
  exact Zd<|E _ _ wk<|J1 _ (AH [(C+1)]) (Zc B).symm
 ·have B:=CA A F
  refine aG [1] [1] ?_
  exact aR<|lF Gy AJ R R<|xQ R<|mM R<|vF Oo AJ R R<|vQ R (Ct R (iR R) iL)<|vQ R (AK R<|iR R)<|wQ R (fB R TX iL fR R)<|wQ R (AZ (a:=rS j.Place) R A6 (iR R) R R)<|wQ R (DJ R (iR R) iL)<|vQ R (CW R (iR R)<|iR R)<|xN R<|mA R<|Zh<|E _ _ wk<|J1 _ (AH [(C+1)]) (Zc B).symm
theorem p8{l q r}(h:PN l q=some r):AS prog 167 [.agg<|Cf l,.agg<|Cf q] (rI r):=by
 unfold PN at h
 refine mF func167 ntmps167 R λj=>aU<|sS R (A2 (cs:=(Cf l)) 2 R iL R R)<|sS R (A2 (cs:=(Cf q)) 3 R iL R R)<|mA R<|aZ<|aT λC=>AG h λu w E=>?_
 refine rP 9 [pO 5<|.ptr 2 j 0 0,pO 6<|rI l.Clock,pO 7<|.ptr 3 (j+1) 0 0,pO 8<|rI q.Clock,pO 9<|rI u,pO 10<|.ptr 2 j 0 1,pO 11<|rI l.Site,pO 12<|.ptr 3 (j+1) 0 1,pO 13<|rI q.Site] BA R (by exact⟨oB [(2,.ptr 2 j 0 0)] [(2,some<|.box j 165<|Cf l)]<|fB R IG (.inl R) (λ_=>R) R,oB [(5,.ptr 2 j 0 0)] [(2,some<|.box j 165<|Cf l)]<|AZ (a:=rI l.Clock) R AJ (.inl R) R R,oB [(3,.ptr 3 (j+1) 0 0)] [(3,some<|.box (j+1) 165<|Cf q)]<|fB R IG (.inl R) (λ_=>R) R,oB [(7,.ptr 3 (j+1) 0 0)] [(3,some<|.box (j+1) 165<|Cf q)]<|AZ (a:=rI q.Clock) R AJ (.inl R) R R,oD (λ_=>[(6,rI l.Clock),(8,rI q.Clock)]) (λ_=>[]) λF e O n=>Dy (r:=rI u) (caps:=[]) (bs:=[rI l.Clock,rI q.Clock]) R (.inl R) R ⟨⟨_,(.inl R),.d R⟩,⟨_,(.inl R),.d R⟩,Za⟩ (λ_=>RM<|w) R,oB [(2,.ptr 2 j 0 0)] [(2,some<|.box j 165<|Cf l)]<|fB R KB (.inl R) (λ_=>R) R,oB [(10,.ptr 2 j 0 1)] [(2,some<|.box j 165<|Cf l)]<|AZ (a:=rI l.Site) R AJ (.inl R) R R,oB [(3,.ptr 3 (j+1) 0 0)] [(3,some<|.box (j+1) 165<|Cf q)]<|fB R KB (.inl R) (λ_=>R) R,oB [(12,.ptr 3 (j+1) 0 1)] [(3,some<|.box (j+1) 165<|Cf q)]<|AZ (a:=rI q.Site) R AJ (.inl R) R R,Za⟩) λF T=>?_
 refine A8 [0,1,2,3,4,5,6,7,8,9,10,11,12,13] [2,3] ?_
 exact AG E λI A J=>cL (RM<|A) R<|sS R (B3 15 R CN (f:=(Ai .i64)) (l:=([u,I]:List Int)) ⟨R,⟨_,iL,R⟩,R,⟨_,iL,R⟩,Za⟩ R (λ_=>R) R)<|AG J λU B M=>cL (e7<|B) R<|mA R<|aZ<|C _<|Zj<|yI M R
theorem nr{w r}(h:OF w=some r):AS prog 139 [qf w] (rI r):=by
 unfold OF at h
 refine mF func139 ntmps139 R λn0=>aU<|mA R<|aZ<|aS λK2 c2 E=>aU<|mM R<|xL Eu R<|mM R<|aZ<|Zf<|BP h λo1 A F B=>?_
 have J1:∀(u2:Unit) (i5:NN),o1=.nrm u2→K2 ⟨[],[],(i5 0),31⟩:=by
  intro u2 i5 e
  have h1:=F _ e
  exact c2 _<|zI h1 R id
 refine Zz (λ(I:Int) C=>⟨[(0,qf w),(6,qf w),(7,rL w),(8,rI I)],[],(C 0),31⟩) (AH [n0]) A wk ?_
 intro I C v1 J q
 have h2:N5 w I=some v1:=J;unfold N5 at h2
 refine aU<|xS R<|aZ<|aT λc6=>cI R h2 (λM=>?_) λM=>?_
 ·refine Zd<|c6 _<|aT λc7=>Zf<|aU<|mM R<|AG M λj O h4=>xI Eu R O<|xB ((Cf j)) Ig R<|sS R (BF (cs:=[rI 0,rI 0,rI 0,rI 0,rI 0,.r<|.str [],.r<|.str [],.r<|.str []]) 4 R ZS R R)<|mA R<|Zk R R (Aj (ds:=(Cf j)) R YQ iL R iL R R R R)<|aZ<|aT λc9=>aU<|xC Ig R<|AG h4 λe1 T h5=>cL (iH<|T) R<|mA R<|aZ<|aU<|mM R<|xU R<|aZ<|cI R h5 (λU=>?_) λU=>?_
  ·refine aT λV=>aF [5] ?_
   exact aR<|mM R<|mA R<|aZ<|V _<|Zj<|yI (B _<|xH q U) R
  refine Zd<|c9 _<|aT λX=>aG [0,3,4,6,7,8] [4] ?_
  refine ZA BA (by kernel_rfl) ?_
  refine qP R (AK R iL)<|qP R (A9 R iL iL)<|qP R (AK R iL)<|qO R (AK R iL)<|qO R (AK R iL)<|AG U λx5 Y h7=>qO R (CG R (iR R) iL<|AU Y)<|AG h7 λl Z h8=>qO R (Az R Eu.slice (iR R) (iR R) (λ_=>R)<|AU Z)<|qO R (Ci (cs:=(Cf l)) R Ig (iR R) R R)<|qO R (FT R Ig iL R R)<|AG h8 λr1 a0 h9=>Q2 (.one R R R) R R (r:=rI r1) (caps:=[]) (bs:=[.agg<|Cf l,.agg<|Cf j]) R iL R ⟨⟨_,(iR R),.g (cs:=[.int .i64 l.Clock,.int .i64 l.Site,.int .i64 l.Kind,.int .i64 l.Item,.int .i64 l.Parent,.str l.Place,.str l.Name,.str l.Value]) R R⟩,⟨_,(iR R),.g (cs:=[.int .i64 j.Clock,.int .i64 j.Site,.int .i64 j.Kind,.int .i64 j.Item,.int .i64 j.Parent,.str j.Place,.str j.Name,.str j.Value]) R R⟩,Za⟩ (λhg=>p8<|AU a0 hg) R<|qO R (C1 R (iR R) iL)<|qP R (BI R iL<|iR R)<|AQ.nil<|X _<|cI R h9 (λu=>?_) λu=>?_
  ·exact zI (B _<|xH q u) R id
  exact Zd<|c7 _<|aR<|AG u λx7 a1 a2=>xA R a1<|mM R<|Zh<|Zx a2 (AH [((C 0)+1)]) wk
 exact Zn<|E _ _ wk<|J1 _ (AH [(C 0)])<|xH q M
theorem qY{n1 r}(h:FM n1=some r):AS prog 84 (NG n1) (rI r):=by
 unfold FM at h
 refine mF func84 ntmps84 R λA=>aU<|sS R (A2 (cs:=(Bp n1)) 1 R iL R R)<|mA R<|aZ<|aT λc2=>Zf<|aU<|lF Ei AJ R R<|xS R<|mM R<|vF Ei AJ R R<|vQ R (A9 R (iR R) iL)<|xO R<|mA R<|aZ<|cI R h (λV=>?_) λV=>?_
 ·exact zI V R id
 refine aT λc5=>aG [1] [1] ?_
 refine aR<|lF Cy AJ R R<|xS R<|mM R<|vF Cy AJ R R<|vQ R (C1 R (iR R) iL)<|xO R<|mM R<|vF Ei AJ R R<|vQ R (Am R (iR R) iL)<|vF Cy AJ R R<|vQ R (Am R (iR R) iL)<|vQ R (X2 R underlying4 (iR R)<|iR R)<|xO R<|mA R<|aZ<|c5 _<|cI R V (λX=>?_) λX=>?_
 ·exact zI X R id
 refine Zd<|c2 _<|aT λc7=>aT λc8=>aG [1] [1] ?_
 refine aR<|lF TZ BD R R<|AG X λe1 Y h3=>cL (Uk<|Y) R<|mA R<|aZ<|c8 _<|aU<|mM R<|xU R<|aZ<|cI R h3 (λZ=>?_) λZ=>?_
 ·exact aU<|mM R<|mA R<|aZ<|Zj<|yI Z R
 refine Zd<|c7 _<|aT λa0=>?_
 refine ZA BA (by kernel_rfl) ?_
 refine qP R (fB R Cy iL fR R)<|qP R (AZ (a:=rI n1.Kind) R AJ iL R R)<|AG Z λl O h5=>Fw R R R (r:=rB l) (caps:=[]) (bs:=[rI n1.Kind]) R iL R ⟨⟨_,iL,.d R⟩,Za⟩ (λ_=>Wo<|O) R<|qP R (AK R iL)<|qO R (fB R Cy iL fR R)<|qO R (AZ (a:=rI n1.Kind) R AJ (iR R) R R)<|AG h5 λq a1 h6=>Q2 (.one R R R) R R (r:=rB q) (caps:=[]) (bs:=[rI n1.Kind]) R iL R ⟨⟨_,(iR R),.d R⟩,Za⟩ (λhg=>nt<|AU a1 hg) R<|qP R (CW R iL<|iR R)<|qP R (fB R Cy iL fR R)<|qP R (AZ (a:=rI n1.Kind) R AJ iL R R)<|AG h6 λj B h7=>Fw R R R (r:=rB j) (caps:=[]) (bs:=[rI n1.Kind]) R iL R ⟨⟨_,iL,.d R⟩,Za⟩ (λ_=>kH<|B) R<|qP R (Dj R iL)<|qP R (Dj R iL)<|AQ.nil<|a0 _<|aT λa2=>aS λa6 a7 C=>aG [1,4,5] [1] ?_
 refine aR<|mM R<|sQ R (A3 R iL)<|mM R<|vF FP B9 R R<|vQ R (Bk R Ah.slice<|iR R)<|vQ R (A9 R (iR R) iL)<|xN R<|mM R<|vM R<|vQ R (A3 R<|iR R)<|vQ R (AK R<|iR R)<|wQ R (fB R Ga iL fR R)<|wQ R (HQ (ds:=(DZ n1.Grid)) R ME (iR R) R R R) ?_
 refine wQ R (Bt R mt (q:=[]) (by exact Za) (cs:=EB)<|by rfl) ?_
 refine BH h7 λp1 T a8=>?_
 have J1:∀(x1:Bool) (i1:NN),p1=x1→a6 ⟨[(1,.ptr 1 A 0 0),(4,rB<|(l||q)),(5,rB j),(81,rB x1)],[(1,some<|.box A 46<|Bp n1)],(i1 0),107⟩:=by
  intro x1 i1 e
  have h8:=a8 _ e
  refine a7 _<|cI R h8 (λh9=>?_) λh9=>?_
  ·exact zI h9 R id
  refine Zd<|a2 _<|aT λaa=>Zf<|aU<|mM R<|mA R<|aZ<|cI R h9 (λF=>?_) λF=>?_
  ·refine aT λab=>?_
   refine ZA BA (by kernel_rfl) ?_
   exact qP R (fB R FP iL fR R)<|qP R (AZ (a:=qb n1.Flow) R B9 iL R R)<|qP R (fB R Cy iL fR R)<|qP R (AZ (a:=rI n1.Kind) R AJ iL R R)<|Fw R R R (r:=rB l) (caps:=[]) (bs:=[rI n1.Kind]) R iL R ⟨⟨_,iL,.d R⟩,Za⟩ (λ_=>Wo<|O) R<|AG F λr4 ac ad=>Fw R R R (r:=rI r4) (caps:=[]) (bs:=[qb n1.Flow,rB l]) R iL R ⟨⟨_,iL,.d R⟩,⟨_,iL,.d R⟩,Za⟩ (λ_=>nw<|ac) R<|qP R (Dj R iL)<|AQ.nil<|ab _<|Zj<|yI ad R
  refine aU<|mM R<|mA R<|aZ<|cI R F (λI=>?_) λI=>?_
  ·refine aT λae=>aU<|sQ R (fB R Ga iL fR R)<|sQ R (HQ (ds:=(DZ n1.Grid)) R ME iL R R R)<|AG I λe2 af ag=>cL (jl<|af) R<|mA R<|aZ<|aT λah=>aG [1,6] [1] ?_
   refine aR<|mM R<|xU R<|aZ<|ah _<|cI R ag (λJ=>?_) λJ=>?_
   ·exact aU<|mM R<|mA R<|aZ<|Zj<|yI J R
   exact Zd<|ae _<|aU<|lF Cy AJ R R<|sQ R (fB R Ga iL fR R)<|lF F2 FR R R<|AG J λr5 ai aj=>cL (uC<|ai) R<|mA R<|aZ<|Zj<|yI aj R
  exact Zd<|aa _<|aU<|lF JQ HM R R<|AG I λr6 ak al=>cL (nr<|ak) R<|mA R<|aZ<|Zj<|yI al R
 refine AL.split (((!(l||q))&&(0<(n1.Flow.length:Int)))==false) (λu=>?_) λu=>?_
 ·have E:=CF u T
  refine AL.weak (by exact Q3 (e':=[(1,.ptr 1 A 0 0),(4,rB<|(l||q)),(5,rB j),(51,rB<|(l||q)),(52,rB<|(!(l||q))),(53,rB<|(!(l||q))),(58,rB<|((!(l||q))&&(0<(n1.Flow.length:Int)))),(59,rB<|((!(l||q))&&(0<(n1.Flow.length:Int)))),(60,rB j),(61,rB<|(!j)),(62,rB<|(!j)),(63,.whn ((!j)==true)<|.ptr 1 A 0 4),(64,.whn ((!j)==true)<|.agg<|DZ n1.Grid),(65,.whn ((!j)==true)<|.agg EB)]) u ⟨.inl R,.inl R,.inl R,.inl R,.inl R,.inl R,.inl R,.inl R,.inr iL,.inr iL,.inr iL,.inr<|.inr<|.inl ⟨_,_,R,R⟩,.inr<|.inr<|.inl ⟨_,_,R,R⟩,.inr<|.inr<|.inl ⟨_,_,R,R⟩,Za⟩) ?_
  refine AL.split ((!j)==true) (λw=>?_) λw=>?_
  ·have M:=CF w E
   refine AL.weak (by exact Q3 (e':=[(1,.ptr 1 A 0 0),(4,rB<|(l||q)),(5,rB j),(51,rB<|(l||q)),(52,rB<|(!(l||q))),(53,rB<|(!(l||q))),(58,rB<|((!(l||q))&&(0<(n1.Flow.length:Int)))),(59,rB<|((!(l||q))&&(0<(n1.Flow.length:Int)))),(60,rB j),(61,rB<|(!j)),(62,rB<|(!j)),(63,.ptr 1 A 0 4),(64,.agg<|DZ n1.Grid),(65,.agg EB)]) w ⟨.inl R,.inl R,.inl R,.inl R,.inl R,.inl R,.inl R,.inl R,.inl R,.inl R,.inl R,.inr iL,.inr iL,.inr iL,Za⟩) ?_
   refine AL.weak (by exact ZE (e':=[(1,.ptr 1 A 0 0),(4,rB<|(l||q)),(5,rB j),(51,rB<|(l||q)),(52,rB<|(!(l||q))),(53,rB<|(!(l||q))),(58,rB<|((!(l||q))&&(0<(n1.Flow.length:Int)))),(59,rB<|((!(l||q))&&(0<(n1.Flow.length:Int)))),(60,rB j),(61,rB<|(!j)),(62,rB<|(!j)),(63,.ptr 1 A 0 4),(64,.agg<|DZ n1.Grid),(65,.agg [rI 0,rI 0,.r<|.sl [],.r<|.sl []])]) (h':=[(1,some<|.box A 46<|Bp n1)]) ⟨jL,jL,jL,jL,jL,jL,jL,jL,jL,jL,jL,jL,jL,.inr ⟨_,_,R,R,⟨.inl R,.inl R,.inr<|.inr ⟨R,R⟩,.inr<|.inr ⟨R,R⟩,Za⟩⟩,Za⟩ ⟨.inl R,Za⟩ nL) ?_
   exact AG M λr7 an ao=>IB (.one R R R) w R R (Dy (r:=rB r7) (caps:=[]) (bs:=[.agg<|DZ n1.Grid,.agg [rI 0,rI 0,.r<|.sl [],.r<|.sl []]]) R (.inl R) R ⟨⟨_,(.inl R),.g (cs:=[.int .i64 n1.Grid.Rows,.int .i64 n1.Grid.Cols,.sl<|n1.Grid.Cells.map Av.row,.sl<|n1.Grid.Merges.map As.row]) R R⟩,⟨_,(.inl R),.g (cs:=[.int .i64 0,.int .i64 0,.sl<|[].map Av.row,.sl<|[].map As.row]) R R⟩,Za⟩ (λ_=>sN<|an) R)<|IB (.one R R R) w R R (AR.spec (A3 R<|.inl R) _)<|IB (.one R R R) u R R (AR.spec (BI R (.inl R)<|.inl R) _)<|sQ R (CW R iL iL)<|mM R<|vF Cy AJ R R<|AG ao λr8 aq ar=>vL (λhg=>Ub<|AU aq hg) R<|vQ R (A3 R<|iR R)<|vQ R (AK R<|iR R)<|wQ R (fB R JQ iL fR R)<|wQ R (AZ (a:=qf n1.Draw) R HM (iR R) R R)<|wQ R (Bk R Eu.slice<|iR R)<|wQ R (A9 R (iR R) iL)<|vQ R (BI R (iR R)<|iR R)<|xO R<|Zh<|C _ _ wk<|J1 _ (AH [(A+1)]) (Zc ar).symm
  ·have M:=CA w E
   exact GC (.one R R R) w R R<|GC (.one R R R) w R R<|IB (.one R R R) u R R (AR.spec (BI R (.inl R)<|iR R) _)<|sQ R (CW R iL iL)<|mM R<|vF Cy AJ R R<|AG M λr9 av aw=>vL (λhg=>Ub<|AU av hg) R<|vQ R (A3 R<|iR R)<|vQ R (AK R<|iR R)<|wQ R (fB R JQ iL fR R)<|wQ R (AZ (a:=qf n1.Draw) R HM (iR R) R R)<|wQ R (Bk R Eu.slice<|iR R)<|wQ R (A9 R (iR R) iL)<|vQ R (BI R (iR R)<|iR R)<|xO R<|Zh<|C _ _ wk<|J1 _ (AH [(A+1)]) (Zc aw).symm
 ·have E:=CA u T
  exact GC (.two R R R) (ZP u) R R<|GC (.two R R R) (ZP u) R R<|GC (.one R R R) u R R<|xO R<|mM R<|vF Cy AJ R R<|AG E λay U ax=>vL (λhg=>Ub<|AU U hg) R<|vQ R (A3 R<|iR R)<|vQ R (AK R<|iR R)<|wQ R (fB R JQ iL fR R)<|wQ R (AZ (a:=qf n1.Draw) R HM (iR R) R R)<|wQ R (Bk R Eu.slice<|iR R)<|wQ R (A9 R (iR R) iL)<|vQ R (BI R (iR R)<|iR R)<|xO R<|Zh<|C _ _ wk<|J1 _ (AH [(A+1)]) (Zc ax).symm
theorem lG{f1 r}(h:Ny f1=some r):Bb prog 141 1 [qb f1] [] (λrr h'=>∃(i:Nat→Nat),rr=.own 1000 (i 0)∧h'=[(1000,some<|.arr (i 0) 3 1<|r.map<|Ai .i64)]):=by
 unfold Ny at h
 refine EE func141 R R ntmps141 (Zv R) λF=>aU<|mA R<|aZ<|aU<|mA R<|aZ<|aS λK3 c3 J=>aU<|mM R<|xL Ah R<|mM R<|aZ<|Zf<|BH h λo1 C M=>?_
 have J1:∀(j:List Int) (l:NN),o1=j→K3 ⟨[(3,.own 5003<|l 0)],[(5003,some<|.arr (l 0) 3 1<|j.map<|Ai .i64)],(l 1),22⟩:=by
  intro j l e
  have h1:=M _ e
  refine c3 _<|aU<|mM R<|mA R<|aZ ?_
  exact Zj<|CP.mk (s':=⟨[(2,.own 1000<|l 1)],[(1000,some<|.arr (l 1) 3 1<|j.map<|Ai .i64)],((l 1)+1),22⟩) (Zm (Zm (Ae.ren 2 5003 1000 R R R)<|by exact ZE (e':=[(2,.own 1000<|l 1)]) (h':=[(1000,some<|.arr (l 1) 3 1<|j.map<|Ai .i64)]) ⟨jL,Za⟩ ⟨.inl R,Za⟩ nL) wk)<|Cc (λ(r:(List Int)) rr h'=>∃(i:Nat→Nat),rr=.own 1000 (i 0)∧h'=[(1000,some<|.arr (i 0) 3 1<|r.map<|Ai .i64)]) h1<|by exact⟨.own 1000<|l 1,[(1000,some<|.arr (l 1) 3 1<|j.map<|Ai .i64)],R,⟨.inr R,Za⟩,R,R,AH [(l 1)],R,R⟩
 refine Dd (λ(I:Int) (q:List Int) w=>⟨[(3,.own 5003<|w 0),(6,qb f1),(7,rL f1),(8,rI I)],[(5003,some<|.arr (w 0) 3 1<|q.map<|Ai .i64)],(w 1),22⟩) (AH [F,(F+1)]) C (Zm (Zm (IE 3 5003 3 1 (by decide) R)<|by exact ZE (e':=[(0,qb f1),(2,cZ),(3,.own 5003 F),(6,qb f1),(7,rL f1),(8,rI 0)]) (h':=[(5003,some<|.arr F 3 1<|([]:List Int).map<|Ai .i64)]) ⟨jL,jL,jL,jL,jL,jL,Za⟩ ⟨.inl R,Za⟩ nL) wk) ?_
 intro I q w v1 O T
 have h2:HT f1 I q=some v1:=O;unfold HT at h2
 refine aU<|xS R<|aZ<|aT λc7=>cI R h2 (λU=>?_) λU=>?_
 ·refine Zd<|c7 _<|aS λK8 c8 E=>Zf<|BH U λp1 V X=>?_
  have J2:∀(u:List Int) (B:NN),p1=u→K8 ⟨[(3,.own 5003<|B 0),(6,qb f1),(7,rL f1),(8,rI I)],[(5003,some<|.arr (B 0) 3 1<|u.map<|Ai .i64)],(B 1),22⟩:=by
   intro u B e
   have h4:=X _ e
   exact c8 _<|aR<|AG h4 λx4 Y h5=>xA R Y<|mM R<|Zh<|ZI h5 (AH [(B 0),(B 1)]) wk
  refine aU<|AG V λZ a0 h6=>xI Ah R a0<|xB ((A5 Z)) Dc R<|sS R (BF (cs:=Fh) 5 R Ft R R)<|Zk R R (Aj (ds:=(A5 Z)) R EY iL R iL R R R R)<|aZ<|aU<|lF D9 AJ R R<|xU R<|aZ<|cI R h6 (λh7=>?_) λh7=>?_
  ·exact aR<|mM R<|lF D9 AJ R R<|sS R (B3 18 R CN (f:=(Ai .i64)) (l:=([Z.Ref]:List Int)) ⟨R,⟨_,iL,R⟩,Za⟩ R (λ_=>R) R)<|AG h7 λa1 A h8=>sS R (Cj R CN iL R (.inr<|.inl ⟨_,_,iL,R⟩) A)<|mA R<|Zh<|E _ _ wk<|J2 _ (AH [((w 1)+2),((w 1)+3)]) (Zc h8).symm
  exact Zd<|E _ _ wk<|J2 _ (AH [(w 0),((w 1)+1)]) (Zc h7).symm
 exact Zn<|J _ _ wk<|J1 _ (AH [(w 0),(w 1)])<|xH T U
theorem pJ{n1 r}(h:J7 n1=some r):AS prog 86 (NG n1) (.r<|.sl<|r.map<|Ai .i64):=by
 unfold J7 at h
 refine mF func86 ntmps86 R λn0=>aU<|sS R (A2 (cs:=(Bp n1)) 1 R iL R R)<|mA R<|aZ<|aT λc2=>aR<|lF FP B9 R R<|AG h λw1 I h1=>?_
 refine Zo [8] (hc:=[]) (bs:=[qb n1.Flow]) (caps:=[]) R R R R iL R ⟨.inl ⟨iL,R⟩,Za⟩ Za (by decide) (lG I) ?_
 intro i1 n2
 refine A8 [0,1,2,6,7,8] [1,8] ?_
 refine mA R<|aZ<|c2 _<|aS λK3 c3 J=>aU<|sQ R (fB R Ga iL fR R)<|lF F2 FR R R<|xL Cm R<|mM R<|aZ<|Zf<|BH h1 λo1 B M=>?_
 have J1:∀(j:List Int) (E:NN),o1=j→K3 ⟨[(3,.own 8<|E 0)],[(8,some<|.arr (E 0) 3 1<|j.map<|Ai .i64)],(E 1),27⟩:=by
  intro j E e
  have h2:=M _ e
  exact c3 _<|aU<|mM R<|mA R<|aZ<|Zj<|DU (P:=prog) (λ(r:(List Int))=>.r<|.sl<|r.map<|Ai .i64) h2 iL<|.t<|.one<|.own R
 refine Dd (λ(F:Int) (l:List Int) u=>⟨[(3,.own 8<|u 0),(11,qe n1.Grid.Cells),(12,rL n1.Grid.Cells),(13,rI F)],[(8,some<|.arr (u 0) 3 1<|l.map<|Ai .i64)],(u 1),27⟩) (AH [(i1 0),n2]) B wk ?_
 intro F l u v1 O T
 have h3:Hp n1 F l=some v1:=O;unfold Hp at h3
 refine aU<|xS R<|aZ<|aT λc7=>cI R h3 (λU=>?_) λU=>?_
 ·refine Zd<|c7 _<|aS λK8 c8 C=>Zf<|BH U λp1 V X=>?_
  have J2:∀(q:List Int) (A:NN),p1=q→K8 ⟨[(3,.own 8<|A 0),(11,qe n1.Grid.Cells),(12,rL n1.Grid.Cells),(13,rI F)],[(8,some<|.arr (A 0) 3 1<|q.map<|Ai .i64)],(A 1),27⟩:=by
   intro q A e
   have h5:=X _ e
   exact c8 _<|aR<|AG h5 λx4 Y h6=>xA R Y<|mM R<|Zh<|ZI h6 (AH [(A 0),(A 1)]) wk
  refine aU<|AG V λZ a0 h7=>xI Cm R a0<|xB ((B0 Z)) Fc R<|sS R (BF (cs:=MS) 5 R MZ R R)<|Zk R R (Aj (ds:=(B0 Z)) R MO iL R iL R R R R)<|aZ<|aU<|lF Fb AJ R R<|xU R<|aZ<|cI R h7 (λh8=>?_) λh8=>?_
  ·exact aR<|mM R<|lF Fb AJ R R<|sS R (B3 23 R CN (f:=(Ai .i64)) (l:=([Z.Ref]:List Int)) ⟨R,⟨_,iL,R⟩,Za⟩ R (λ_=>R) R)<|AG h8 λa1 w h9=>sS R (Cj R CN iL R (.inr<|.inl ⟨_,_,iL,R⟩) w)<|mA R<|Zh<|C _ _ wk<|J2 _ (AH [((u 1)+2),((u 1)+3)]) (Zc h9).symm
  exact Zd<|C _ _ wk<|J2 _ (AH [(u 0),((u 1)+1)]) (Zc h8).symm
 exact Zn<|J _ _ wk<|J1 _ (AH [(u 0),(u 1)])<|xH T U
theorem dS{n1 i r}(h:Nd n1 i=some r):AS prog 143 [.agg<|Bp n1,rI i] (rI r):=by
 unfold Nd at h
 refine mF func143 ntmps143 R λu=>aU<|sS R (A2 (cs:=(Bp n1)) 2 R iL R R)<|mA R<|aZ<|aT λq=>Zf<|aU<|lF Ei AJ R R<|mM R<|xS R<|mA R<|aZ<|cI R h (λj=>?_) λj=>?_
 ·exact zI j R id
 refine aU<|lF Ei AJ R R<|mM R<|sQ R (A9 R iL iL)<|mA R<|aZ<|cI R j (λl=>?_) λl=>?_
 ·exact zI l R id
 exact Zd<|q _<|zI l R id
theorem je{l a r}(h:R4 l a=some r):AS prog 142 [qg l,rI a,.fn 143 []] (.tup [rI r.1,rB r.2]):=by
 unfold R4 at h
 refine mF func142 ntmps142 R λn0=>aU<|mA R<|mA R<|aZ<|aU<|mM R<|xL DI R<|mA R<|aZ<|aU<|mM R<|mA R<|mA R<|aZ<|aS λK4 c4 A=>Zf<|BH h λo1 q B=>?_
 have J1:∀(i8:Int) (Z:NN),o1=i8→K4 ⟨[(0,qg l),(1,rI a),(2,.fn 143 []),(8,rL l),(9,rI i8)],[],(Z 0),49⟩:=by
  intro i8 Z e
  have h1:=B _ e
  exact c4 _<|aU<|mM R<|mM R<|mM R<|xS R<|mM R<|vM R<|vM R<|vM R<|AG h1 λj C h2=>vQ R (Az R DI.slice (iR R) (iR R) (λ_=>R)<|AU C)<|vQ R (Ci (cs:=(Bp j)) R Gc (iR R) R R)<|vM R<|AG h2 λr1 E h3=>AL.stepW (.one R R R) R R (Dy (r:=rI r1) (caps:=[]) (bs:=[.agg<|Bp j,rI a]) R (iR R) R ⟨⟨_,(iR R),.g (cs:=[.int .i64 j.ID,.int .i64 j.Kind,.sl<|j.Attrs.map AC.row,.sl<|j.Flow.map AD.row,.int .i64 j.Grid.Rows,.int .i64 j.Grid.Cols,.sl<|j.Grid.Cells.map Av.row,.sl<|j.Grid.Merges.map As.row,.sl<|j.Draw.map BQ.row]) R R⟩,⟨_,(iR R),.d R⟩,Za⟩ (λhg=>dS<|AU E hg) R)<|vQ R (Am R (iR R) iL)<|xN R<|mA R<|mA R<|aZ<|Zj<|DH (P:=prog) (λ(r:Int × Bool)=>rI r.1) (λ(r:Int × Bool)=>rB r.2) h3 iL (.t<|.d R)<|.t<|.d R
 refine Dd (λ(F:Int) (I:Int) u=>⟨[(0,qg l),(1,rI a),(2,.fn 143 []),(8,rL l),(9,rI F),(10,rI I)],[],(u 0),49⟩) (AH [n0]) q wk ?_
 intro F I u v1 J M
 have h4:Mp l a F I=some v1:=J;unfold Mp at h4
 refine aT λc6=>aU<|mM R<|mM R<|xS R<|aZ<|cI R h4 (λO=>?_) λO=>?_
 ·refine Zd<|c6 _<|Zf<|aU<|mM R<|mM R<|AG O λx3 T h6=>xA R T<|sQ R (Ea R underlying3 underlying193 iL)<|sQ R (SA (b:=1) R iL iL)<|sQ R (Ea R underlying193 underlying3 iL)<|mA R<|aZ<|aT λc9=>aF [0,1,2,8,9,10,11] ?_
  refine aR<|mM R<|mM R<|mM R<|AG h6 λx4 U h7=>xI DI R U<|xB ((Bp x4)) Gc R<|mM R<|AG h7 λr2 V h8=>cL (dS<|V) R<|xS R<|aZ<|c9 _<|cI R h8 (λX=>?_) λX=>?_
  ·refine aF [0,1,2,8,10,11] ?_
   exact aR<|mM R<|AG X λa0 w Y=>xA R w<|mA R<|Zh<|ZI Y (AH [(u 0)]) wk
  refine aF [0,1,2,8,9,11] ?_
  exact aR<|mM R<|mA R<|Zh<|ZI X (AH [(u 0)]) wk
 exact Zn<|A _ _ wk<|J1 _ (AH [(u 0)])<|xH M O
theorem Y7{d1 i r}(h:MP d1 i=some r):AS prog 87 [.agg [qg d1.Nodes],rI i] (.tup [rI r.1,rB r.2]):=by
 unfold MP at h
 exact mF func87 ntmps87 R λw=>aU<|sS R (A2 (cs:=[qg d1.Nodes]) 2 R iL R R)<|mA R<|mA R<|aZ<|aU<|lF Dq Dt R R<|mM R<|D5 h λl q j u=>sS R (Dy (r:=.tup [rI l,rB q]) (caps:=[]) (bs:=[qg d1.Nodes,rI i,.fn 143 []]) R iL R ⟨⟨_,iL,.d R⟩,⟨_,iL,.d R⟩,⟨_,iL,.one<|.closed (.fn 143 []) R⟩,Za⟩ (λ_=>je<|j) R)<|xX R<|xX R<|mA R<|mA R<|aZ<|Zj<|DH (P:=prog) (λ(r:Int × Bool)=>rI r.1) (λ(r:Int × Bool)=>rB r.2) u iL (.t<|.d R)<|.t<|.d R
theorem pR{j v1 r}(h:Sn j v1=some r):AS prog 208 [.r<|.sl<|j.map<|Ai .i64,rI v1] (rI r):=by
 unfold Sn at h
 refine mF func208 ntmps208 R λX=>aU<|mA R<|aZ<|aS λY Z w=>aU<|mM R<|xL CN R<|mM R<|aZ<|Zf<|BP h λo1 l A B=>?_
 have J1:∀(T:Unit) (U:NN),o1=.nrm T→Y ⟨[],[],(U 0),19⟩:=by
  intro T U e
  have h1:=A _ e
  exact Z _<|zI h1 R id
 refine Zz (λ(C:Int) u=>⟨[(0,.r<|.sl<|j.map<|Ai .i64),(1,rI v1),(7,rL j),(8,rI C)],[],(u 0),19⟩) (AH [X]) l wk ?_
 intro C u v2 E q
 have V:QI j v1 C=some v2:=E;unfold QI at V
 refine aU<|xS R<|aZ<|aT λc6=>cI R V (λF=>?_) λF=>?_
 ·refine Zd<|c6 _<|aT λc7=>Zf<|aU<|mM R<|mA R<|aZ<|aU<|mM R<|mM R<|mM R<|AG F λx4 I h4=>xI CN R I<|xV (.int .i64 x4) AJ R<|xQ R<|aZ<|cI R h4 (λJ=>?_) λJ=>?_
  ·refine aT λM=>aF [5] ?_
   exact aR<|mM R<|mA R<|aZ<|M _<|Zj<|yI (B _<|xH q J) R
  refine Zd<|c7 _<|aF [0,1,7,8] ?_
  exact aR<|AG J λx5 O h6=>xA R O<|mM R<|Zh<|Zx h6 (AH [(u 0)]) wk
 exact Zn<|w _ _ wk<|J1 _ (AH [(u 0)])<|xH q F
theorem pV{l v1 r}(h:Mm l v1=some r):AS prog 179 [.r<|.sl<|l.map<|Ai .i64,rI v1] (rB r):=by
 unfold Mm at h
 exact mF func179 ntmps179 R λu=>aU<|mA R<|aZ<|aU<|mM R<|mM R<|AG h λw j q=>cL (pR<|j) R<|sQ R (C1 R iL iL)<|mA R<|aZ<|Zj<|yB q R
theorem nu{p k r}(h:Qh p k=some r):AS prog 140 [rI p,rI k] (rB r):=by
 unfold Qh at h
 refine mF func140 ntmps140 R λC=>aU<|mA R<|aZ<|aU<|mA R<|aZ<|aS λK3 c3 j=>aU<|mM R<|aZ<|Zf<|BH h λp1 E J=>?_
 have l:∀(M:List Int) (i1:NN),p1=M→K3 ⟨[(1,rI k),(5,.r<|.sl<|M.map<|Ai .i64)],[],(i1 0),29⟩:=by
  intro M i1 e
  have h1:=J _ e
  exact c3 _<|aU<|mM R<|mM R<|AG h1 λr1 O h2=>cL (pV<|O) R<|mA R<|aZ<|Zj<|yB h2 R
 refine aU<|xQ R<|mA R<|aZ<|aC R (λq=>?_) λq=>?_
 ·have T:=CF q E
  refine aR<|sS R (B3 9 R CN (f:=(Ai .i64)) (l:=([1,6,7,10,11,12]:List Int)) ⟨R,⟨_,iL,R⟩,R,⟨_,iL,R⟩,R,⟨_,iL,R⟩,R,⟨_,iL,R⟩,R,⟨_,iL,R⟩,R,⟨_,iL,R⟩,Za⟩ R (λ_=>R) R)<|mA R<|Zh ?_
  exact j _ _ (Zm (by exact Ae.frz (e':=[(0,rI p),(1,rI k),(4,rB false),(5,.r<|.sl<|[1,6,7,10,11,12].map<|Ai .i64),(6,rI p),(7,rB<|(decide<|p=0)),(8,rB<|(decide<|p=0)),(9,.r<|.sl<|[1,6,7,10,11,12].map<|Ai .i64)]) (h':=[]) 9 R ⟨jL,jL,jL,.inl<|.inr<|.inr ⟨R,R⟩,jL,jL,jL,.inl<|.inr<|.inr ⟨R,R⟩,Za⟩ Za) wk)<|l _ (AH [(C+1)]) (Zc T).symm
 ·have T:=CA q E
  refine aU<|xQ R<|mA R<|aZ<|cI R T (λU=>?_) λU=>?_
  ·refine aR<|sS R (B3 12 R CN (f:=(Ai .i64)) (l:=([2,4,5,10]:List Int)) ⟨R,⟨_,iL,R⟩,R,⟨_,iL,R⟩,R,⟨_,iL,R⟩,R,⟨_,iL,R⟩,Za⟩ R (λ_=>R) R)<|mA R<|Zh ?_
   exact j _ _ (Zm (by exact Ae.frz (e':=[(0,rI p),(1,rI k),(4,rB false),(5,.r<|.sl<|[2,4,5,10].map<|Ai .i64),(6,rI p),(7,rB<|(decide<|p=0)),(8,rB<|(decide<|p=0)),(10,rB<|(decide<|p=1)),(11,rB<|(decide<|p=1)),(12,.r<|.sl<|[2,4,5,10].map<|Ai .i64)]) (h':=[]) 12 R ⟨jL,jL,jL,.inl<|.inr<|.inr ⟨R,R⟩,jL,jL,jL,jL,jL,.inl<|.inr<|.inr ⟨R,R⟩,Za⟩ Za) wk)<|l _ (AH [(C+1)]) (Zc U).symm
  refine aU<|xQ R<|mA R<|aZ<|cI R U (λV=>?_) λV=>?_
  ·refine aF [1] ?_
   refine aR<|sS R (B3 15 R CN (f:=(Ai .i64)) (l:=([4,5,10]:List Int)) ⟨R,⟨_,iL,R⟩,R,⟨_,iL,R⟩,R,⟨_,iL,R⟩,Za⟩ R (λ_=>R) R)<|mA R<|Zh ?_
   exact j _ _ (Zm (by exact Ae.frz (e':=[(1,rI k),(5,.r<|.sl<|[4,5,10].map<|Ai .i64),(15,.r<|.sl<|[4,5,10].map<|Ai .i64)]) (h':=[]) 15 R ⟨jL,.inl<|.inr<|.inr ⟨R,R⟩,.inl<|.inr<|.inr ⟨R,R⟩,Za⟩ Za) wk)<|l _ (AH [(C+1)]) (Zc V).symm
  refine aS λK9 c9 F=>aU<|xQ R<|mA R<|aZ<|BH V λp2 I X=>?_
  have J2:∀(A:Bool) (B:NN),p2=A→K9 ⟨[(1,rI k),(5,cZ),(6,rI p),(16,rB A)],[],(B 0),29⟩:=by
   intro A B e
   have h6:=X _ e
   refine c9 _<|cI R h6 (λY=>?_) λY=>?_
   ·refine aR<|sS R (B3 19 R CN (f:=(Ai .i64)) (l:=([5]:List Int)) ⟨R,⟨_,iL,R⟩,Za⟩ R (λ_=>R) R)<|mA R<|Zh ?_
    exact j _ _ (Zm (by exact Ae.frz (e':=[(1,rI k),(5,.r<|.sl<|[5].map<|Ai .i64),(6,rI p),(16,rB A),(19,.r<|.sl<|[5].map<|Ai .i64)]) (h':=[]) 19 R ⟨jL,.inl<|.inr<|.inr ⟨R,R⟩,jL,jL,.inl<|.inr<|.inr ⟨R,R⟩,Za⟩ Za) wk)<|l _ (AH [((B 0)+1)]) (Zc Y).symm
   refine aU<|xQ R<|mA R<|aZ<|cI R Y (λZ=>?_) λZ=>?_
   ·refine aR<|sS R (B3 22 R CN (f:=(Ai .i64)) (l:=([3]:List Int)) ⟨R,⟨_,iL,R⟩,Za⟩ R (λ_=>R) R)<|mA R<|Zh ?_
    exact j _ _ (Zm (by exact Ae.frz (e':=[(1,rI k),(5,.r<|.sl<|[3].map<|Ai .i64),(6,rI p),(16,rB A),(20,rB<|(decide<|p=2)),(21,rB<|(decide<|p=2)),(22,.r<|.sl<|[3].map<|Ai .i64)]) (h':=[]) 22 R ⟨jL,.inl<|.inr<|.inr ⟨R,R⟩,jL,jL,jL,jL,.inl<|.inr<|.inr ⟨R,R⟩,Za⟩ Za) wk)<|l _ (AH [((B 0)+1)]) (Zc Z).symm
   refine aU<|xQ R<|mA R<|aZ<|cI R Z (λh9=>?_) λh9=>?_
   ·refine aR<|sS R (B3 25 R CN (f:=(Ai .i64)) (l:=([8,9]:List Int)) ⟨R,⟨_,iL,R⟩,R,⟨_,iL,R⟩,Za⟩ R (λ_=>R) R)<|mA R<|Zh ?_
    exact j _ _ (Zm (by exact Ae.frz (e':=[(1,rI k),(5,.r<|.sl<|[8,9].map<|Ai .i64),(6,rI p),(16,rB A),(20,rB<|(decide<|p=2)),(21,rB<|(decide<|p=2)),(23,rB<|(decide<|p=7)),(24,rB<|(decide<|p=7)),(25,.r<|.sl<|[8,9].map<|Ai .i64)]) (h':=[]) 25 R ⟨jL,.inl<|.inr<|.inr ⟨R,R⟩,jL,jL,jL,jL,jL,jL,.inl<|.inr<|.inr ⟨R,R⟩,Za⟩ Za) wk)<|l _ (AH [((B 0)+1)]) (Zc h9).symm
   refine Zd ?_
   exact j _ _ ((by exact ZE ⟨jL,.inl<|.inr<|.inr ⟨R,R⟩,Za⟩ Za nL))<|l _ (AH [(B 0)]) (Zc h9).symm
  refine aC R (λu=>?_) λu=>?_
  ·have w:=CF u I
   exact Zd<|F _ _ wk<|J2 _ (AH [C]) (Zc w).symm
  ·have w:=CA u I
   refine aF [1,5,6] ?_
   exact aR<|xQ R<|mA R<|Zh<|F _ _ wk<|J2 _ (AH [C]) (Zc w).symm
theorem mv{d1 k a r}(h:Qd d1 k a=some r):AS prog 85 [.agg [qg d1.Nodes],rI k,.r<|.sl<|a.map<|Ai .i64] (rI r):=by
 unfold Qd at h
 refine mF func85 ntmps85 R λw=>aU<|sS R (A2 (cs:=[qg d1.Nodes]) 3 R iL R R)<|mA R<|aZ<|aS λK2 c2 A=>aU<|mM R<|xL CN R<|mM R<|aZ<|Zf<|BP h λo1 l B q=>?_
 have J1:∀(u2:Unit) (i5:NN),o1=.nrm u2→K2 ⟨[],[],(i5 0),35⟩:=by
  intro u2 i5 e
  have h1:=B _ e
  exact c2 _<|zI h1 R id
 refine Zz (λ(C:Int) u=>⟨[(1,rI k),(3,.ptr 3 w 0 0),(11,.r<|.sl<|a.map<|Ai .i64),(12,rL a),(13,rI C)],[(3,some<|.box w 24 [qg d1.Nodes])],(u 0),35⟩) (AH [(w+1)]) l wk ?_
 intro C u v1 E j
 have h2:Ls d1 k a C=some v1:=E;unfold Ls at h2
 refine aU<|xS R<|aZ<|aT λc6=>cI R h2 (λF=>?_) λF=>?_
 ·refine Zd<|c6 _<|aT λc7=>Zf<|aU<|AG F λx4 I h4=>xI CN R I<|xV (.int .i64 x4) AJ R<|mA R<|aZ<|aU<|xC E5 R<|mM R<|D5 h4 λr1 r2 J h5=>cL (Y7<|J) R<|mM R<|xX R<|xX R<|mA R<|mA R<|aZ<|aT λM=>aT λO=>aG [1,3,9,10,11,12,13] [3] ?_
  refine aR<|mM R<|sQ R (A3 R iL)<|aZ<|O _<|cI R h5 (λT=>?_) λT=>?_
  ·exact zI (q _<|xH j T) R id
  refine Zd<|M _<|aU<|mM R<|lF Dq Dt R R<|mM R<|AG T λx5 U h7=>xI DI R U<|sQ R (A4 R Cy iL)<|xV (.int .i64 x5.Kind) AJ R<|AG h7 λr3 V h8=>cL (nu<|V) R<|sQ R (A3 R iL)<|aZ<|cI R h8 (λX=>?_) λX=>?_
  ·exact zI (q _<|xH j X) R id
  refine Zd<|c7 _<|aG [1,3,11,12,13] [3] ?_
  exact aR<|AG X λx6 Y Z=>xA R Y<|mM R<|Zh<|Zx Z (AH [(u 0)]) wk
 exact Zn<|A _ _ wk<|J1 _ (AH [(u 0)])<|xH j F
theorem iU{d1 r}(h:Jb d1=some r):AS prog 42 [.agg [qg d1.Nodes]] (rI r):=by
 unfold Jb at h
 refine mF func42 ntmps42 R λl=>aU<|sS R (A2 (cs:=[qg d1.Nodes]) 1 R iL R R)<|mA R<|aZ<|aT λc2=>aU<|lF Dq Dt R R<|xL DI R<|xQ R<|aZ<|cI R h (λX=>?_) λX=>?_
 ·exact zI X R id
 refine Zd<|c2 _<|aS λK5 c5 Y=>aU<|lF Dq Dt R R<|xL DI R<|mM R<|aZ<|Zf<|BP X λo1 B Z C=>?_
 have J1:∀(u2:Unit) (i5:NN),o1=.nrm u2→K5 ⟨[(1,.ptr 1 l 0 0)],[(1,some<|.box l 24 [qg d1.Nodes])],(i5 0),67⟩:=by
  intro u2 i5 e
  have h2:=Z _ e
  refine c5 _<|aS λK7 c7 a0=>aU<|lF Dq Dt R R<|xL DI R<|mM R<|aZ<|Zf<|BP h2 λo2 E a1 a2=>?_
  have J2:∀(u4:Unit) (F:NN),o2=.nrm u4→K7 ⟨[],[],(F 0),67⟩:=by
   intro u4 F e
   have h3:=a1 _ e
   exact c7 _<|zI h3 R id
  refine Zz (λ(x5:Int) i8=>⟨[(1,.ptr 1 l 0 0),(51,qg d1.Nodes),(52,rL d1.Nodes),(53,rI x5)],[(1,some<|.box l 24 [qg d1.Nodes])],(i8 0),67⟩) (AH [(i5 0)]) E wk ?_
  intro x5 i8 v1 a6 I
  have h4:LR d1 x5=some v1:=a6;unfold LR at h4
  refine aU<|xS R<|aZ<|aT λa7=>cI R h4 (λh5=>?_) λh5=>?_
  ·refine Zd<|a7 _<|aT λa8=>Zf<|aU<|AG h5 λj aa h6=>xI DI R aa<|xB ((Bp j)) Gc R<|sS R (BF (cs:=KO) 7 R UY R R)<|Zk R R (Aj (ds:=(Bp j)) R WO iL R iL R R R R)<|aZ<|aT λab=>AG h6 λr1 ac h7=>?_
   refine rP 5 [pO 57<|.agg [qg d1.Nodes],pO 58<|.ptr 7 (i8 0) 0 1,pO 59<|rI j.Kind,pO 60<|.agg<|Bp j,pO 61<|.r<|.sl<|r1.map<|Ai .i64] BA R (by exact⟨oB [(1,.ptr 1 l 0 0)] [(1,some<|.box l 24 [qg d1.Nodes])]<|FT R E5 (.inl R) R R,oB [(7,.ptr 7 (i8 0) 0 0)] [(7,some<|.box (i8 0) 46<|Bp j)]<|fB R Cy (.inl R) (λ_=>R) R,oB [(58,.ptr 7 (i8 0) 0 1)] [(7,some<|.box (i8 0) 46<|Bp j)]<|AZ (a:=rI j.Kind) R AJ (.inl R) R R,oB [(7,.ptr 7 (i8 0) 0 0)] [(7,some<|.box (i8 0) 46<|Bp j)]<|FT R Gc (.inl R) R R,oD (λ_=>[(60,.agg<|Bp j)]) (λ_=>[]) λG1 e h' n=>C0 (r:=.r<|.sl<|r1.map<|Ai .i64) (caps:=[]) (bs:=(NG j)) R (.inl R) R ⟨.inl ⟨(.inl R),R⟩,Za⟩ λ_=>pJ<|ac,Za⟩) λG1 n1=>?_
   refine A8 [1,7,51,52,53,54,55,56,57,58,59,60,61] [1,7] ?_
   refine AG h7 λe1 ad h8=>cL (mv<|ad) R<|mA R<|aZ<|ab _<|aT λae=>aG [1,8,51,52,53] [1] ?_
   refine aR<|mM R<|xU R<|aZ<|ae _<|cI R h8 (λh9=>?_) λh9=>?_
   ·exact aU<|mM R<|mA R<|aZ<|Zj<|yI (a2 _<|xH I h9) R
   exact Zd<|a8 _<|aR<|AG h9 λx8 af ag=>xA R af<|mM R<|Zh<|Zx ag (AH [n1]) wk
  exact Zn<|a0 _ _ wk<|J2 _ (AH [(i8 0)])<|xH I h5
 refine Zz (λ(x2:Int) U=>⟨[(1,.ptr 1 l 0 0),(14,qg d1.Nodes),(15,rL d1.Nodes),(16,rI x2)],[(1,some<|.box l 24 [qg d1.Nodes])],(U 0),67⟩) (AH [(l+1)]) B wk ?_
 intro x2 U v2 ah q
 have J:IY d1 x2=some v2:=ah;unfold IY at J
 refine aU<|xS R<|aZ<|aT λai=>cI R J (λu=>?_) λu=>?_
 ·refine Zd<|ai _<|aT λaj=>Zf<|aU<|mM R<|AG u λV ak al=>xI DI R ak<|xB ((Bp V)) Gc R<|sS R (BF (cs:=KO) 4 R UY R R)<|mA R<|Zk R R (Aj (ds:=(Bp V)) R WO iL R iL R R R R)<|aZ<|aT λan=>aU<|xC Gc R<|AG al λe2 ao aq=>cL (qY<|ao) R<|mA R<|aZ<|aU<|mM R<|xU R<|aZ<|cI R aq (λw=>?_) λw=>?_
  ·refine aT λar=>aF [5] ?_
   exact aR<|mM R<|mA R<|aZ<|ar _<|Zj<|yI (C _<|xH q w) R
  refine Zd<|an _<|aT λav=>aG [1,3,4,14,15,16] [1,4] ?_
  refine ZA BA (by kernel_rfl) ?_
  refine qP R (AK R iL)<|qP R (Am R iL iL)<|qP R (AK R iL)<|qO R (fB R Ei iL fR R)<|qO R (AZ (a:=rI V.ID) R AJ (iR R) R R)<|qO R (Ct R (iR R) iL)<|qP R (BI R iL<|iR R)<|qP R (AK R iL)<|qO R (AK R iL)<|qO R (A9 R (iR R) iL)<|qO R (AK R<|iR R)<|qT R (fB R Ei iL fR R)<|qT R (AZ (a:=rI V.ID) R AJ (iR R) R R)<|qT R (fB R Dq iL fR R)<|qT R (AZ (a:=qg d1.Nodes) R Dt (iR R) R R)<|qT R (AK R iL)<|AG w λb0 M aw=>qT R (CG R (iR R) iL<|AU M)<|AG aw λax O ay=>qT R (Az R DI.slice (iR R) (iR R) (λ_=>R)<|AU O)<|qT R (A4 R Ei<|iR R)<|qT R (Bc (d:=.int .i64 ax.ID) R AJ (iR R) R)<|qT R (FG R (iR R)<|iR R)<|qO R (BI R (iR R)<|iR R)<|qP R (CW R iL<|iR R)<|AQ.nil<|av _<|cI R ay (λA=>?_) λA=>?_
  ·exact zI (C _<|xH q A) R id
  exact Zd<|aj _<|aR<|AG A λb1 T az=>xA R T<|mM R<|Zh<|Zx az (AH [((U 0)+1)]) wk
 exact Zn<|Y _ _ wk<|J1 _ (AH [(U 0)])<|xH q u
theorem pt{d1 i r}(h:Pz d1 i=some r):AS prog 43 [.agg [qg d1.Nodes],rI i] (rI r):=by
 unfold Pz at h
 refine mF func43 ntmps43 R λA=>aU<|sS R (A2 (cs:=[qg d1.Nodes]) 2 R iL R R)<|mA R<|aZ<|aT λq=>aU<|xC E5 R<|mM R<|D5 h λB C j u=>cL (Y7<|j) R<|mM R<|xX R<|xX R<|mA R<|mA R<|aZ<|aT λw=>aF [5,6] ?_
 refine aR<|mM R<|aZ<|w _<|cI R u (λl=>?_) λl=>?_
 ·exact aU<|mM R<|mA R<|aZ<|Zj<|yI l R
 exact Zd<|q _<|zI l R id
theorem Sk{j n r}(h:It j n=some r):AS prog 74 [qa j,rS n] (rS r):=by
 unfold It at h
 refine mF func74 ntmps74 R λY=>aU<|mA R<|aZ<|aS λZ c2 w=>aU<|mM R<|xL Ac R<|mM R<|aZ<|Zf<|BP h λo1 l A B=>?_
 have J1:∀(T:Unit) (U:NN),o1=.nrm T→Z ⟨[],[],(U 0),20⟩:=by
  intro T U e
  have h1:=A _ e
  exact c2 _<|aU<|mA R<|aZ<|Zj<|DU (P:=prog) (λ(r:(List UInt8))=>rS r) h1 iL<|.t<|.d R
 refine Zz (λ(C:Int) u=>⟨[(1,rS n),(7,qa j),(8,rL j),(9,rI C)],[],(u 0),20⟩) (AH [Y]) l wk ?_
 intro C u v1 E q
 have V:OZ j n C=some v1:=E;unfold OZ at V
 refine aU<|xS R<|aZ<|aT λc6=>cI R V (λF=>?_) λF=>?_
 ·refine Zd<|c6 _<|aT λc7=>Zf<|aU<|AG F λX I h4=>xI Ac R I<|xB ((BO X)) CV R<|sS R (BF (cs:=[.r<|.str [],.r<|.str []]) 6 R Sv R R)<|Zk R R (Aj (ds:=(BO X)) R Lt iL R iL R R R R)<|aZ<|aU<|lF B1 A6 R R<|mM R<|sQ R (Cz R iL iL)<|aZ<|cI R h4 (λJ=>?_) λJ=>?_
  ·refine aT λM=>aG [6] [6] ?_
   exact aR<|lF Jo A6 R R<|mA R<|aZ<|M _<|Zj<|DU (P:=prog) (λ(r:(List UInt8))=>rS r) (B _<|xH q J) iL<|.t<|.d R
  exact Zd<|c7 _<|aR<|AG J λx5 O h6=>xA R O<|mM R<|Zh<|Zx h6 (AH [((u 0)+1)]) wk
 exact Zn<|w _ _ wk<|J1 _ (AH [(u 0)])<|xH q F
theorem pS{j m r}(h:Ou j m=some r):AS prog 88 [.agg<|A5 j,rI m] (rB r):=by
 unfold Ou at h
 exact mF func88 ntmps88 R λF=>aU<|sS R (A2 (cs:=(A5 j)) 2 R iL R R)<|mA R<|aZ<|aU<|lF DA BD R R<|AG h λI l w=>cL (Sk<|l) R<|sQ R (Cz R iL iL)<|mM R<|vM R<|vQ R (Am R (iR R) iL)<|vQ R (AK R<|iR R)<|wQ R (fB R DA iL fR R)<|wQ R (AZ (a:=qa j.Attrs) R BD (iR R) R R)<|AG w λA q B=>AL.stepW (.two R R R) R R (Dy (r:=rS A) (caps:=[]) (bs:=[qa j.Attrs,.r<|.str [99,117,116]]) R iL R ⟨⟨_,(iR R),.d R⟩,⟨_,iL,.d R⟩,Za⟩ (λhg=>Sk<|AU q hg) R)<|wQ R (DJ R (iR R) iL)<|vQ R (BI R (iR R)<|iR R)<|xO R<|mM R<|vM R<|vQ R (Am R (iR R) iL)<|vQ R (AK R<|iR R)<|wQ R (fB R DA iL fR R)<|wQ R (AZ (a:=qa j.Attrs) R BD (iR R) R R)<|AG B λC u E=>AL.stepW (.two R R R) R R (Dy (r:=rS C) (caps:=[]) (bs:=[qa j.Attrs,.r<|.str [97,100,100]]) R iL R ⟨⟨_,(iR R),.d R⟩,⟨_,iL,.d R⟩,Za⟩ (λhg=>Sk<|AU u hg) R)<|wQ R (DJ R (iR R) iL)<|vQ R (BI R (iR R)<|iR R)<|xO R<|mA R<|aZ<|Zj<|yB E R
theorem ts{f1 m r}(h:Po f1 m=some r):AS prog 45 [qb f1,rI m] (.r<|.sl<|r.map<|Ai .i64):=by
 unfold Po at h
 refine mF func45 ntmps45 R λF=>aU<|mA R<|aZ<|aU<|mA R<|aZ<|aS λK3 c3 J=>aU<|mM R<|xL Ah R<|mM R<|aZ<|Zf<|BH h λo1 B M=>?_
 have J1:∀(j:List Int) (I:NN),o1=j→K3 ⟨[(5,.own 5005<|I 0)],[(5005,some<|.arr (I 0) 3 1<|j.map<|Ai .i64)],(I 1),37⟩:=by
  intro j I e
  have h1:=M _ e
  exact c3 _<|aU<|mM R<|mA R<|aZ<|Zj<|DU (P:=prog) (λ(r:(List Int))=>.r<|.sl<|r.map<|Ai .i64) h1 iL<|.t<|.one<|.own R
 refine Dd (λ(C:Int) (l:List Int) u=>⟨[(0,qb f1),(1,rI m),(5,.own 5005<|u 0),(8,qb f1),(9,rL f1),(10,rI C)],[(5005,some<|.arr (u 0) 3 1<|l.map<|Ai .i64)],(u 1),37⟩) (AH [F,(F+1)]) B (Zm (Zm (IE 5 5005 3 1 (by decide) R)<|by exact ZE (e':=[(0,qb f1),(1,rI m),(4,cZ),(5,.own 5005 F),(8,qb f1),(9,rL f1),(10,rI 0)]) (h':=[(5005,some<|.arr F 3 1<|([]:List Int).map<|Ai .i64)]) ⟨jL,jL,jL,jL,jL,jL,jL,Za⟩ ⟨.inl R,Za⟩ nL) wk) ?_
 intro C l u v1 O T
 have h2:Mk f1 m C l=some v1:=O;unfold Mk at h2
 refine aU<|xS R<|aZ<|aT λc7=>cI R h2 (λU=>?_) λU=>?_
 ·refine Zd<|c7 _<|aS λK8 c8 E=>Zf<|BH U λp1 V X=>?_
  have J2:∀(q:List Int) (A:NN),p1=q→K8 ⟨[(0,qb f1),(1,rI m),(5,.own 5005<|A 0),(8,qb f1),(9,rL f1),(10,rI C)],[(5005,some<|.arr (A 0) 3 1<|q.map<|Ai .i64)],(A 1),37⟩:=by
   intro q A e
   have h4:=X _ e
   exact c8 _<|aR<|AG h4 λx4 Y h5=>xA R Y<|mM R<|Zh<|ZI h5 (AH [(A 0),(A 1)]) wk
  refine aU<|mM R<|AG V λZ a0 h6=>xI Ah R a0<|xB ((A5 Z)) Dc R<|sS R (BF (cs:=Fh) 7 R Ft R R)<|mA R<|Zk R R (Aj (ds:=(A5 Z)) R EY iL R iL R R R R)<|aZ<|aU<|xC Dc R<|mM R<|AG h6 λr1 a1 h7=>cL (pS<|a1) R<|sQ R (A3 R iL)<|mM R<|vM R<|vM R<|vQ R (Bk R Ah.slice<|iR R)<|AG h7 λx6 a2 h8=>vQ R (CG R (iR R) iL<|AU a2)<|vQ R (Am R (iR R)<|iR R)<|vQ R (AK R<|iR R)<|wQ R (fB R Ek iL fR R)<|wQ R (AZ (a:=rI Z.Char) R AJ (iR R) R R)<|wQ R (Am R (iR R) iL)<|vQ R (BI R (iR R)<|iR R)<|xO R<|aZ<|cI R h8 (λh9=>?_) λh9=>?_
  ·refine aG [0,1,5,6,8,9,10] [5005] ?_
   exact aR<|mM R<|mM R<|sS R (B3 33 R CN (f:=(Ai .i64)) (l:=([C]:List Int)) ⟨R,⟨_,iL,R⟩,Za⟩ R (λ_=>R) R)<|AG h9 λa7 w a6=>sS R (Cj R CN iL R (.inr<|.inl ⟨_,_,iL,R⟩) w)<|mA R<|Zh<|E _ _ wk<|J2 _ (AH [((u 1)+2),((u 1)+3)]) (Zc a6).symm
  exact Zd<|E _ _ wk<|J2 _ (AH [(u 0),((u 1)+1)]) (Zc h9).symm
 exact Zn<|J _ _ wk<|J1 _ (AH [(u 0),(u 1)])<|xH T U
theorem si{d1 u b r}(h:NL d1 u b=some r):AS prog 17 [.agg [qg d1.Nodes],.agg<|A0 u,rS b] (.tup [.agg<|DK r.1,rI r.2]):=by
 unfold NL at h
 refine mF func17 ntmps17 R λn0=>aU<|sS R (A2 (cs:=[qg d1.Nodes]) 3 R iL R R)<|sS R (A2 (cs:=(A0 u)) 4 R iL R R)<|sS R (BF (cs:=F5) 6 R VT R R)<|mA R<|aZ<|aT λc2=>aU<|xC E5 R<|AG h λe1 w h1=>cL (iU<|w) R<|mA R<|aZ<|aU<|mM R<|xU R<|aZ<|cI R h1 (λA=>?_) λA=>?_
 ·refine aT λc5=>aG [6,8] [6] ?_
  refine aR ?_
  refine sQ R (Bt R Md (q:=[]) (by exact Za) (cs:=F5)<|by rfl) ?_
  refine mM R<|Zk R R (Aj (ds:=F5) R JL iL R iL R R R R)<|mA R<|oZ c5 ?_
  exact Zj<|DH (P:=prog) (λ(r:Cu × Int)=>.agg<|DK r.1) (λ(r:Cu × Int)=>rI r.2) A iL (.a LM R R R<|.agg<|by exact⟨.closed _ R,.closed _ R,.nil,.nil,.closed _ R,.closed _ R,.nil,.nil,.nil,.nil,.closed _ R,Za⟩)<|.t<|.d R
 refine Zd<|c2 _<|aU<|xC E5 R<|lF Ni AJ R R<|AG A λi1 B h3=>cL (pt<|B) R<|mA R<|aZ<|aT λc7=>aT λc8=>aG [2,3,4,6,9] [3,4,6] ?_
 refine aR<|mM R<|xS R<|aZ<|c8 _<|cI R h3 (λC=>?_) λC=>?_
 ·refine aT λc9=>aR ?_
  refine sQ R (Bt R Md (q:=[]) (by exact Za) (cs:=F5)<|by rfl) ?_
  refine Zk R R (Aj (ds:=F5) R JL iL R iL R R R R)<|mA R<|oZ c9 ?_
  exact Zj<|DH (P:=prog) (λ(r:Cu × Int)=>.agg<|DK r.1) (λ(r:Cu × Int)=>rI r.2) C iL (.a LM R R R<|.agg<|by exact⟨.closed _ R,.closed _ R,.nil,.nil,.closed _ R,.closed _ R,.nil,.nil,.nil,.nil,.closed _ R,Za⟩)<|.t<|.d R
 refine Zd<|c7 _<|aT λE=>aR<|lF Dq Dt R R<|mM R<|AG C λj F h5=>xI DI R F<|xB ((Bp j)) Gc R<|mM R ?_
 refine sQ R (Bt R Md (q:=[(0,_),(10,_)]) (by exact⟨R,R,R,iL,R,R,R,iL,Za⟩) (cs:=[rI j.ID,rI j.Kind,qa j.Attrs,qb j.Flow,rI j.Grid.Rows,rI j.Grid.Cols,qe j.Grid.Cells,qd j.Grid.Merges,qf j.Draw,cZ,rS b])<|by rfl) ?_
 refine sS R (BF (cs:=F5) 10 R VT R R)<|Zk R R (Aj (ds:=[rI j.ID,rI j.Kind,qa j.Attrs,qb j.Flow,rI j.Grid.Rows,rI j.Grid.Cols,qe j.Grid.Cells,qd j.Grid.Merges,qf j.Draw,cZ,rS b]) R JL iL R iL R R R R)<|aZ<|E _<|aT λI=>aT λJ=>aG [2,4,6,10] [4,6,10] ?_
 refine aR<|sQ R (fB R XN iL fR R)<|lF Cy AJ R R<|AG h5 λr1 M h6=>cL (Wo<|M) R<|sQ R (A3 R iL)<|aZ<|J _<|cI R h6 (λO=>?_) λO=>?_
 ·refine aT λT=>aR ?_
  refine sQ R (Bt R Md (q:=[]) (by exact Za) (cs:=F5)<|by rfl) ?_
  refine Zk R R (Aj (ds:=F5) R JL iL R iL R R R R)<|mA R<|oZ T ?_
  exact Zj<|DH (P:=prog) (λ(r:Cu × Int)=>.agg<|DK r.1) (λ(r:Cu × Int)=>rI r.2) O iL (.a LM R R R<|.agg<|by exact⟨.closed _ R,.closed _ R,.nil,.nil,.closed _ R,.closed _ R,.nil,.nil,.nil,.nil,.closed _ R,Za⟩)<|.t<|.d R
 refine Zd<|I _<|aU<|sQ R (fB R XN iL fR R)<|lF FP B9 R R<|AG O λq U h8=>sS R (C0 (r:=.r<|.sl<|q.map<|Ai .i64) (caps:=[]) (bs:=[qb j.Flow,rI 0]) R iL R ⟨.inl ⟨iL,R⟩,.inl ⟨iL,R⟩,Za⟩ λ_=>ts<|U)<|sQ R (fB R Ra iL fR R)<|Zk R R (Aj (ds:=[rI j.ID,rI j.Kind,qa j.Attrs,qb j.Flow,rI j.Grid.Rows,rI j.Grid.Cols,qe j.Grid.Cells,qd j.Grid.Merges,qf j.Draw,.r<|.sl<|q.map<|Ai .i64,rS b]) R nf iL R iL R R R R)<|aZ<|aT λV=>aT λX=>aG [2,4,6,10] [4,6,10] ?_
 refine aR<|lF Gl AJ R R<|xS R<|mM R<|vF Kn AJ R R<|vF Gl AJ R R<|vQ R (B5 R (iR R)<|iR R)<|xO R<|mM R<|vF Kn AJ R R<|vF Ra Uj R R<|vQ R (Bk R CN.slice<|iR R)<|vQ R (C1 R (iR R)<|iR R)<|xO R<|aZ<|X _<|cI R h8 (λY=>?_) λY=>?_
 ·refine aT λZ=>aG [6] [6] ?_
  refine aR ?_
  refine sQ R (Bt R Md (q:=[]) (by exact Za) (cs:=F5)<|by rfl) ?_
  refine Zk R R (Aj (ds:=F5) R JL iL R iL R R R R)<|mA R<|oZ Z ?_
  exact Zj<|DH (P:=prog) (λ(r:Cu × Int)=>.agg<|DK r.1) (λ(r:Cu × Int)=>rI r.2) Y iL (.a LM R R R<|.agg<|by exact⟨.closed _ R,.closed _ R,.nil,.nil,.closed _ R,.closed _ R,.nil,.nil,.nil,.nil,.closed _ R,Za⟩)<|.t<|.d R
 refine Zd<|V _<|aT λa0=>aT λa1=>aG [2,6,10] [6,10] ?_
 refine aR<|mM R<|sQ R (DJ R iL iL)<|mM R<|vM R<|AG Y λr3 a2 a6=>vL (λhg=>XI<|AU a2 hg) R<|vQ R (A3 R<|iR R)<|xN R<|aZ<|a1 _<|cI R a6 (λl=>?_) λl=>?_
 ·refine aT λa7=>aG [6] [6] ?_
  refine aR ?_
  refine sQ R (Bt R Md (q:=[]) (by exact Za) (cs:=F5)<|by rfl) ?_
  refine Zk R R (Aj (ds:=F5) R JL iL R iL R R R R)<|mA R<|oZ a7 ?_
  exact Zj<|DH (P:=prog) (λ(r:Cu × Int)=>.agg<|DK r.1) (λ(r:Cu × Int)=>rI r.2) l iL (.a LM R R R<|.agg<|by exact⟨.closed _ R,.closed _ R,.nil,.nil,.closed _ R,.closed _ R,.nil,.nil,.nil,.nil,.closed _ R,Za⟩)<|.t<|.d R
 exact Zd<|a0 _<|aU<|xC LM R<|Zk R R (Aj (ds:=[rI j.ID,rI j.Kind,qa j.Attrs,qb j.Flow,rI j.Grid.Rows,rI j.Grid.Cols,qe j.Grid.Cells,qd j.Grid.Merges,qf j.Draw,.r<|.sl<|q.map<|Ai .i64,rS b]) R JL iL R iL R R R R)<|mA R<|aZ<|Zj<|DH (P:=prog) (λ(r:Cu × Int)=>.agg<|DK r.1) (λ(r:Cu × Int)=>rI r.2) l iL (.a LM R R R<|.g (cs:=[.int .i64 j.ID,.int .i64 j.Kind,.sl<|j.Attrs.map AC.row,.sl<|j.Flow.map AD.row,.int .i64 j.Grid.Rows,.int .i64 j.Grid.Cols,.sl<|j.Grid.Cells.map Av.row,.sl<|j.Grid.Merges.map As.row,.sl<|j.Draw.map BQ.row,.sl<|q.map<|Ai .i64,.str b]) R R)<|.t<|.d R
theorem en{f1 r}(h:MI f1=some r):AS prog 18 [qb f1] (rI r):=by
 unfold MI at h
 refine mF func18 ntmps18 R λY=>aU<|mA R<|aZ<|aS λZ c2 u=>aU<|mM R<|xL Ah R<|mM R<|aZ<|Zf<|BP h λo1 j w A=>?_
 have J1:∀(T:Unit) (U:NN),o1=.nrm T→Z ⟨[],[],(U 0),18⟩:=by
  intro T U e
  have h1:=w _ e
  exact c2 _<|zI h1 R id
 refine Zz (λ(B:Int) q=>⟨[(6,qb f1),(7,rL f1),(8,rI B)],[],(q 0),18⟩) (AH [Y]) j wk ?_
 intro B q v1 C l
 have V:QE f1 B=some v1:=C;unfold QE at V
 refine aU<|xS R<|aZ<|aT λc6=>cI R V (λE=>?_) λE=>?_
 ·refine Zd<|c6 _<|aT λc7=>Zf<|aU<|AG E λX F h4=>xI Ah R F<|xB ((A5 X)) Dc R<|sS R (BF (cs:=Fh) 4 R Ft R R)<|Zk R R (Aj (ds:=(A5 X)) R EY iL R iL R R R R)<|aZ<|aU<|xC Dc R<|AG h4 λe1 I h5=>cL (fC<|I) R<|mA R<|aZ<|aU<|mM R<|xU R<|aZ<|cI R h5 (λJ=>?_) λJ=>?_
  ·refine aT λM=>aF [5] ?_
   exact aR<|mM R<|mA R<|aZ<|M _<|Zj<|yI (A _<|xH l J) R
  refine Zd<|c7 _<|aF [6,7,8] ?_
  exact aR<|AG J λx5 O h7=>xA R O<|mM R<|Zh<|Zx h7 (AH [((q 0)+1)]) wk
 exact Zn<|u _ _ wk<|J1 _ (AH [(q 0)])<|xH l E
theorem tR{f1 r}(h:No f1=some r):Bb prog 19 1 [qb f1] [] (λrr h'=>∃(i:Nat→Nat),rr=.own 1000 (i 0)∧h'=[(1000,some<|.rr (i 0) 37 3 2 39 2 none<|r.map AD.row)]):=by
 unfold No at h
 refine EE func19 R R ntmps19 (Zv R) λq=>aU<|mA R<|aZ<|aU<|mM R<|xL Ah R<|AG h λa1 E h1=>sS R (lI 1000 2 39 2 R Ah (f:=AD.row) (z0:=(AD.mk 0 0 [])) np R iL iL E)<|mA R<|aZ<|aS λK3 c3 M=>aU<|mM R<|xL Ah R<|mM R<|aZ<|Zf<|BH h1 λo1 I O=>?_
 have J1:∀(A:List AD) (T:NN),o1=A→K3 ⟨[(3,.own 1000 q)],[(1000,some<|.rr q 37 3 2 39 2 none<|A.map AD.row)],(T 0),29⟩:=by
  intro A T e
  have h2:=O _ e
  refine c3 _<|aU<|mM R<|mA R<|aZ ?_
  exact Zj<|CP.mk (s':=⟨[(2,.own 1000 q)],[(1000,some<|.rr q 37 3 2 39 2 none<|A.map AD.row)],(T 0),29⟩) wk<|Cc (λ(r:(List AD)) rr h'=>∃(i:Nat→Nat),rr=.own 1000 (i 0)∧h'=[(1000,some<|.rr (i 0) 37 3 2 39 2 none<|r.map AD.row)]) h2<|by exact⟨.own 1000 q,[(1000,some<|.rr q 37 3 2 39 2 none<|A.map AD.row)],R,⟨.inr R,Za⟩,R,R,AH [q],R,R⟩
 refine Dd (λ(u:Int) (w:List AD) l=>⟨[(3,.own 1000 q),(9,qb f1),(10,rL f1),(11,rI u)],[(1000,some<|.rr q 37 3 2 39 2 none<|w.map AD.row)],(l 0),29⟩) (AH [(q+1)]) I wk ?_
 intro u w l v1 U V
 have h3:I5 f1 u w=some v1:=U;unfold I5 at h3
 refine aU<|xS R<|aZ<|aT λc7=>cI R h3 (λX=>?_) λX=>?_
 ·refine Zd<|c7 _<|aT λc8=>Zf<|aU<|mM R<|AG X λj Y h5=>xI Ah R Y<|xB ((A5 j)) Dc R<|sS R (BF (cs:=Fh) 5 R Ft R R)<|mA R<|Zk R R (Aj (ds:=(A5 j)) R EY iL R iL R R R R)<|aZ<|AG h5 λF Z h6=>?_
  refine IA 10 [pO 16<|.own 1000 q,pO 17<|rI u,pO 18<|.ptr 5 (l 0) 0 0,pO 19<|rI j.Char,pO 20<|.ptr 5 (l 0) 0 1,pO 21<|rI j.Ref,pO 22<|.ptr 5 (l 0) 0 2,pO 23<|qa j.Attrs,⟨some 24,(λB=>.own 24<|B 8),some (24,(λB=>some<|.arr (B 8) 39 2<|F.map AC.row)),[8]⟩,⟨some 25,(λB=>.agg [rI j.Char,rI j.Ref,.own 24<|B 8]),none,[8]⟩] BA (by kernel_rfl) (by exact⟨λ_ _ h=>⟨R,λ_ _ e=>by cases e⟩,λ_ _ h=>⟨R,λ_ _ e=>by cases e⟩,λ_ _ h=>⟨R,λ_ _ e=>by cases e⟩,λ_ _ h=>⟨R,λ_ _ e=>by cases e⟩,λ_ _ h=>⟨R,λ_ _ e=>by cases e⟩,λ_ _ h=>⟨R,λ_ _ e=>by cases e⟩,λ_ _ h=>⟨R,λ_ _ e=>by cases e⟩,λ_ _ h=>⟨R,λ_ _ e=>by cases e⟩,λ_ _ h=>⟨by simp only[h 8 R],λ_ _ e=>by cases e;simp only[h 8 R]⟩,λ_ _ h=>⟨by simp only[h 8 R],λ_ _ e=>by cases e⟩,Za⟩) R (by exact⟨oB [(3,.own 1000 q)] [(1000,some<|.rr q 37 3 2 39 2 none<|w.map AD.row)]<|AK R<|.inl R,oB [(4,rI u)] []<|AK R<|.inl R,oB [(5,.ptr 5 (l 0) 0 0)] [(5,some<|.box (l 0) 37<|A5 j)]<|fB R Ek (.inl R) (λ_=>R) R,oB [(18,.ptr 5 (l 0) 0 0)] [(5,some<|.box (l 0) 37<|A5 j)]<|AZ (a:=rI j.Char) R AJ (.inl R) R R,oB [(5,.ptr 5 (l 0) 0 0)] [(5,some<|.box (l 0) 37<|A5 j)]<|fB R D9 (.inl R) (λ_=>R) R,oB [(20,.ptr 5 (l 0) 0 1)] [(5,some<|.box (l 0) 37<|A5 j)]<|AZ (a:=rI j.Ref) R AJ (.inl R) R R,oB [(5,.ptr 5 (l 0) 0 0)] [(5,some<|.box (l 0) 37<|A5 j)]<|fB R DA (.inl R) (λ_=>R) R,oB [(22,.ptr 5 (l 0) 0 2)] [(5,some<|.box (l 0) 37<|A5 j)]<|AZ (a:=qa j.Attrs) R BD (.inl R) R R,oM (λ_=>[(23,qa j.Attrs)]) (λ_=>[]) R λB e h' n=>Q6 24 (f:=AC.row) R Ac (.inl R) (.inl ⟨(.inl R),λ_=>R⟩) Z,oC (λB=>[(19,rI j.Char),(21,rI j.Ref),(24,.own 24<|B 8)]) (λB=>[(24,some<|.arr (B 8) 39 2<|F.map AC.row)]) λB e h'=>Bt R SP (q:=[(0,_),(1,_),(2,_)]) (by exact⟨R,R,R,(.inl R),R,R,R,(.inl R),R,R,R,(.inl R),Za⟩) (cs:=[rI j.Char,rI j.Ref,.own 24<|B 8])<|by rfl,Za⟩) λB J=>?_
  refine A8 [3,4,5,9,10,11,12,13,14,15,16,17,18,19,20,21,22,23,24,25] [5,24,1000] ?_
  refine AG h6 λx5 C h7=>sQ R (RJ R Ah.slice iL R iL λ_=>C) ?_
  refine AL.weak (Zm (iD (f:=AD.row) (f2:=AC.row) 1000 21000 u R R R C R)<|by exact ZE (e':=[(3,.own 1000 q),(4,rI u),(5,.ptr 5 (l 0) 0 0),(9,qb f1),(10,rL f1),(11,rI u),(12,rB<|(decide<|u<(f1.length:Int))),(13,rI u),(14,.rop (AD.row j) 0),(15,.agg<|A5 j),(16,.own 1000 q),(17,rI u),(18,.ptr 5 (l 0) 0 0),(19,rI j.Char),(20,.ptr 5 (l 0) 0 1),(21,rI j.Ref),(22,.ptr 5 (l 0) 0 2),(23,qa j.Attrs),(24,.own 24<|B 8),(25,.agg [rI j.Char,rI j.Ref,.own 24<|B 8]),(26,.ptr 1000 q u.toNat 0)]) (h':=[(5,some<|.box (l 0) 37<|A5 j),(24,some<|.arr (B 8) 39 2<|F.map AC.row),(1000,some<|.rr q 37 3 2 39 2 (some (u.toNat,21000,J))<|w.map AD.row),(21000,some<|.arr J 39 2<|x5.Attrs.map AC.row)]) ⟨jL,jL,jL,jL,jL,jL,jL,jL,jL,jL,jL,jL,jL,jL,jL,jL,jL,jL,jL,jL,jL,Za⟩ ⟨.inl R,.inl R,.inl R,.inl R,Za⟩ nL) ?_
  refine Zk R R (oE (v:=(AD.mk j.Char j.Ref F)) R EY iL R C iL R R R R) ?_
  refine AL.weak (Zm (u9 (f:=AD.row) (f2:=AC.row) (v:=(AD.mk j.Char j.Ref F)) 1000 24 u R R R C R)<|by exact ZE (e':=[(3,.own 1000 q),(4,rI u),(5,.ptr 5 (l 0) 0 0),(9,qb f1),(10,rL f1),(11,rI u),(12,rB<|(decide<|u<(f1.length:Int))),(13,rI u),(14,.rop (AD.row j) 0),(15,.agg<|A5 j),(16,.own 1000 q),(17,rI u),(18,.ptr 5 (l 0) 0 0),(19,rI j.Char),(20,.ptr 5 (l 0) 0 1),(21,rI j.Ref),(22,.ptr 5 (l 0) 0 2),(23,qa j.Attrs),(26,.ptr 1000 q u.toNat 0)]) (h':=[(5,some<|.box (l 0) 37<|A5 j),(1000,some<|.rr q 37 3 2 39 2 none<|(w.set u.toNat<|AD.mk j.Char j.Ref F).map AD.row),(21000,some<|.arr J 39 2<|x5.Attrs.map AC.row)]) ⟨jL,jL,jL,jL,jL,jL,jL,jL,jL,jL,jL,jL,jL,jL,jL,jL,jL,jL,jL,Za⟩ ⟨.inl R,.inl R,.inl R,Za⟩ nL) ?_
  refine aZ<|c8 _<|aG [3,9,10,11] [1000] ?_
  exact aR<|AG h7 λx6 a0 h8=>xA R a0<|mM R<|Zh<|ZI h8 (AH [(J+1)]) wk
 exact Zn<|M _ _ wk<|J1 _ (AH [(l 0)])<|xH V X
theorem sI{n r}(h:PH n=some r):AS prog 22 [rS n] (rB r):=by
 unfold PH at h
 refine mF func22 ntmps22 R λA=>aU<|mA R<|aZ<|aT λq=>aR<|mM R<|sQ R (Cz R iL iL)<|mM R<|vM R<|vQ R (Cz R (iR R) iL)<|xO R<|mM R<|vM R<|vQ R (Ds R underlying9<|iR R)<|vQ R (A9 R (iR R) iL)<|vQ R (AK R<|iR R)<|wQ R (AK R iL)<|AG h λB j u=>?_
 refine wQ R (Mi R underlying9 (iR R) (by exact R) (by exact⟨_,iL⟩)<|AU j) ?_
 refine wQ R (Cz R (iR R) iL)<|vQ R (BI R (iR R)<|iR R)<|xO R<|mM R<|vM R<|vQ R (Ds R underlying9<|iR R)<|vQ R (A9 R (iR R) iL)<|vQ R (AK R<|iR R)<|wQ R (AK R iL)<|AG u λC l w=>?_
 refine wQ R (Mi R underlying9 (iR R) (by exact R) (by exact⟨_,iL⟩)<|AU l) ?_
 exact wQ R (Cz R (iR R) iL)<|vQ R (BI R (iR R)<|iR R)<|xO R<|mA R<|aZ<|q _<|Zj<|yB w R
theorem Z9{j r}(h:Lr j=some r):AS prog 21 [.agg<|BO j] (rB r):=by
 unfold Lr at h
 exact mF func21 ntmps21 R λw=>aU<|sS R (A2 (cs:=(BO j)) 1 R iL R R)<|mA R<|aZ<|aU<|lF B1 A6 R R<|sQ R (Cz R iL iL)<|mM R<|vF B1 A6 R R<|vQ R (Cz R (iR R) iL)<|xO R<|mM R<|vF B1 A6 R R<|vQ R (Cz R (iR R) iL)<|xO R<|mM R<|vF B1 A6 R R<|vQ R (DJ R (iR R) iL)<|vQ R (AK R<|iR R)<|wQ R (fB R B1 iL fR R)<|wQ R (AZ (a:=rS j.Name) R A6 (iR R) R R)<|AG h λq l u=>AL.stepW (.two R R R) R R (Dy (r:=rB q) (caps:=[]) (bs:=[rS j.Name]) R iL R ⟨⟨_,(iR R),.d R⟩,Za⟩ (λhg=>sI<|AU l hg) R)<|vQ R (BI R (iR R)<|iR R)<|xO R<|mA R<|aZ<|Zj<|yB u R
theorem oI{j r}(h:MF j=some r):AS prog 48 [qa j,.fn 21 []] (rI r):=by
 unfold MF at h
 refine mF func48 ntmps48 R λY=>aU<|mA R<|aZ<|aS λZ c2 w=>aU<|mM R<|xL Ac R<|mM R<|aZ<|Zf<|BP h λo1 l A B=>?_
 have J1:∀(U:Unit) (V:NN),o1=.nrm U→Z ⟨[],[],(V 0),19⟩:=by
  intro U V e
  have h1:=A _ e
  exact c2 _<|zI h1 R id
 refine Zz (λ(C:Int) u=>⟨[(0,qa j),(1,.fn 21 []),(7,rL j),(8,rI C)],[],(u 0),19⟩) (AH [Y]) l wk ?_
 intro C u v1 E q
 have X:Lx j C=some v1:=E;unfold Lx at X
 refine aU<|xS R<|aZ<|aT λc6=>cI R X (λF=>?_) λF=>?_
 ·refine Zd<|c6 _<|aT λc7=>Zf<|aU<|mM R<|mA R<|aZ<|aU<|mM R<|mM R<|mM R<|AG F λx4 I h4=>xI Ac R I<|xB ((BO x4)) CV R<|AG h4 λr1 J h5=>cL (Z9<|J) R<|aZ<|cI R h5 (λM=>?_) λM=>?_
  ·refine aT λO=>aF [5] ?_
   exact aR<|mM R<|mA R<|aZ<|O _<|Zj<|yI (B _<|xH q M) R
  refine Zd<|c7 _<|aF [0,1,7,8] ?_
  exact aR<|AG M λx5 T h7=>xA R T<|mM R<|Zh<|Zx h7 (AH [(u 0)]) wk
 exact Zn<|w _ _ wk<|J1 _ (AH [(u 0)])<|xH q F
theorem pC{C:List AC}{r:(List AC)}{j:Nat}(h:O2 C=some r):Bb prog 20 1 [.own 1000 j,.fn 21 []] [(1000,some<|.arr j 39 2<|C.map AC.row)] (λrr h'=>∃(i:Nat→Nat),rr=.own 1000 (i 0)∧h'=[(1000,some<|.arr (i 0) 39 2<|r.map AC.row)]):=by
 unfold O2 at h
 refine EE func20 R R ntmps20 (Zv R) λn0=>aU<|mA R<|aZ<|aU<|mM R<|mM R<|AG h λi1 T h1=>sS R (Dy (r:=rI i1) (caps:=[]) (bs:=[qa C,.fn 21 []]) R iL R ⟨⟨_,iL,.one<|.own R⟩,⟨_,iL,.one<|.closed (.fn 21 []) R⟩,Za⟩ (λ_=>oI<|T) R)<|mA R<|aZ<|aT λc3=>aU<|mM R<|xQ R<|aZ<|cI R h1 (λU=>?_) λU=>?_
 ·refine aU<|mM R<|mA R<|aZ ?_
  exact Zj<|CP.mk (s':=⟨[(4,.own 1000 j)],[(1000,some<|.arr j 39 2<|C.map AC.row)],n0,42⟩) wk<|Cc (λ(r:(List AC)) rr h'=>∃(i:Nat→Nat),rr=.own 1000 (i 0)∧h'=[(1000,some<|.arr (i 0) 39 2<|r.map AC.row)]) U<|by exact⟨.own 1000 j,[(1000,some<|.arr j 39 2<|C.map AC.row)],R,⟨.inr R,Za⟩,R,R,AH [j],R,R⟩
 refine Zd<|c3 _<|aS λK6 c6 V=>aU<|mM R<|AG U λj1 X h3=>xA R X<|mA R<|aZ<|Zf<|IF h3 λo1 E Y=>?_
 have J1:∀(Z:Int) (s5:List AC) (l:NN),o1=(Z,s5)→K6 ⟨[(0,.own 1000<|l 0),(5,rI Z)],[(1000,some<|.arr (l 0) 39 2<|s5.map AC.row)],(l 1),42⟩:=by
  intro Z s5 l e
  have h4:=Y _ _ e
  refine c6 _<|aU<|mM R<|mM R<|AG h4 λl1 a0 h5=>uu (f:=AC.row) (z0:=(AC.mk [] [])) R R R R R R R Ac qQ iL R ⟨_,iL⟩ a0<|aZ<|aT λc9=>aR<|mM R<|mM R<|AG h5 λl2 F h6=>sQ R (tC R Ac.slice iL R ⟨_,iL⟩ λ_=>F)<|AL.weak (uj (f:=AC.row) 41 1000 F R R) ?_
  refine mA R<|oZ c9 ?_
  exact Zj<|CP.mk (s':=⟨[(4,.own 1000<|l 1)],[(1000,some<|.arr (l 1) 39 2<|l2.map AC.row)],((l 1)+1),42⟩) wk<|Cc (λ(r:(List AC)) rr h'=>∃(i:Nat→Nat),rr=.own 1000 (i 0)∧h'=[(1000,some<|.arr (i 0) 39 2<|r.map AC.row)]) h6<|by exact⟨.own 1000<|l 1,[(1000,some<|.arr (l 1) 39 2<|l2.map AC.row)],R,⟨.inr R,Za⟩,R,R,AH [(l 1)],R,R⟩
 refine Gk (λ(i5:Int) (O:Int) (s3:List AC) u=>⟨[(0,.own 1000<|u 0),(1,.fn 21 []),(5,rI i5),(6,rI O)],[(1000,some<|.arr (u 0) 39 2<|s3.map AC.row)],(u 1),42⟩) (AH [j,n0]) E wk ?_
 intro i5 O s3 u v1 a1 a2
 have h7:KI i5 O s3=some v1:=a1;unfold KI at h7
 refine aT λa6=>aU<|mM R<|mM R<|sQ R (N0 R Ac.slice iL R)<|xS R<|aZ<|cI R h7 (λh8=>?_) λh8=>?_
 ·refine Zd<|a6 _<|aS λa7 a8 w=>Zf<|IF h8 λp1 aa ab=>?_
  have J2:∀(A:Int) (s6:List AC) (q:NN),p1=(A,s6)→a7 ⟨[(0,.own 1000<|q 0),(1,.fn 21 []),(5,rI A),(6,rI O)],[(1000,some<|.arr (q 0) 39 2<|s6.map AC.row)],(q 1),42⟩:=by
   intro A s6 q e
   have h9:=ab _ _ e
   exact a8 _<|aR<|mM R<|AG h9 λj5 ac ad=>xA R ac<|mA R<|Zh<|DN.mk ad (AH [(q 0),(q 1)]) wk
  refine aU<|mM R<|mM R<|AG aa λx1 I ae=>sQ R (FY R Ac.slice iL R iL λ_=>I)<|sQ R (mc (cs:=(BO x1)) R CV iL fR (λ_=>I) R)<|sS R (BF (cs:=[.r<|.str [],.r<|.str []]) 7 R Sv R R)<|Zk R R (Aj (ds:=(BO x1)) R Lt iL R iL R R R R)<|aZ<|aU<|mM R<|xC CV R<|AG ae λr1 af ag=>cL (Z9<|af) R<|sQ R (A3 R iL)<|aZ<|cI R ag (λB=>?_) λB=>?_
  ·refine aT λah=>aG [0,1,5,6,7] [7,1000] ?_
   exact aR<|mM R<|mM R<|xC CV R<|AG B λx2 J ai=>sQ R (FY R Ac.slice iL R iL λ_=>J)<|Zk R R (SC (v:=x1) R Lt iL R J iL R R R R)<|aZ<|ah _<|aR<|mM R<|AG ai λak M aj=>xA R M<|mA R<|Zh<|w _ _ wk<|J2 _ _ (AH [(u 0),((u 1)+1)]) (Zc aj).symm
  exact Zd<|w _ _ wk<|J2 _ _ (AH [(u 0),((u 1)+1)]) (Zc B).symm
 exact Zn<|V _ _ wk<|J1 _ _ (AH [(u 0),(u 1)])<|xH a2 h8
theorem Yy{l r}(h:KX l=some r):AS prog 145 [qa l] (rI r):=by
 unfold KX at h
 exact mF func145 ntmps145 R λu=>aU<|mA R<|aZ<|aU<|mM R<|AG h λw j q=>cL (bN<|j) R<|mA R<|aZ<|Zj<|yI q R
theorem YK{q r}(h:Ly q=some r):AS prog 144 (PZ q) (rI r):=by
 unfold Ly at h
 refine mF func144 ntmps144 R λA=>aU<|sS R (A2 (cs:=(Bn q)) 1 R iL R R)<|mA R<|aZ<|aT λc2=>aU<|lF CH AJ R R<|aZ<|Zf<|aS λK4 c4 u=>aU<|xQ R<|mA R<|aZ<|BH h λp1 w B=>?_
 have J1:∀(C:Bool) (i1:NN),p1=C→K4 ⟨[(1,.ptr 1 A 0 0),(4,rI q.Kind),(5,rB C)],[(1,some<|.box A 56<|Bn q)],(i1 0),52⟩:=by
  intro C i1 e
  have h1:=B _ e
  refine c4 _<|cI R h1 (λE=>?_) λE=>?_
  ·refine aT λc6=>aU<|lF Ef B9 R R<|xL Ah R<|sQ R (A9 R iL iL)<|mM R<|vF CH AJ R R<|vQ R (Am R (iR R) iL)<|vQ R (AK R<|iR R)<|wQ R (fB R D7 iL fR R)<|wQ R (AZ (a:=qa q.Attrs) R BD (iR R) R R)<|wQ R (Bk R Ac.slice<|iR R)<|wQ R (A9 R (iR R) iL)<|vQ R (BI R (iR R)<|iR R)<|xO R<|aZ<|cI R E (λF=>?_) λF=>?_
   ·exact zI F R id
   refine Zd<|c6 _<|aT λc9=>aT λI=>aG [1] [1] ?_
   refine aR<|lF Ed AJ R R<|xS R<|mM R<|vF Ed AJ R R<|vQ R (A9 R (iR R) iL)<|xO R<|aZ<|I _<|cI R F (λJ=>?_) λJ=>?_
   ·exact zI J R id
   exact Zd<|c9 _<|aU<|lF D7 BD R R<|AG J λr1 M h5=>cL (Yy<|M) R<|mA R<|aZ<|Zj<|yI h5 R
  refine aU<|xQ R<|mA R<|aZ<|cI R E (λO=>?_) λO=>?_
  ·refine aT λT=>aU<|lF Ed AJ R R<|xU R<|mM R<|vF D7 BD R R<|vQ R (Bk R Ac.slice<|iR R)<|vQ R (A9 R (iR R) iL)<|xO R<|aZ<|cI R O (λU=>?_) λU=>?_
   ·exact zI U R id
   refine Zd<|T _<|aT λV=>aT λX=>aG [1] [1] ?_
   refine aR<|lF Ef B9 R R<|xL Ah R<|xQ R<|aZ<|X _<|cI R U (λY=>?_) λY=>?_
   ·exact zI Y R id
   exact Zd<|V _<|aU<|lF Ef B9 R R<|AG Y λr2 Z h9=>cL (en<|Z) R<|mA R<|aZ<|Zj<|yI h9 R
  exact Zd<|c2 _<|zI O R id
 refine aC R (λj=>?_) λj=>?_
 ·have l:=CF j w
  exact Zd<|u _ _ wk<|J1 _ (AH [(A+1)]) (Zc l).symm
 ·have l:=CA j w
  exact aR<|xQ R<|mA R<|Zh<|u _ _ wk<|J1 _ (AH [(A+1)]) (Zc l).symm
theorem eC{q:Af}{r:Af}{j:Nat}{l:Nat}{u:Nat}(h:NC q=some r):Bb prog 148 3 [.ptr 1000 j 0 0] [(1000,some<|.box j 143 [.own 1001 l,.own 1002 u,rI q.cut]),(1001,some<|.arr l 56 4<|q.out.map AI.row),(1002,some<|.arr u 37 3<|q.add.map AD.row)] (λrr h'=>∃(i:Nat→Nat),rr=.tup []∧h'=[(1000,some<|.box j 143 [.own 1001<|i 0,cZ,rI r.cut]),(1001,some<|.arr (i 0) 56 4<|r.out.map AI.row)]):=by
 unfold NC at h
 refine EE func148 R R ntmps148 (Zv R) λT=>aS λK1 c1 I=>aU<|mM R<|sQ R (B7 (ob:=.box _ _ _) R iL fR R)<|lF Py B9 R R<|sQ R (N0 R Ah.slice iL R)<|sQ R (A9 R iL iL)<|aZ<|BH h λp1 J U=>?_
 have J1:∀(A:Af) (B:NN),p1=A→K1 ⟨[(0,.ptr 1000 j 0 0)],[(1000,some<|.box j 143 [.own 1001<|B 0,qb A.add,rI A.cut]),(1001,some<|.arr (B 0) 56 4<|A.out.map AI.row)],(B 1),47⟩:=by
  intro A B e
  have h1:=U _ e
  refine c1 _<|aS λK3 c3 M=>aU<|mM R<|sQ R (B7 (ob:=.box _ _ _) R iL fR R)<|lF Fv AJ R R<|sQ R (A9 R iL iL)<|aZ<|BH h1 λp2 O V=>?_
  have J2:∀(C:Af) (w:NN),p2=C→K3 ⟨[(0,.ptr 1000 j 0 0)],[(1000,some<|.box j 143 [.own 1001<|w 0,qb C.add,rI C.cut]),(1001,some<|.arr (w 0) 56 4<|C.out.map AI.row)],(w 1),47⟩:=by
   intro C w e
   have h2:=V _ e
   refine c3 _<|aR<|mM R<|mM R<|sQ R (B7 (ob:=.box _ _ _) R iL fR R)<|sQ R (fB R Py iL fR R)<|Zk R R (Aj (ds:=[.own 1001<|w 0,cZ,rI C.cut]) R Tx iL R iL R R R R)<|sQ R (B7 (ob:=.box _ _ _) R iL fR R)<|sQ R (fB R Fv iL fR R)<|Zk R R (Aj (ds:=[.own 1001<|w 0,cZ,rI 0]) R Gz iL R iL R R R R)<|Zh ?_
   exact CP.mk (s':=⟨[],[(1000,some<|.box j 143 [.own 1001<|w 0,cZ,rI 0]),(1001,some<|.arr (w 0) 56 4<|C.out.map AI.row)],(w 1),47⟩) wk<|Cc (λ(r:Af) rr h'=>∃(i:Nat→Nat),rr=.tup []∧h'=[(1000,some<|.box j 143 [.own 1001<|i 0,cZ,rI r.cut]),(1001,some<|.arr (i 0) 56 4<|r.out.map AI.row)]) h2<|by exact⟨.tup [],[(1000,some<|.box j 143 [.own 1001<|w 0,cZ,rI 0]),(1001,some<|.arr (w 0) 56 4<|C.out.map AI.row)],⟨_,R,Za⟩,⟨.inr R,.inr R,Za⟩,R,R,AH [(w 0)],R,R⟩
  refine aC R (λE=>?_) λE=>?_
  ·have X:=CF E O
   refine g8 [0] [1,2,3,4,5,6,7,8,9] [10] 11 BA (by kernel_rfl) R R R R R ?_
   refine G9.move R R R R<|G9.nil<|AF.step R R R (AK R iL)<|AF.step R R R (B7 (ob:=.box _ _ _) R iL fR R)<|AF.step R R R (fB R GW iL fR R)<|AF.step R R R (AZ (a:=.own 1001<|B 0) R EM iL R R)<|AF.step R R R (AK R iL)<|AF.step R R R (B7 (ob:=.box _ _ _) R iL fR R)<|AF.step R R R (fB R Fv iL fR R)<|AF.step R R R (AZ (a:=rI A.cut) R AJ iL R R) ?_
   refine AF.step R R R (Bt R LX (q:=[(0,_),(1,_)]) (by exact⟨R,R,R,iL,R,R,R,iL,Za⟩) (cs:=[rI 2,rI A.cut,cZ,cZ])<|by rfl) ?_
   exact AF.nil<|AA.step R R R (YX 37 R CT (f:=AI.row) (l:=([(AI.mk 2 A.cut [] [])]:List AI)) ⟨R,⟨_,iL,R⟩,Za⟩ R (λ_=>R) R)<|AA.nil<|AG X λl1 Y h4=>AL.step R R R (Cj R CT iL R (.inr<|.inl ⟨_,_,iL,R⟩) Y)<|sQ R (B7 (ob:=.box _ _ _) R iL fR R)<|sQ R (fB R GW iL fR R)<|Zk R R (Aj (ds:=[.own 1001<|(B 1)+1,qb A.add,rI A.cut]) R Se iL R iL R R R R)<|Zh<|M _ _ wk<|J2 _ (AH [((B 1)+1),((B 1)+2)]) (Zc h4).symm
  ·have X:=CA E O
   exact Zd<|M _ _ wk<|J2 _ (AH [(B 0),(B 1)]) (Zc X).symm
 refine aC R (λF=>?_) λF=>?_
 ·have Z:=CF F J
  refine AW.weak (by exact Ae.frz (e':=[(0,.ptr 1000 j 0 0),(2,.ptr 1000 j 0 0),(3,.ptr 1000 j 0 0),(4,.ptr 1000 j 0 1),(5,qb q.add),(6,rL q.add),(7,rB<|(decide<|0<(q.add.length:Int)))]) (h':=[(1000,some<|.box j 143 [.own 1001 l,qb q.add,rI q.cut]),(1001,some<|.arr l 56 4<|q.out.map AI.row)]) 1002 R ⟨jL,jL,jL,jL,.inl<|.inr<|.inr ⟨R,R⟩,jL,jL,Za⟩ ⟨R,.inr<|.inr<|.inl ⟨_,_,_,_,R,R,⟨.inl R,.inr<|.inr ⟨R,R⟩,.inl R,Za⟩⟩,R,.inl R,Za⟩) ?_
  refine g8 [0] [1,2,3,4,5,6,7,8,9] [10] 11 BA (by kernel_rfl) R R R R R ?_
  refine G9.move R R R R<|G9.nil<|AF.step R R R (AK R iL)<|AF.step R R R (B7 (ob:=.box _ _ _) R iL fR R)<|AF.step R R R (fB R GW iL fR R)<|AF.step R R R (AZ (a:=.own 1001 l) R EM iL R R)<|AF.step R R R (AK R iL)<|AF.step R R R (B7 (ob:=.box _ _ _) R iL fR R)<|AF.step R R R (fB R Py iL fR R)<|AF.step R R R (AZ (a:=qb q.add) R B9 iL R R) ?_
  refine AF.step R R R (Bt R LX (q:=[(0,_),(3,_)]) (by exact⟨R,R,R,iL,R,R,R,iL,Za⟩) (cs:=[rI 1,rI 0,cZ,qb q.add])<|by rfl) ?_
  exact AF.nil<|AA.step R R R (YX 18 R CT (f:=AI.row) (l:=([(AI.mk 1 0 [] q.add)]:List AI)) ⟨R,⟨_,iL,R⟩,Za⟩ R (λ_=>R) R)<|AA.nil<|AG Z λl2 a0 h6=>AL.step R R R (Cj R CT iL R (.inr<|.inl ⟨_,_,iL,R⟩) a0)<|sQ R (B7 (ob:=.box _ _ _) R iL fR R)<|sQ R (fB R GW iL fR R)<|Zk R R (Aj (ds:=[.own 1001<|T+1,qb q.add,rI q.cut]) R Se iL R iL R R R R)<|Zh<|I _ _ wk<|J1 _ (AH [(T+1),(T+2)]) (Zc h6).symm
 ·have Z:=CA F J
  refine Zd ?_
  exact I _ _ (Zm (by exact Ae.frz (e':=[(0,.ptr 1000 j 0 0),(2,.ptr 1000 j 0 0),(3,.ptr 1000 j 0 0),(4,.ptr 1000 j 0 1),(5,qb q.add),(6,rL q.add),(7,rB<|(decide<|0<(q.add.length:Int)))]) (h':=[(1000,some<|.box j 143 [.own 1001 l,qb q.add,rI q.cut]),(1001,some<|.arr l 56 4<|q.out.map AI.row)]) 1002 R ⟨jL,jL,jL,jL,.inl<|.inr<|.inr ⟨R,R⟩,jL,jL,Za⟩ ⟨R,.inr<|.inr<|.inl ⟨_,_,_,_,R,R,⟨.inl R,.inr<|.inr ⟨R,R⟩,.inl R,Za⟩⟩,R,.inl R,Za⟩) wk)<|J1 _ (AH [l,T]) (Zc Z).symm
theorem NV{E:Af}{n1:Int}{u:List AC}{r:Af}{j:Nat}{l:Nat}{q:Nat}(h:GE E n1 u=some r):Bb prog 96 3 [.ptr 1000 j 0 0,rI n1,qa u] [(1000,some<|.box j 143 [.own 1001 l,.own 1002 q,rI E.cut]),(1001,some<|.arr l 56 4<|E.out.map AI.row),(1002,some<|.arr q 37 3<|E.add.map AD.row)] (λrr h'=>∃(i:Nat→Nat),rr=.tup []∧h'=[(1000,some<|.box j 143 [.own 1001<|i 0,.own 1002<|i 1,rI r.cut]),(1001,some<|.arr (i 0) 56 4<|r.out.map AI.row),(1002,some<|.arr (i 1) 37 3<|r.add.map AD.row)]):=by
 unfold GE at h
 refine EE func96 R R ntmps96 (Zv R) λn0=>aT λc1=>aU<|mM R<|xQ R<|aZ<|cI R h (λY=>?_) λY=>?_
 ·exact Zj<|CP.mk (s':=⟨[],[(1000,some<|.box j 143 [.own 1001 l,.own 1002 q,rI E.cut]),(1001,some<|.arr l 56 4<|E.out.map AI.row),(1002,some<|.arr q 37 3<|E.add.map AD.row)],n0,67⟩) wk<|Cc (λ(r:Af) rr h'=>∃(i:Nat→Nat),rr=.tup []∧h'=[(1000,some<|.box j 143 [.own 1001<|i 0,.own 1002<|i 1,rI r.cut]),(1001,some<|.arr (i 0) 56 4<|r.out.map AI.row),(1002,some<|.arr (i 1) 37 3<|r.add.map AD.row)]) Y<|by exact⟨.tup [],[(1000,some<|.box j 143 [.own 1001 l,.own 1002 q,rI E.cut]),(1001,some<|.arr l 56 4<|E.out.map AI.row),(1002,some<|.arr q 37 3<|E.add.map AD.row)],⟨_,R,Za⟩,⟨.inr R,.inr R,.inr R,Za⟩,R,R,AH [l,q],R,R⟩
 refine Zd<|c1 _<|aT λc3=>aR<|mM R<|AG Y λB Z h2=>?_
 refine Zo [1000,1001,1002] (hc:=[(1000,some<|.box j 143 [.own 1001 l,.own 1002 q,rI E.cut]),(1001,some<|.arr l 56 4<|E.out.map AI.row),(1002,some<|.arr q 37 3<|E.add.map AD.row)]) (bs:=[.ptr 1000 j 0 0]) (caps:=[]) R R R R iL R ⟨.inl ⟨iL,R⟩,Za⟩ ⟨R,R,R,R,R,R,R,R,R,Za⟩ (by decide) (eC Z) ?_
 intro A M
 refine A8 [0,1,2,7,8,9,10] [1000,1001] ?_
 refine aZ<|c3 _<|aT λc4=>aU<|mM R<|sQ R (B7 (ob:=.box _ _ _) R iL fR R)<|lF GW EM R R<|sQ R (N0 R CT.slice iL R)<|AG h2 λI a0 h3=>sQ R (CG R iL iL λ_=>a0)<|mA R<|aZ<|aT λc6=>aG [0,1,2,6] [1000,1001] ?_
 refine aR<|mM R<|sQ R (C1 R iL iL)<|mM R<|vM R<|vQ R (B7 (ob:=.box _ _ _) R (iR R) fR R)<|vQ R (fB R GW (iR R) fR R)<|vQ R (AZ (a:=.own 1001<|A 0) R EM (iR R) R R)<|vM R<|AG h3 λx1 T h4=>vQ R (FY R CT.slice (iR R) R (iR R)<|AU T)<|vQ R (GQ (ob:=.arr _ _ _ _) R CH (iR R) fR R)<|vQ R (Ll (d:=.int .i64 x1.Kind) R AJ (iR R) fR (AU T) R)<|vQ R (Am R (iR R) iL)<|xN R<|mM R<|vM R<|vQ R (B7 (ob:=.box _ _ _) R (iR R) fR R)<|vQ R (fB R GW (iR R) fR R)<|vQ R (AZ (a:=.own 1001<|A 0) R EM (iR R) R R)<|vM R<|AG h4 λx2 U h5=>vQ R (FY R CT.slice (iR R) R (iR R)<|AU U)<|vQ R (GQ (ob:=.arr _ _ _ _) R D7 (iR R) fR R)<|vQ R (Ll (d:=.sl<|x2.Attrs.map AC.row) R BD (iR R) fR (AU U) R)<|vM R<|AG h5 λr1 a1 h6=>vL (λhg=>UF<|AU a1 hg) R<|xN R<|aZ<|c6 _<|cI R h6 (λh7=>?_) λh7=>?_
 ·refine aT λc7=>aG [0,1,6] [1000,1001] ?_
  refine aR<|mM R<|sQ R (B7 (ob:=.box _ _ _) R iL fR R)<|lF GW EM R R<|mM R<|AG h7 λC J h8=>sQ R (FY R CT.slice iL R iL λ_=>J)<|sQ R (GQ (ob:=.arr _ _ _ _) R Ed iL fR R)<|sQ R (Ll (d:=.int .i64 C.N) R AJ iL fR (λ_=>J) R)<|mM R<|AG h8 λV a2 h9=>xA R a2<|sQ R (FY R CT.slice iL R iL λ_=>J)<|sQ R (GQ (ob:=.arr _ _ _ _) R Ed iL fR R)<|Zk R R (Tn (v:=(AI.mk C.Kind V C.Attrs C.Elems)) R Gz iL R J iL R R R R)<|oZ c7 ?_
  exact Zj<|CP.mk (s':=⟨[],[(1000,some<|.box j 143 [.own 1001<|A 0,.own 1002 M,rI B.cut]),(1001,some<|.arr (A 0) 56 4<|(B.out.set I.toNat<|AI.mk C.Kind V C.Attrs C.Elems).map AI.row),(1002,some<|.arr M 37 3<|([]:List AD).map AD.row)],(M+1),67⟩) (Zm (Zm (ZK 1000 1 1002 37 3 (by decide) R R<|by decide)<|by exact ZE (e':=[(0,.ptr 1000 j 0 0),(1,rI n1),(6,rI I),(42,.ptr 1000 j 0 0),(43,.ptr 1000 j 0 0),(44,.ptr 1000 j 0 0),(45,.own 1001<|A 0),(46,rI I),(47,.ptr 1001 (A 0) I.toNat 0),(48,.ptr 1001 (A 0) I.toNat 1),(49,rI C.N),(50,rI n1),(51,rI V),(52,.ptr 1001 (A 0) I.toNat 0),(53,.ptr 1001 (A 0) I.toNat 1)]) (h':=[(1000,some<|.box j 143 [.own 1001<|A 0,.own 1002 M,rI B.cut]),(1001,some<|.arr (A 0) 56 4<|(B.out.set I.toNat<|AI.mk C.Kind V C.Attrs C.Elems).map AI.row),(1002,some<|.arr M 37 3<|([]:List AD).map AD.row)]) ⟨jL,jL,jL,jL,jL,jL,jL,jL,jL,jL,jL,jL,jL,jL,jL,Za⟩ ⟨.inl R,.inl R,.inl R,Za⟩ nL) wk)<|Cc (λ(r:Af) rr h'=>∃(i:Nat→Nat),rr=.tup []∧h'=[(1000,some<|.box j 143 [.own 1001<|i 0,.own 1002<|i 1,rI r.cut]),(1001,some<|.arr (i 0) 56 4<|r.out.map AI.row),(1002,some<|.arr (i 1) 37 3<|r.add.map AD.row)]) h9<|by exact⟨.tup [],[(1000,some<|.box j 143 [.own 1001<|A 0,.own 1002 M,rI B.cut]),(1001,some<|.arr (A 0) 56 4<|(B.out.set I.toNat<|AI.mk C.Kind V C.Attrs C.Elems).map AI.row),(1002,some<|.arr M 37 3<|([]:List AD).map AD.row)],⟨_,R,Za⟩,⟨.inr R,.inr R,.inr R,Za⟩,R,R,AH [(A 0),M],R,R⟩
 refine Zd<|c4 _<|aG [0,1,2] [1000,1001] ?_
 refine AG h7 λF a6 a7=>AG a7 λX a8 aa=>?_
 refine IA 11 [pO 54<|.ptr 1000 j 0 0,pO 55<|.ptr 1000 j 0 0,pO 56<|.ptr 1000 j 0 0,pO 57<|.ptr 1000 j 0 0,pO 58<|.own 1001<|A 0,pO 59<|rI n1,pO 60<|qa u,⟨some 61,(λ_=>qa F),some (61,(λ_=>none)),[]⟩,pO 62<|.agg [rI 0,rI n1,qa F,cZ],⟨some 63,(λw=>.own 63<|w 9),some (63,(λw=>some<|.arr (w 9) 56 4<|[(AI.mk 0 n1 F [])].map AI.row)),[9]⟩,⟨some 64,(λw=>.own 1001<|w 10),some (1001,(λw=>some<|.arr (w 10) 56 4<|X.map AI.row)),[10]⟩] BA (by kernel_rfl) (by exact⟨λ_ _ h=>⟨R,λ_ _ e=>by cases e⟩,λ_ _ h=>⟨R,λ_ _ e=>by cases e⟩,λ_ _ h=>⟨R,λ_ _ e=>by cases e⟩,λ_ _ h=>⟨R,λ_ _ e=>by cases e⟩,λ_ _ h=>⟨R,λ_ _ e=>by cases e⟩,λ_ _ h=>⟨R,λ_ _ e=>by cases e⟩,λ_ _ h=>⟨R,λ_ _ e=>by cases e⟩,λ_ _ h=>⟨R,λ_ _ e=>by cases e;rfl⟩,λ_ _ h=>⟨R,λ_ _ e=>by cases e⟩,λ_ _ h=>⟨by simp only[h 9 R],λ_ _ e=>by cases e;simp only[h 9 R]⟩,λ_ _ h=>⟨by simp only[h 10 R],λ_ _ e=>by cases e;simp only[h 10 R]⟩,Za⟩) R (by exact⟨oB [(0,.ptr 1000 j 0 0)] [(1000,some<|.box j 143 [.own 1001<|A 0,cZ,rI B.cut])]<|AK R<|.inl R,oB [(0,.ptr 1000 j 0 0)] [(1000,some<|.box j 143 [.own 1001<|A 0,cZ,rI B.cut])]<|AK R<|.inl R,oB [(55,.ptr 1000 j 0 0)] [(1000,some<|.box j 143 [.own 1001<|A 0,cZ,rI B.cut])]<|B7 (ob:=.box _ _ _) R (.inl R) (λ_=>R) R,oB [(56,.ptr 1000 j 0 0)] [(1000,some<|.box j 143 [.own 1001<|A 0,cZ,rI B.cut])]<|fB R GW (.inl R) (λ_=>R) R,oB [(57,.ptr 1000 j 0 0)] [(1000,some<|.box j 143 [.own 1001<|A 0,cZ,rI B.cut])]<|AZ (a:=.own 1001<|A 0) R EM (.inl R) R R,oB [(1,rI n1)] []<|AK R<|.inl R,oB [(2,qa u)] []<|AK R<|.inl R,Xn R R (by intro d h;cases h;rfl) R (λ_=>[(60,qa u)]) (λ_=>[]) (λD w hr=>⟨O8 hr 6 R R (by kernel_rfl) R R,Za⟩) (λD w hr=>Za) λw e h' n=>Fx.frz<|A7.toN<|Q6 61 (f:=AC.row) R Ac (.inl R) (.inl ⟨(.inl R),λ_=>R⟩) a6,oB [(59,rI n1),(61,qa F)] []<|Bt R LX (q:=[(0,_),(1,_),(2,_)]) (by exact⟨R,R,R,(.inl R),R,R,R,(.inl R),R,R,R,(.inl R),Za⟩) (cs:=[rI 0,rI n1,qa F,cZ])<|by rfl,oM (λ_=>[(62,.agg [rI 0,rI n1,qa F,cZ])]) (λ_=>[]) R λw e h' n=>B3 63 R CT (f:=AI.row) (l:=([(AI.mk 0 n1 F [])]:List AI)) ⟨R,⟨_,(.inl R),R⟩,Za⟩ R (λ_=>R) R,oM (λw=>[(58,.own 1001<|A 0),(63,.own 63<|w 9)]) (λw=>[(63,some<|.arr (w 9) 56 4<|[(AI.mk 0 n1 F [])].map AI.row),(1001,some<|.arr (A 0) 56 4<|B.out.map AI.row)]) R λw e h' n=>Cj R CT (.inl R) R (.inr<|.inl ⟨_,_,(.inl R),R⟩) a8,Za⟩) λw O=>?_
 refine A8 [0,1,2,54,55,56,57,59,60,61,62,63,64] [63,1000,1001] ?_
 refine sQ R (B7 (ob:=.box _ _ _) R iL fR R)<|sQ R (fB R GW iL fR R)<|Zk R R (Aj (ds:=[.own 1001<|w 10,cZ,rI B.cut]) R Se iL R iL R R R R)<|Zh ?_
 exact CP.mk (s':=⟨[],[(1000,some<|.box j 143 [.own 1001<|w 10,.own 1002 O,rI B.cut]),(1001,some<|.arr (w 10) 56 4<|X.map AI.row),(1002,some<|.arr O 37 3<|([]:List AD).map AD.row)],(O+1),67⟩) (Zm (Zm (ZK 1000 1 1002 37 3 (by decide) R R<|by decide)<|by exact ZE (e':=[(0,.ptr 1000 j 0 0),(1,rI n1),(2,qa u),(54,.ptr 1000 j 0 0),(55,.ptr 1000 j 0 0),(56,.ptr 1000 j 0 0),(57,.ptr 1000 j 0 0),(59,rI n1),(60,qa u),(61,qa F),(62,.agg [rI 0,rI n1,qa F,cZ]),(63,.own 63<|w 9),(64,.own 1001<|w 10),(65,.ptr 1000 j 0 0),(66,.ptr 1000 j 0 0)]) (h':=[(63,some<|.arr (w 9) 56 4<|[(AI.mk 0 n1 F [])].map AI.row),(1000,some<|.box j 143 [.own 1001<|w 10,.own 1002 O,rI B.cut]),(1001,some<|.arr (w 10) 56 4<|X.map AI.row),(1002,some<|.arr O 37 3<|([]:List AD).map AD.row)]) ⟨jL,jL,jL,jL,jL,jL,jL,jL,jL,jL,jL,jL,jL,jL,jL,Za⟩ ⟨.inl R,.inl R,.inl R,.inl R,Za⟩ nL) wk)<|Cc (λ(r:Af) rr h'=>∃(i:Nat→Nat),rr=.tup []∧h'=[(1000,some<|.box j 143 [.own 1001<|i 0,.own 1002<|i 1,rI r.cut]),(1001,some<|.arr (i 0) 56 4<|r.out.map AI.row),(1002,some<|.arr (i 1) 37 3<|r.add.map AD.row)]) aa<|by exact⟨.tup [],[(1000,some<|.box j 143 [.own 1001<|w 10,.own 1002 O,rI B.cut]),(1001,some<|.arr (w 10) 56 4<|X.map AI.row),(1002,some<|.arr O 37 3<|([]:List AD).map AD.row)],⟨_,R,Za⟩,⟨.inr R,.inr R,.inr R,Za⟩,R,R,AH [(w 10),O],R,R⟩
theorem mL{f1 r}(h:Qy f1=some r):AS prog 19 [qb f1] (qb r):=by
 unfold Qy at h
 refine mF func19 ntmps19 R λZ=>aU<|mA R<|aZ<|aU<|mM R<|xL Ah R<|AG h λa0 B h1=>sS R (S3 8 R Ah (f:=AD.row) (z0:=(AD.mk 0 0 [])) XY iL iL B)<|mA R<|aZ<|aS λK3 c3 J=>aU<|mM R<|xL Ah R<|mM R<|aZ<|Zf<|BH h1 λo1 C M=>?_
 have J1:∀(w:List AD) (I:NN),o1=w→K3 ⟨[(3,.own 8<|I 0)],[(8,some<|.arr (I 0) 37 3<|w.map AD.row)],(I 1),29⟩:=by
  intro w I e
  have h2:=M _ e
  exact c3 _<|aU<|mM R<|mA R<|aZ<|Zj<|DU (P:=prog) (λ(r:(List AD))=>qb r) h2 iL<|.t<|.one<|.own R
 refine Dd (λ(A:Int) (q:List AD) j=>⟨[(3,.own 8<|j 0),(9,qb f1),(10,rL f1),(11,rI A)],[(8,some<|.arr (j 0) 37 3<|q.map AD.row)],(j 1),29⟩) (AH [Z,(Z+1)]) C wk ?_
 intro A q j v1 O T
 have h3:Ja f1 A q=some v1:=O;unfold Ja at h3
 refine aU<|xS R<|aZ<|aT λc7=>cI R h3 (λU=>?_) λU=>?_
 ·refine Zd<|c7 _<|aT λc8=>Zf<|aU<|mM R<|AG U λl V h5=>xI Ah R V<|xB ((A5 l)) Dc R<|sS R (BF (cs:=Fh) 5 R Ft R R)<|mA R<|Zk R R (Aj (ds:=(A5 l)) R EY iL R iL R R R R)<|aZ<|AG h5 λE X h6=>?_
  refine IA 10 [pO 16<|.own 8<|j 0,pO 17<|rI A,pO 18<|.ptr 5 (j 1) 0 0,pO 19<|rI l.Char,pO 20<|.ptr 5 (j 1) 0 1,pO 21<|rI l.Ref,pO 22<|.ptr 5 (j 1) 0 2,pO 23<|qa l.Attrs,⟨some 24,(λu=>.own 24<|u 8),some (24,(λu=>some<|.arr (u 8) 39 2<|E.map AC.row)),[8]⟩,⟨some 25,(λu=>.agg [rI l.Char,rI l.Ref,.own 24<|u 8]),none,[8]⟩] BA (by kernel_rfl) (by exact⟨λ_ _ h=>⟨R,λ_ _ e=>by cases e⟩,λ_ _ h=>⟨R,λ_ _ e=>by cases e⟩,λ_ _ h=>⟨R,λ_ _ e=>by cases e⟩,λ_ _ h=>⟨R,λ_ _ e=>by cases e⟩,λ_ _ h=>⟨R,λ_ _ e=>by cases e⟩,λ_ _ h=>⟨R,λ_ _ e=>by cases e⟩,λ_ _ h=>⟨R,λ_ _ e=>by cases e⟩,λ_ _ h=>⟨R,λ_ _ e=>by cases e⟩,λ_ _ h=>⟨by simp only[h 8 R],λ_ _ e=>by cases e;simp only[h 8 R]⟩,λ_ _ h=>⟨by simp only[h 8 R],λ_ _ e=>by cases e⟩,Za⟩) R (by exact⟨oB [(3,.own 8<|j 0)] [(8,some<|.arr (j 0) 37 3<|q.map AD.row)]<|AK R<|.inl R,oB [(4,rI A)] []<|AK R<|.inl R,oB [(5,.ptr 5 (j 1) 0 0)] [(5,some<|.box (j 1) 37<|A5 l)]<|fB R Ek (.inl R) (λ_=>R) R,oB [(18,.ptr 5 (j 1) 0 0)] [(5,some<|.box (j 1) 37<|A5 l)]<|AZ (a:=rI l.Char) R AJ (.inl R) R R,oB [(5,.ptr 5 (j 1) 0 0)] [(5,some<|.box (j 1) 37<|A5 l)]<|fB R D9 (.inl R) (λ_=>R) R,oB [(20,.ptr 5 (j 1) 0 1)] [(5,some<|.box (j 1) 37<|A5 l)]<|AZ (a:=rI l.Ref) R AJ (.inl R) R R,oB [(5,.ptr 5 (j 1) 0 0)] [(5,some<|.box (j 1) 37<|A5 l)]<|fB R DA (.inl R) (λ_=>R) R,oB [(22,.ptr 5 (j 1) 0 2)] [(5,some<|.box (j 1) 37<|A5 l)]<|AZ (a:=qa l.Attrs) R BD (.inl R) R R,oM (λ_=>[(23,qa l.Attrs)]) (λ_=>[]) R λu e h' n=>Q6 24 (f:=AC.row) R Ac (.inl R) (.inl ⟨(.inl R),λ_=>R⟩) X,oC (λu=>[(19,rI l.Char),(21,rI l.Ref),(24,.own 24<|u 8)]) (λu=>[(24,some<|.arr (u 8) 39 2<|E.map AC.row)]) λu e h'=>Bt R SP (q:=[(0,_),(1,_),(2,_)]) (by exact⟨R,R,R,(.inl R),R,R,R,(.inl R),R,R,R,(.inl R),Za⟩) (cs:=[rI l.Char,rI l.Ref,.own 24<|u 8])<|by rfl,Za⟩) λu n1=>?_
  refine A8 [3,4,5,9,10,11,12,13,14,15,16,17,18,19,20,21,22,23,24,25] [5,8,24] ?_
  refine AG h6 λx5 F h7=>sQ R (FY R Ah.slice iL R iL λ_=>F) ?_
  refine AL.weak (by exact Ae.frz (e':=[(3,.own 8<|j 0),(4,rI A),(5,.ptr 5 (j 1) 0 0),(9,qb f1),(10,rL f1),(11,rI A),(12,rB<|(decide<|A<(f1.length:Int))),(13,rI A),(14,.rop (AD.row l) 0),(15,.agg<|A5 l),(16,.own 8<|j 0),(17,rI A),(18,.ptr 5 (j 1) 0 0),(19,rI l.Char),(20,.ptr 5 (j 1) 0 1),(21,rI l.Ref),(22,.ptr 5 (j 1) 0 2),(23,qa l.Attrs),(24,qa E),(25,.agg [rI l.Char,rI l.Ref,qa E]),(26,.ptr 8 (j 0) A.toNat 0)]) (h':=[(5,some<|.box (j 1) 37<|A5 l),(8,some<|.arr (j 0) 37 3<|q.map AD.row)]) 24 R ⟨jL,jL,jL,jL,jL,jL,jL,jL,jL,jL,jL,jL,jL,jL,jL,jL,jL,jL,.inl<|.inr<|.inr ⟨R,R⟩,.inr ⟨_,_,R,R,⟨.inl R,.inl R,.inr<|.inr ⟨R,R⟩,Za⟩⟩,jL,Za⟩ ⟨R,.inl R,R,.inl R,Za⟩) ?_
  refine Zk R R (SC (v:=(AD.mk l.Char l.Ref E)) R EY iL R F iL R R R R)<|aZ<|c8 _<|aG [3,9,10,11] [8] ?_
  exact aR<|AG h7 λx6 Y h8=>xA R Y<|mM R<|Zh<|ZI h8 (AH [(j 0),n1]) wk
 exact Zn<|J _ _ wk<|J1 _ (AH [(j 0),(j 1)])<|xH T U
theorem QY{u:Af}{A:List AD}{r:Af}{j:Nat}{l:Nat}{q:Nat}(h:HK u A=some r):Bb prog 95 3 [.ptr 1000 j 0 0,qb A] [(1000,some<|.box j 143 [.own 1001 l,.own 1002 q,rI u.cut]),(1001,some<|.arr l 56 4<|u.out.map AI.row),(1002,some<|.arr q 37 3<|u.add.map AD.row)] (λrr h'=>∃(i:Nat→Nat),rr=.tup []∧h'=[(1000,some<|.box j 143 [.own 1001<|i 0,.own 1002<|i 1,rI r.cut]),(1001,some<|.arr (i 0) 56 4<|r.out.map AI.row),(1002,some<|.arr (i 1) 37 3<|r.add.map AD.row)]):=by
 unfold HK at h
 refine EE func95 R R ntmps95 (Zv R) λO=>AG h λB C I=>AG I λE F J=>?_
 refine IA 8 [pO 4<|.ptr 1000 j 0 0,pO 5<|.ptr 1000 j 0 0,pO 6<|.ptr 1000 j 0 0,pO 7<|.ptr 1000 j 0 1,pO 8<|.own 1002 q,pO 9<|qb A,pO 10<|qb B,⟨some 11,(λw=>.own 1002<|w 7),some (1002,(λw=>some<|.arr (w 7) 37 3<|E.map AD.row)),[7]⟩] BA (by kernel_rfl) (by exact⟨λ_ _ h=>⟨R,λ_ _ e=>by cases e⟩,λ_ _ h=>⟨R,λ_ _ e=>by cases e⟩,λ_ _ h=>⟨R,λ_ _ e=>by cases e⟩,λ_ _ h=>⟨R,λ_ _ e=>by cases e⟩,λ_ _ h=>⟨R,λ_ _ e=>by cases e⟩,λ_ _ h=>⟨R,λ_ _ e=>by cases e⟩,λ_ _ h=>⟨R,λ_ _ e=>by cases e⟩,λ_ _ h=>⟨by simp only[h 7 R],λ_ _ e=>by cases e;simp only[h 7 R]⟩,Za⟩) R (by exact⟨oB [(0,.ptr 1000 j 0 0)] [(1000,some<|.box j 143 [.own 1001 l,.own 1002 q,rI u.cut])]<|AK R<|.inl R,oB [(0,.ptr 1000 j 0 0)] [(1000,some<|.box j 143 [.own 1001 l,.own 1002 q,rI u.cut])]<|AK R<|.inl R,oB [(5,.ptr 1000 j 0 0)] [(1000,some<|.box j 143 [.own 1001 l,.own 1002 q,rI u.cut])]<|B7 (ob:=.box _ _ _) R (.inl R) (λ_=>R) R,oB [(6,.ptr 1000 j 0 0)] [(1000,some<|.box j 143 [.own 1001 l,.own 1002 q,rI u.cut])]<|fB R Py (.inl R) (λ_=>R) R,oB [(7,.ptr 1000 j 0 1)] [(1000,some<|.box j 143 [.own 1001 l,.own 1002 q,rI u.cut])]<|AZ (a:=.own 1002 q) R B9 (.inl R) R R,oB [(1,qb A)] []<|AK R<|.inl R,oD (λ_=>[(9,qb A)]) (λ_=>[]) λw e h' n=>C0 (r:=qb B) (caps:=[]) (bs:=[qb A]) R (.inl R) R ⟨.inl ⟨(.inl R),R⟩,Za⟩ λ_=>mL<|C,oM (λ_=>[(8,.own 1002 q),(10,qb B)]) (λ_=>[(1002,some<|.arr q 37 3<|u.add.map AD.row)]) R λw e h' n=>Cj R Ah (.inl R) R (.inl ⟨(.inl R),λ_=>R⟩) F,Za⟩) λw M=>?_
 refine A8 [0,1,4,5,6,7,9,10,11] [1000,1001,1002] ?_
 refine sQ R (B7 (ob:=.box _ _ _) R iL fR R)<|sQ R (fB R Py iL fR R)<|Zk R R (Aj (ds:=[.own 1001 l,.own 1002<|w 7,rI u.cut]) R Tx iL R iL R R R R)<|Zh ?_
 exact CP.mk (s':=⟨[],[(1000,some<|.box j 143 [.own 1001 l,.own 1002<|w 7,rI u.cut]),(1001,some<|.arr l 56 4<|u.out.map AI.row),(1002,some<|.arr (w 7) 37 3<|E.map AD.row)],M,14⟩) wk<|Cc (λ(r:Af) rr h'=>∃(i:Nat→Nat),rr=.tup []∧h'=[(1000,some<|.box j 143 [.own 1001<|i 0,.own 1002<|i 1,rI r.cut]),(1001,some<|.arr (i 0) 56 4<|r.out.map AI.row),(1002,some<|.arr (i 1) 37 3<|r.add.map AD.row)]) J<|by exact⟨.tup [],[(1000,some<|.box j 143 [.own 1001 l,.own 1002<|w 7,rI u.cut]),(1001,some<|.arr l 56 4<|u.out.map AI.row),(1002,some<|.arr (w 7) 37 3<|E.map AD.row)],⟨_,R,Za⟩,⟨.inr R,.inr R,.inr R,Za⟩,R,R,AH [l,(w 7)],R,R⟩
theorem TJ{j r}(h:Gx j=some r):AS prog 147 (PZ j) (rI r):=by
 unfold Gx at h
 refine mF func147 ntmps147 R λu=>aU<|sS R (A2 (cs:=(Bn j)) 1 R iL R R)<|mA R<|aZ<|aT λq=>aU<|lF CH AJ R R<|xQ R<|aZ<|cI R h (λl=>?_) λl=>?_
 ·exact aU<|lF Ef B9 R R<|xL Ah R<|mA R<|aZ<|Zj<|yI l R
 exact Zd<|q _<|aU<|lF Ed AJ R R<|mA R<|aZ<|Zj<|yI l R
theorem Oj{d1 r}(h:IR d1=some r):AS prog 90 [qc d1] (rI r):=by
 unfold IR at h
 refine mF func90 ntmps90 R λn0=>aU<|mA R<|aZ<|aU<|mA R<|mA R<|aZ<|aS λK3 c3 a8=>aU<|mM R<|xL CT R<|mM R<|aZ<|Zf<|Jn h λo1 a0 aa a1=>?_
 have J1:∀(q:Int) (A:Int) (i5:NN),o1=.nrm (q,A)→K3 ⟨[(3,rI q),(4,rI A)],[],(i5 0),78⟩:=by
  intro q A i5 e
  have h1:=aa _ _ e
  refine c3 _<|aT λc5=>aU<|mM R<|sQ R (A9 R iL iL)<|mM R<|vM R<|vQ R (A9 R (iR R) iL)<|xO R<|aZ<|cI R h1 (λh2=>?_) λh2=>?_
  ·exact zI h2 R id
  exact Zd<|c5 _<|zI h2 R id
 refine Gk (λ(j:Int) (l:Int) (Z:Int) C=>⟨[(0,qc d1),(3,rI j),(4,rI l),(9,qc d1),(10,rL d1),(11,rI Z)],[],(C 0),78⟩) (AH [n0]) a0 wk ?_
 intro j l Z C v1 ab J
 have h3:If d1 j l Z=some v1:=ab;unfold If at h3
 refine aU<|xS R<|aZ<|aT λac=>cI R h3 (λh4=>?_) λh4=>?_
 ·refine Zd<|ac _<|aS λad ae E=>Zf<|Jn h4 λp1 af ag a2=>?_
  have J2:∀(u:Int) (B:Int) (i6:NN),p1=.nrm (u,B)→ad ⟨[(0,qc d1),(3,rI u),(4,rI B),(9,qc d1),(10,rL d1),(11,rI Z)],[],(i6 0),78⟩:=by
   intro u B i6 e
   have h5:=ag _ _ e
   exact ae _<|aR<|AG h5 λx4 ah h6=>xA R ah<|mM R<|Zh<|DN.mk h6 (AH [(i6 0)]) wk
  refine aU<|mM R<|AG af λM ai h7=>xI CT R ai<|xB ((Bn M)) EX R<|sS R (BF (cs:=EB) 6 R E8 R R)<|mA R<|Zk R R (Aj (ds:=(Bn M)) R FE iL R iL R R R R)<|aZ<|aT λaj=>aU<|xC EX R<|AG h7 λe1 ak h8=>cL (YK<|ak) R<|mA R<|aZ<|aU<|mM R<|xU R<|aZ<|cI R h8 (λh9=>?_) λh9=>?_
  ·refine aT λal=>aF [7] ?_
   exact aR<|mM R<|mA R<|aZ<|al _<|Zj<|yI (a1 _<|J _ (Zc<|a2 _ (Zc h9).symm).symm) R
  refine Zd<|aj _<|aS λan ao F=>aT λaq=>aG [0,3,4,5,6,9,10,11] [6] ?_
  refine aR<|mM R<|sQ R (A9 R iL iL)<|aZ<|aq _<|BP h9 λp2 a6 ar av=>?_
  have J3:∀(u2:Unit) (i7:NN),p2=.nrm u2→an ⟨[(0,qc d1),(3,rI j),(4,rI l),(6,.ptr 6 (C 0) 0 0),(9,qc d1),(10,rL d1),(11,rI Z)],[(6,some<|.box (C 0) 56<|Bn M)],(i7 0),78⟩:=by
   intro u2 i7 e
   have aw:=ar _ e
   refine ao _<|aS λax ay I=>aU<|lF CH AJ R R<|xU R<|aZ<|BH aw λp3 a7 az=>?_
   have J4:∀(w:Int) (i8:NN),p3=w→ax ⟨[(0,qc d1),(3,rI w),(4,rI l),(6,.ptr 6 (C 0) 0 0),(9,qc d1),(10,rL d1),(11,rI Z)],[(6,some<|.box (C 0) 56<|Bn M)],(i8 0),78⟩:=by
    intro w i8 e
    have b0:=az _ e
    refine ay _<|aU<|lF CH AJ R R<|xU R<|aZ<|cI R b0 (λO=>?_) λO=>?_
    ·exact aR<|mM R<|xC EX R<|AG O λr1 b1 b2=>cL (TJ<|b1) R<|AG b2 λx6 b3 b4=>xA R b3<|sQ R (LS R iL iL)<|mA R<|Zh<|E _ _ wk<|J2 _ _ (AH [(i8 0)]) (Zc b4).symm
    exact Zd<|E _ _ wk<|J2 _ _ (AH [(i8 0)]) (Zc O).symm
   refine aC R (λT=>?_) λT=>?_
   ·have U:=CF T a7
    exact aR<|mM R<|lF Ed AJ R R<|AG U λx7 b5 b6=>xA R b5<|sQ R (LS R iL iL)<|mA R<|Zh<|I _ _ wk<|J4 _ (AH [(i7 0)]) (Zc b6).symm
   ·have U:=CA T a7
    exact Zd<|I _ _ wk<|J4 _ (AH [(i7 0)]) (Zc U).symm
  refine aC R (λV=>?_) λV=>?_
  ·have X:=CF V a6
   refine aU<|mM R<|mM R<|AG X λx8 b7 b8=>sQ R (CG R iL iL λ_=>b7)<|AG b8 λx9 b9 ba=>xI CT R b9<|xB ((Bn x9)) EX R<|sS R (BF (cs:=EB) 8 R E8 R R)<|Zk R R (Aj (ds:=(Bn x9)) R FE iL R iL R R R R)<|aZ<|aU<|lF CH AJ R R<|lF CH AJ R R<|xQ R<|mM R<|vF CH AJ R R<|vQ R (Ct R (iR R) iL)<|vQ R (AK R<|iR R)<|wQ R (fB R D7 iL fR R)<|wQ R (AZ (a:=qa x9.Attrs) R BD (iR R) R R)<|wQ R (fB R D7 iL fR R)<|wQ R (AZ (a:=qa M.Attrs) R BD (iR R) R R)<|AG ba λr2 bb bc=>AL.stepW (.two R R R) R R (Dy (r:=rB r2) (caps:=[]) (bs:=[qa x9.Attrs,qa M.Attrs]) R iL R ⟨⟨_,(iR R),.d R⟩,⟨_,(iR R),.d R⟩,Za⟩ (λhg=>UF<|AU bb hg) R)<|vQ R (CW R (iR R)<|iR R)<|xN R<|mM R<|vF CH AJ R R<|vQ R (Am R (iR R) iL)<|vQ R (AK R<|iR R)<|wQ R (fB R CH iL fR R)<|wQ R (AZ (a:=rI M.Kind) R AJ (iR R) R R)<|wQ R (Am R (iR R) iL)<|vQ R (BI R (iR R)<|iR R)<|xO R<|aZ<|cI R bc (λY=>?_) λY=>?_
   ·refine aT λbd=>aF [] ?_
    exact aR<|mA R<|aZ<|bd _<|Zj<|yI (a1 _<|J _ (Zc<|a2 _ (Zc<|av _ (Zc Y).symm).symm).symm) R
   exact Zd<|F _ _ wk<|J3 _ (AH [((C 0)+2)]) (Zc Y).symm
  ·have X:=CA V a6
   exact Zd<|F _ _ wk<|J3 _ (AH [((C 0)+1)]) (Zc X).symm
 exact Zn<|a8 _ _ wk<|J1 _ _ (AH [(C 0)])<|xH J h4
theorem RU{w:Af}{r:(List AI) × Int × Af}{j:Nat}{l:Nat}{q:Nat}(h:IJ w=some r):Bb prog 98 3 [.ptr 1000 j 0 0] [(1000,some<|.box j 143 [.own 1001 l,.own 1002 q,rI w.cut]),(1001,some<|.arr l 56 4<|w.out.map AI.row),(1002,some<|.arr q 37 3<|w.add.map AD.row)] (λrr h'=>∃(i:Nat→Nat),rr=.tup [qc r.1,rI r.2.1]∧h'=[(1000,some<|.box j 143 [qc r.2.2.out,cZ,rI r.2.2.cut])]):=by
 unfold IJ at h
 refine EE func98 R R ntmps98 (Zv R) λU=>aU<|mA R<|mA R<|aZ<|aT λF=>aR<|mM R<|AG h λu A I=>?_
 refine Zo [1000,1001,1002] (hc:=[(1000,some<|.box j 143 [.own 1001 l,.own 1002 q,rI w.cut]),(1001,some<|.arr l 56 4<|w.out.map AI.row),(1002,some<|.arr q 37 3<|w.add.map AD.row)]) (bs:=[.ptr 1000 j 0 0]) (caps:=[]) R R R R iL R ⟨.inl ⟨iL,R⟩,Za⟩ ⟨R,R,R,R,R,R,R,R,R,Za⟩ (by decide) (eC A) ?_
 intro V E
 refine A8 [0,2,3,4,5] [1000,1001] ?_
 refine aZ<|F _<|aT λJ=>aU<|mM R<|sQ R (B7 (ob:=.box _ _ _) R iL fR R)<|lF GW EM R R<|AG I λX B M=>cL (Oj<|B) R<|xU R<|aZ<|cI R M (λC=>?_) λC=>?_
 ·refine aT λO=>aG [] [1000,1001] ?_
  refine aR<|mA R<|mA R<|oZ O ?_
  exact Zj<|CP.mk (s':=⟨[(2,.r<|.sl []),(3,rI 3)],[(1000,some<|.box j 143 [qc u.out,cZ,rI u.cut])],E,16⟩) (Zm (by exact Ae.frz (e':=[(2,cZ),(3,rI 3)]) (h':=[(1000,some<|.box j 143 [qc u.out,cZ,rI u.cut])]) 1001 R ⟨jL,jL,Za⟩ ⟨R,.inr<|.inr<|.inl ⟨_,_,_,_,R,R,⟨.inr<|.inr ⟨R,R⟩,.inl R,.inl R,Za⟩⟩,Za⟩)<|by exact ZE ⟨.inl<|.inr<|.inr ⟨R,R⟩,jL,Za⟩ ⟨.inl R,Za⟩ nL)<|Cc (λ(r:(List AI) × Int × Af) rr h'=>∃(i:Nat→Nat),rr=.tup [qc r.1,rI r.2.1]∧h'=[(1000,some<|.box j 143 [qc r.2.2.out,cZ,rI r.2.2.cut])]) C<|by exact⟨.tup [.r<|.sl [],rI 3],[(1000,some<|.box j 143 [qc u.out,cZ,rI u.cut])],⟨_,R,⟨R,R,Za⟩⟩,⟨.inr R,Za⟩,R,R,AH [],R,R⟩
 refine Zd<|J _<|aT λT=>aG [0] [1000,1001] ?_
 refine aR<|mM R<|sQ R (B7 (ob:=.box _ _ _) R iL fR R)<|lF GW EM R R<|mA R<|mA R<|oZ T ?_
 exact Zj<|CP.mk (s':=⟨[(2,qc u.out),(3,rI 0)],[(1000,some<|.box j 143 [qc u.out,cZ,rI u.cut])],E,16⟩) (Zm (by exact Ae.frz (e':=[(0,.ptr 1000 j 0 0),(2,qc u.out),(3,rI 0),(12,.ptr 1000 j 0 0),(13,.ptr 1000 j 0 0),(14,.ptr 1000 j 0 0),(15,qc u.out)]) (h':=[(1000,some<|.box j 143 [qc u.out,cZ,rI u.cut])]) 1001 R ⟨jL,.inl<|.inr<|.inr ⟨R,R⟩,jL,jL,jL,jL,.inl<|.inr<|.inr ⟨R,R⟩,Za⟩ ⟨R,.inr<|.inr<|.inl ⟨_,_,_,_,R,R,⟨.inr<|.inr ⟨R,R⟩,.inl R,.inl R,Za⟩⟩,Za⟩) wk)<|Cc (λ(r:(List AI) × Int × Af) rr h'=>∃(i:Nat→Nat),rr=.tup [qc r.1,rI r.2.1]∧h'=[(1000,some<|.box j 143 [qc r.2.2.out,cZ,rI r.2.2.cut])]) C<|by exact⟨.tup [qc u.out,rI 0],[(1000,some<|.box j 143 [qc u.out,cZ,rI u.cut])],⟨_,R,⟨R,R,Za⟩⟩,⟨.inr R,Za⟩,R,R,AH [],R,R⟩
theorem ZM{d1 r}(h:Ir d1=some r):AS prog 89 [qc d1] (.tup [qc r.1,rI r.2]):=by
 unfold Ir at h
 refine mF func89 ntmps89 R λl=>aU<|mA R<|mA R<|aZ<|aU<|sS R (BF (cs:=Mn) 4 R TF R R)<|aZ<|aS λK3 c3 a2=>aU<|mM R<|xL CT R<|mM R<|aZ<|Zf<|BP h λo1 V a6 X=>?_
 have J1:∀(A:Af) (u:NN),o1=.nrm A→K3 ⟨[(4,.ptr 4 l 0 0)],[(4,some<|.box l 143 [.own 3040<|u 0,.own 3041<|u 1,rI A.cut]),(3040,some<|.arr (u 0) 56 4<|A.out.map AI.row),(3041,some<|.arr (u 1) 37 3<|A.add.map AD.row)],(u 2),76⟩:=by
  intro A u e
  have h1:=a6 _ e
  refine c3 _<|aT λc5=>aR<|Kc h1 λr1 r2 w5 a7 h2=>?_
  refine Zo [4,3040,3041] (hc:=[(1000,some<|.box l 143 [.own 1001<|u 0,.own 1002<|u 1,rI A.cut]),(1001,some<|.arr (u 0) 56 4<|A.out.map AI.row),(1002,some<|.arr (u 1) 37 3<|A.add.map AD.row)]) (bs:=[.ptr 1000 l 0 0]) (caps:=[]) R R R R iL R ⟨.inl ⟨iL,R⟩,Za⟩ ⟨R,R,R,R,R,R,R,R,R,Za⟩ (by decide) (RU a7) ?_
  intro i6 n1
  refine A8 [4,73] [4] ?_
  exact xX R<|xX R<|mA R<|mA R<|aZ<|c5 _<|Zj<|DH (P:=prog) (λ(r:(List AI) × Int)=>qc r.1) (λ(r:(List AI) × Int)=>rI r.2) h2 iL (.t<|.d R)<|.t<|.d R
 refine Dd (λ(Y:Int) (q:Af) j=>⟨[(4,.ptr 4 l 0 0),(8,qc d1),(9,rL d1),(10,rI Y)],[(4,some<|.box l 143 [.own 3040<|j 0,.own 3041<|j 1,rI q.cut]),(3040,some<|.arr (j 0) 56 4<|q.out.map AI.row),(3041,some<|.arr (j 1) 37 3<|q.add.map AD.row)],(j 2),76⟩) (AH [(l+1),(l+2),(l+3)]) V (Zm (Zm (ZK 4 0 3040 56 4 (by decide) R R<|by decide)<|by exact ZE (e':=[(0,qc d1),(2,cZ),(3,rI 0),(4,.ptr 4 l 0 0),(8,qc d1),(9,rL d1),(10,rI 0)]) (h':=[(4,some<|.box l 143 [.own 3040<|l+1,cZ,rI 0]),(3040,some<|.arr (l+1) 56 4<|([]:List AI).map AI.row)]) ⟨jL,jL,jL,jL,jL,jL,jL,Za⟩ ⟨.inl R,.inl R,Za⟩ nL)<|Zm (Zm (ZK 4 1 3041 37 3 (by decide) R R<|by decide)<|by exact ZE (e':=[(0,qc d1),(2,cZ),(3,rI 0),(4,.ptr 4 l 0 0),(8,qc d1),(9,rL d1),(10,rI 0)]) (h':=[(4,some<|.box l 143 [.own 3040<|l+1,.own 3041<|l+2,rI 0]),(3040,some<|.arr (l+1) 56 4<|([]:List AI).map AI.row),(3041,some<|.arr (l+2) 37 3<|([]:List AD).map AD.row)]) ⟨jL,jL,jL,jL,jL,jL,jL,Za⟩ ⟨.inl R,.inl R,.inl R,Za⟩ nL) wk) ?_
 intro Y q j v1 a8 C
 have h3:FX d1 Y q=some v1:=a8;unfold FX at h3
 refine aU<|xS R<|aZ<|aT λc7=>cI R h3 (λh4=>?_) λh4=>?_
 ·refine Zd<|c7 _<|aS λK8 c8 E=>Zf<|BP h4 λp1 aa ab Z=>?_
  have J2:∀(w6:Af) (w:NN),p1=.nrm w6→K8 ⟨[(4,.ptr 4 l 0 0),(8,qc d1),(9,rL d1),(10,rI Y)],[(4,some<|.box l 143 [.own 3040<|w 0,.own 3041<|w 1,rI w6.cut]),(3040,some<|.arr (w 0) 56 4<|w6.out.map AI.row),(3041,some<|.arr (w 1) 37 3<|w6.add.map AD.row)],(w 2),76⟩:=by
   intro w6 w e
   have h5:=ab _ e
   exact c8 _<|aR<|AG h5 λx4 ac h6=>xA R ac<|mM R<|Zh<|ZI h6 (AH [(w 0),(w 1),(w 2)]) wk
  refine aU<|AG aa λF ad h7=>xI CT R ad<|xB ((Bn F)) EX R<|sS R (BF (cs:=EB) 6 R E8 R R)<|Zk R R (Aj (ds:=(Bn F)) R FE iL R iL R R R R)<|aZ<|aU<|xC EX R<|AG h7 λe1 ae h8=>cL (YK<|ae) R<|mA R<|aZ<|aS λaf ag B=>aT λah=>aR<|lF CH AJ R R<|xQ R<|mM R<|vF Ef B9 R R<|vQ R (Bk R Ah.slice<|iR R)<|vQ R (Am R (iR R) iL)<|xN R<|mM R<|vM R<|vQ R (Am R (iR R) iL)<|xN R<|mM R<|vF CH AJ R R<|vQ R (Ct R (iR R) iL)<|vQ R (AK R<|iR R)<|wQ R (fB R Ed iL fR R)<|wQ R (AZ (a:=rI F.N) R AJ (iR R) R R)<|wQ R (Am R (iR R) iL)<|vQ R (BI R (iR R)<|iR R)<|vQ R (AK R<|iR R)<|wQ R (AK R iL)<|wQ R (Am R (iR R) iL)<|vQ R (BI R (iR R)<|iR R)<|xO R<|aZ<|ah _<|BH h8 λp2 a0 ai=>?_
  have J3:∀(e2:Int) (i8:NN),p2=e2→af ⟨[(4,.ptr 4 l 0 0),(6,.ptr 6 (j 2) 0 0),(7,rI e2),(8,qc d1),(9,rL d1),(10,rI Y)],[(4,some<|.box l 143 [.own 3040<|j 0,.own 3041<|j 1,rI q.cut]),(6,some<|.box (j 2) 56<|Bn F),(3040,some<|.arr (j 0) 56 4<|q.out.map AI.row),(3041,some<|.arr (j 1) 37 3<|q.add.map AD.row)],(i8 0),76⟩:=by
   intro e2 i8 e
   have h9:=ai _ e
   refine ag _<|aT λaj=>aU<|mM R<|xU R<|aZ<|cI R h9 (λI=>?_) λI=>?_
   ·exact aU<|mM R<|mA R<|mA R<|aZ<|Zj<|DH (P:=prog) (λ(r:(List AI) × Int)=>qc r.1) (λ(r:(List AI) × Int)=>rI r.2) (X _<|C _ (Zc<|Z _ (Zc I).symm).symm) iL (.t<|.one<|.nil)<|.t<|.d R
   refine Zd<|aj _<|aU<|lF CH AJ R R<|aZ<|Zf<|aU<|xQ R<|mA R<|aZ<|cI R I (λJ=>?_) λJ=>?_
   ·refine aR<|lF Ed AJ R R<|lF D7 BD R R<|AG J λw7 ak al=>?_
    refine Zo [4,3040,3041] (hc:=[(1000,some<|.box l 143 [.own 1001<|j 0,.own 1002<|j 1,rI q.cut]),(1001,some<|.arr (j 0) 56 4<|q.out.map AI.row),(1002,some<|.arr (j 1) 37 3<|q.add.map AD.row)]) (bs:=[.ptr 1000 l 0 0,rI F.N,qa F.Attrs]) (caps:=[]) R R R R iL R ⟨.inl ⟨iL,R⟩,.inl ⟨iL,R⟩,.inl ⟨iL,R⟩,Za⟩ ⟨R,R,R,R,R,R,R,R,R,Za⟩ (by decide) (NV ak) ?_
    intro i9 n2
    refine A8 [4,6,7,8,9,10,46,47,49,50,60,61,62,63,64,65,66] [4,6,3040,3041] ?_
    exact Zh<|E _ _ wk<|J2 _ (AH [(i9 0),(i9 1),n2]) (Zc al).symm
   refine aU<|xQ R<|mA R<|aZ<|cI R J (λM=>?_) λM=>?_
   ·refine aG [4,6,8,9,10] [4,6,3040,3041] ?_
    refine aR<|lF Ef B9 R R<|AG M λw8 an ao=>?_
    refine Zo [4,3040,3041] (hc:=[(1000,some<|.box l 143 [.own 1001<|j 0,.own 1002<|j 1,rI q.cut]),(1001,some<|.arr (j 0) 56 4<|q.out.map AI.row),(1002,some<|.arr (j 1) 37 3<|q.add.map AD.row)]) (bs:=[.ptr 1000 l 0 0,qb F.Elems]) (caps:=[]) R R R R iL R ⟨.inl ⟨iL,R⟩,.inl ⟨iL,R⟩,Za⟩ ⟨R,R,R,R,R,R,R,R,R,Za⟩ (by decide) (QY an) ?_
    intro a1 n3
    refine A8 [4,6,8,9,10,69,70,71] [4,6,3040,3041] ?_
    exact Zh<|E _ _ wk<|J2 _ (AH [(a1 0),(a1 1),n3]) (Zc ao).symm
   refine aT λaq=>aG [4,6,8,9,10] [4,6,3040,3041] ?_
   refine aR<|lF Fv AJ R R<|lF Ed AJ R R<|AG M λx6 ar av=>xA R ar<|sQ R (fB R Fv iL fR R)<|Zk R R (Aj (ds:=[.own 3040<|j 0,.own 3041<|j 1,rI x6]) R Gz iL R iL R R R R)<|aZ<|aq _<|aU<|lF Fv AJ R R<|sQ R (A9 R iL iL)<|aZ<|cI R av (λO=>?_) λO=>?_
   ·refine aT λaw=>aF [] ?_
    exact aR<|mA R<|mA R<|aZ<|aw _<|Zj<|DH (P:=prog) (λ(r:(List AI) × Int)=>qc r.1) (λ(r:(List AI) × Int)=>rI r.2) (X _<|C _ (Zc<|Z _ (Zc O).symm).symm) iL (.t<|.one<|.nil)<|.t<|.d R
   exact Zd<|E _ _ wk<|J2 _ (AH [(j 0),(j 1),(i8 0)]) (Zc O).symm
  refine aC R (λT=>?_) λT=>?_
  ·have U:=CF T a0
   refine aG [4,6,8,9,10] [4,6,3040,3041] ?_
   exact aR<|lF D7 BD R R<|AG U λe3 ax ay=>cL (Yy<|ax) R<|mA R<|Zh<|B _ _ wk<|J3 _ (AH [((j 2)+1)]) (Zc ay).symm
  ·have U:=CA T a0
   exact Zd<|B _ _ wk<|J3 _ (AH [((j 2)+1)]) (Zc U).symm
 exact Zn<|a2 _ _ wk<|J1 _ (AH [(j 0),(j 1),(j 2)])<|xH C h4
theorem kq{f1 p a r}(h:QQ f1 p a=some r):AS prog 49 [qb f1,.r<|.sl<|p.map<|Ai .i64,rS a] (qc r):=by
 unfold QQ at h
 refine mF func49 ntmps49 R λn0=>aU<|mA R<|aZ<|aU<|mM R<|xL Ah R<|AG h λa7 F h1=>sS R (S3 18 R Ng (f:=EZ) (z0:=false) io iL iL F)<|mA R<|aZ<|aS λK3 c3 a8=>aU<|mM R<|xL CN R<|mM R<|aZ<|Zf<|BH h1 λo1 Y aa=>?_
 have J1:∀(j:List Bool) (q:NN),o1=j→K3 ⟨[(0,qb f1),(2,rS a),(7,.own 18<|q 0)],[(18,some<|.arr (q 0) 4 1<|j.map EZ)],(q 1),69⟩:=by
  intro j q e
  have h2:=aa _ e
  refine c3 _<|aU<|mA R<|aZ<|aS λK6 c6 ab=>aU<|mM R<|xL Ah R<|mM R<|aZ<|Zf<|BH h2 λo2 Z ac=>?_
  have J2:∀(u:List AI) (I:NN),o2=u→K6 ⟨[(10,.own 5010<|I 0)],[(5010,some<|.arr (I 0) 56 4<|u.map AI.row)],(I 1),69⟩:=by
   intro u I e
   have h3:=ac _ e
   refine c6 _<|aT λc8=>aR<|mM R ?_
   refine AL.weak (by exact Ae.frz (e':=[(10,qc u),(64,qc u)]) (h':=[]) 5010 R ⟨.inl<|.inr<|.inr ⟨R,R⟩,.inl<|.inr<|.inr ⟨R,R⟩,Za⟩ Za) ?_
   exact D5 h3 λr1 r2 ad h4=>sS R (C0 (r:=.tup [qc r1,rI r2]) (caps:=[]) (bs:=[qc u]) R iL R ⟨.inl ⟨iL,R⟩,Za⟩ λ_=>ZM<|ad)<|mM R<|xX R<|xX R<|mA R<|mA R<|aZ<|c8 _<|aU<|mM R<|mA R<|aZ<|Zj<|DU (P:=prog) (λ(r:(List AI))=>qc r) h4 iL<|.t<|.d R
  refine Dd (λ(C:Int) (l:List AI) i8=>⟨[(2,rS a),(7,.own 18<|q 0),(10,.own 5010<|i8 0),(29,qb f1),(30,rL f1),(31,rI C)],[(18,some<|.arr (q 0) 4 1<|j.map EZ),(5010,some<|.arr (i8 0) 56 4<|l.map AI.row)],(i8 1),69⟩) (AH [(q 1),((q 1)+1)]) Z (Zm (Zm (IE 10 5010 56 4 (by decide) R)<|by exact ZE (e':=[(0,qb f1),(2,rS a),(7,.own 18<|q 0),(10,.own 5010<|q 1),(29,qb f1),(30,rL f1),(31,rI 0)]) (h':=[(18,some<|.arr (q 0) 4 1<|j.map EZ),(5010,some<|.arr (q 1) 56 4<|([]:List AI).map AI.row)]) ⟨jL,jL,jL,jL,jL,jL,jL,Za⟩ ⟨.inl R,.inl R,Za⟩ nL) wk) ?_
  intro C l i8 v1 ae af
  have h5:KE f1 a j C l=some v1:=ae;unfold KE at h5
  refine aU<|xS R<|aZ<|aT λag=>cI R h5 (λh6=>?_) λh6=>?_
  ·refine Zd<|ag _<|aT λah=>Zf<|aU<|mM R<|AG h6 λX ai h7=>xI Ah R ai<|xB ((A5 X)) Dc R<|sS R (BF (cs:=Fh) 12 R Ft R R)<|mA R<|Zk R R (Aj (ds:=(A5 X)) R EY iL R iL R R R R)<|aZ<|aT λaj=>aR ?_
   refine sQ R (Bt R LX (q:=[(0,_),(1,_)]) (by exact⟨R,R,R,iL,R,R,R,iL,Za⟩) (cs:=VS)<|by rfl) ?_
   refine sS R (BF (cs:=EB) 13 R E8 R R)<|Zk R R (Aj (ds:=VS) R FE iL R iL R R R R)<|aZ<|aj _<|aS λak al E=>Zf<|BH h7 λp1 an ao=>?_
   have J3:∀(A:AI) (B:NN),p1=A→ak ⟨[(2,rS a),(7,.own 18<|q 0),(10,.own 5010<|i8 0),(13,.ptr 13 ((i8 1)+1) 0 0),(29,qb f1),(30,rL f1),(31,rI C)],[(13,some<|.box ((i8 1)+1) 56 [rI A.Kind,rI A.N,.own 39<|B 0,cZ]),(18,some<|.arr (q 0) 4 1<|j.map EZ),(39,some<|.arr (B 0) 39 2<|A.Attrs.map AC.row),(5010,some<|.arr (i8 0) 56 4<|l.map AI.row)],(B 1),69⟩:=by
    intro A B e
    have h8:=ao _ e
    refine al _<|aR<|mM R<|xC EX R ?_
    refine AL.weak (by exact Ae.frz (e':=[(2,rS a),(7,.own 18<|q 0),(10,.own 5010<|i8 0),(13,.ptr 13 ((i8 1)+1) 0 0),(29,qb f1),(30,rL f1),(31,rI C),(58,.own 5010<|i8 0),(59,.agg [rI A.Kind,rI A.N,qa A.Attrs,cZ])]) (h':=[(13,some<|.box ((i8 1)+1) 56 [rI A.Kind,rI A.N,qa A.Attrs,cZ]),(18,some<|.arr (q 0) 4 1<|j.map EZ),(5010,some<|.arr (i8 0) 56 4<|l.map AI.row)]) 39 R ⟨jL,jL,jL,jL,jL,jL,jL,jL,.inr ⟨_,_,R,R,⟨.inl R,.inl R,.inr<|.inr ⟨R,R⟩,.inl R,Za⟩⟩,Za⟩ ⟨R,.inr<|.inr<|.inl ⟨_,_,_,_,R,R,⟨.inl R,.inl R,.inr<|.inr ⟨R,R⟩,.inl R,Za⟩⟩,R,.inl R,R,.inl R,Za⟩) ?_
    exact sS R (B3 60 R CT (f:=AI.row) (l:=([(AI.mk A.Kind A.N A.Attrs [])]:List AI)) ⟨R,⟨_,iL,R⟩,Za⟩ R (λ_=>R) R)<|AG h8 λb7 O h9=>sS R (Cj R CT iL R (.inr<|.inl ⟨_,_,iL,R⟩) O)<|mA R<|aZ<|ah _<|aR<|AG h9 λx8 aq ar=>xA R aq<|mM R<|Zh<|ZI ar (AH [((B 1)+1),((B 1)+2)]) wk
   refine aU<|mM R<|mM R<|AG an λx9 a0 av=>sQ R (FY R Ng.slice iL R iL λ_=>a0)<|sQ R (Ll (d:=.bool x9) R UW iL fR (λ_=>a0) R)<|sQ R (A3 R iL)<|mA R<|aZ<|cI R av (λT=>?_) λT=>?_
   ·refine Zd ?_
    exact E _ _ (Zm (Zm (ZK 13 2 39 39 2 (by decide) R R<|by decide)<|by exact ZE (e':=[(2,rS a),(7,.own 18<|q 0),(10,.own 5010<|i8 0),(11,rI C),(12,.ptr 12 (i8 1) 0 0),(13,.ptr 13 ((i8 1)+1) 0 0),(29,qb f1),(30,rL f1),(31,rI C),(32,rB<|(decide<|C<(f1.length:Int))),(33,rI C),(34,.rop (AD.row X) 0),(35,.agg<|A5 X),(36,.agg VS),(41,rB<|(!x9)),(42,.own 18<|q 0),(43,rI C),(44,.ptr 18 (q 0) C.toNat 0),(45,rB x9),(46,rB<|(!x9))]) (h':=[(12,some<|.box (i8 1) 37<|A5 X),(13,some<|.box ((i8 1)+1) 56 [rI 0,rI 1,.own 39<|(i8 1)+2,cZ]),(18,some<|.arr (q 0) 4 1<|j.map EZ),(39,some<|.arr ((i8 1)+2) 39 2<|([]:List AC).map AC.row),(5010,some<|.arr (i8 0) 56 4<|l.map AI.row)]) ⟨jL,jL,jL,jL,jL,jL,jL,jL,jL,jL,jL,jL,jL,jL,jL,jL,jL,jL,jL,jL,Za⟩ ⟨.inl R,.inl R,.inl R,.inl R,.inl R,Za⟩ nL) wk)<|J3 _ (AH [((i8 1)+2),((i8 1)+3)]) (Zc T).symm
   refine aT λaw=>aG [2,7,10,12,13,29,30,31] [12,13,18,5010] ?_
   refine aR<|mM R<|sQ R (Cz R iL iL)<|mM R<|vF DA BD R R<|AG T λr3 ax ay=>vL (λhg=>Sk<|AU ax hg) R<|vM R<|vQ R (Cz R (iR R)<|iR R)<|xO R<|mA R<|aZ<|aw _<|cI R ay (λU=>?_) λU=>?_
   ·refine aR<|sQ R (fB R CH iL fR R)<|Zk R R (Aj (ds:=[rI 2,rI 1,cZ,cZ]) R Gz iL R iL R R R R)<|Zh ?_
    exact E _ _ (Zm (Zm (ZK 13 2 39 39 2 (by decide) R R<|by decide)<|by exact ZE (e':=[(2,rS a),(7,.own 18<|q 0),(10,.own 5010<|i8 0),(12,.ptr 12 (i8 1) 0 0),(13,.ptr 13 ((i8 1)+1) 0 0),(29,qb f1),(30,rL f1),(31,rI C),(47,rB<|((a=[])||(r3=a))),(48,rS a),(49,rB<|(decide<|a=[])),(50,rB<|(decide<|a=[])),(56,rB<|((a=[])||(r3=a))),(57,.ptr 13 ((i8 1)+1) 0 0)]) (h':=[(12,some<|.box (i8 1) 37<|A5 X),(13,some<|.box ((i8 1)+1) 56 [rI 2,rI 1,.own 39<|(i8 1)+2,cZ]),(18,some<|.arr (q 0) 4 1<|j.map EZ),(39,some<|.arr ((i8 1)+2) 39 2<|([]:List AC).map AC.row),(5010,some<|.arr (i8 0) 56 4<|l.map AI.row)]) ⟨jL,jL,jL,jL,jL,jL,jL,jL,jL,jL,jL,jL,jL,jL,Za⟩ ⟨.inl R,.inl R,.inl R,.inl R,.inl R,Za⟩ nL) wk)<|J3 _ (AH [((i8 1)+2),((i8 1)+3)]) (Zc U).symm
   refine aR<|mM R ?_
   refine sQ R (Bt R GJ (q:=[(0,_),(1,_)]) (by exact⟨R,R,R,iL,R,R,R,iL,Za⟩) (cs:=[.r<|.str [99,117,116],rS a])<|by rfl) ?_
   exact sS R (B3 39 R Ac (f:=AC.row) (l:=([(AC.mk [99,117,116] a)]:List AC)) ⟨R,⟨_,iL,R⟩,Za⟩ R (λ_=>R) R)<|sQ R (fB R D7 iL fR R)<|Zk R R (Aj (ds:=[rI 0,rI 1,.own 39<|(i8 1)+2,cZ]) R Gf iL R iL R R R R)<|Zh<|E _ _ wk<|J3 _ (AH [((i8 1)+2),((i8 1)+3)]) (Zc U).symm
  exact Zn<|ab _ _ wk<|J2 _ (AH [(i8 0),(i8 1)])<|xH af h6
 refine Dd (λ(x2:Int) (w:List Bool) J=>⟨[(0,qb f1),(2,rS a),(7,.own 18<|J 0),(19,.r<|.sl<|p.map<|Ai .i64),(20,rL p),(21,rI x2)],[(18,some<|.arr (J 0) 4 1<|w.map EZ)],(J 1),69⟩) (AH [n0,(n0+1)]) Y wk ?_
 intro x2 w J v2 az b0
 have a1:KG p x2 w=some v2:=az;unfold KG at a1
 refine aU<|xS R<|aZ<|aT λb1=>cI R a1 (λV=>?_) λV=>?_
 ·exact Zd<|b1 _<|aT λb2=>Zf<|aU<|AG V λb3 a2 b4=>xI CN R a2<|xV (.int .i64 b3) AJ R<|mA R<|aZ<|aR<|mM R<|mM R<|AG b4 λb8 M b5=>sQ R (FY R Ng.slice iL R iL λ_=>M)<|Zk R R (Tn (v:=true) R rf iL R M iL R R R R)<|aZ<|b2 _<|aR<|AG b5 λb9 a6 b6=>xA R a6<|mM R<|Zh<|ZI b6 (AH [(J 0),(J 1)]) wk
 exact Zn<|a8 _ _ wk<|J1 _ (AH [(J 0),(J 1)])<|xH b0 V
theorem iT{p a r}(h:Nz p a=some r):AS prog 50 [.r<|.sl<|p.map<|Ai .i64,rI a] (rI r):=by
 unfold Nz at h
 refine mF func50 ntmps50 R λF=>aU<|mA R<|aZ<|aT λw=>aU<|mM R<|xQ R<|aZ<|cI R h (λj=>?_) λj=>?_
 ·exact zI j R id
 exact Zd<|w _<|aU<|mM R<|mM R<|AG j λI l A=>sQ R (CG R iL iL λ_=>l)<|AG A λB q C=>xI CN R q<|xV (.int .i64 B) AJ R<|AG C λJ u E=>xA R u<|mA R<|aZ<|Zj<|yI E R
theorem V1{u:List AC}{w:AC}{A:AC}{r:(List AC)}{j:Nat}{l:Nat}(h:Ku u w A=some r):Bb prog 121 2 [.agg<|BO w,.agg<|BO A,.ptr 1000 j 0 0] [(1000,some<|.box j 35 [.own 1001 l]),(1001,some<|.arr l 39 2<|u.map AC.row)] (λrr h'=>∃(i:Nat→Nat),rr=.tup []∧h'=[(1000,some<|.box j 35 [.own 1001<|i 0]),(1001,some<|.arr (i 0) 39 2<|r.map AC.row)]):=by
 unfold Ku at h
 refine EE func121 R R ntmps121 (Zv R) λq=>aU<|sS R (A2 (cs:=(BO w)) 3 R iL R R)<|sS R (A2 (cs:=(BO A)) 4 R iL R R)<|aZ<|Zf<|aU<|lF B1 A6 R R<|sQ R (Cz R iL iL)<|mA R<|aZ<|cI R h (λB=>?_) λB=>?_
 ·refine aR<|sQ R (AZ (a:=.own 1001 l) R BD iL R R)<|xC CV R<|sS R (B3 11 R Ac (f:=AC.row) (l:=([w]:List AC)) ⟨R,⟨_,iL,R⟩,Za⟩ R (λ_=>R) R)<|AG B λI C M=>sS R (Cj R Ac iL R (.inr<|.inl ⟨_,_,iL,R⟩) C)<|Zk R R (Aj (ds:=[.own 1001<|q+3]) R Gf iL R iL R R R R)<|Zh ?_
  exact CP.mk (s':=⟨[],[(1000,some<|.box j 35 [.own 1001<|q+3]),(1001,some<|.arr (q+3) 39 2<|I.map AC.row)],(q+4),21⟩) wk<|Cc (λ(r:(List AC)) rr h'=>∃(i:Nat→Nat),rr=.tup []∧h'=[(1000,some<|.box j 35 [.own 1001<|i 0]),(1001,some<|.arr (i 0) 39 2<|r.map AC.row)]) M<|by exact⟨.tup [],[(1000,some<|.box j 35 [.own 1001<|q+3]),(1001,some<|.arr (q+3) 39 2<|I.map AC.row)],⟨_,R,Za⟩,⟨.inr R,.inr R,Za⟩,R,R,AH [(q+3)],R,R⟩
 refine aU<|lF Jo A6 R R<|sQ R (DJ R iL iL)<|mA R<|aZ<|cI R B (λE=>?_) λE=>?_
 ·refine aG [2,4] [4,1000,1001] ?_
  refine aR<|sQ R (AZ (a:=.own 1001 l) R BD iL R R)<|xC CV R<|sS R (B3 19 R Ac (f:=AC.row) (l:=([A]:List AC)) ⟨R,⟨_,iL,R⟩,Za⟩ R (λ_=>R) R)<|AG E λJ F O=>sS R (Cj R Ac iL R (.inr<|.inl ⟨_,_,iL,R⟩) F)<|Zk R R (Aj (ds:=[.own 1001<|q+3]) R Gf iL R iL R R R R)<|Zh ?_
  exact CP.mk (s':=⟨[],[(1000,some<|.box j 35 [.own 1001<|q+3]),(1001,some<|.arr (q+3) 39 2<|J.map AC.row)],(q+4),21⟩) wk<|Cc (λ(r:(List AC)) rr h'=>∃(i:Nat→Nat),rr=.tup []∧h'=[(1000,some<|.box j 35 [.own 1001<|i 0]),(1001,some<|.arr (i 0) 39 2<|r.map AC.row)]) O<|by exact⟨.tup [],[(1000,some<|.box j 35 [.own 1001<|q+3]),(1001,some<|.arr (q+3) 39 2<|J.map AC.row)],⟨_,R,Za⟩,⟨.inr R,.inr R,Za⟩,R,R,AH [(q+3)],R,R⟩
 refine Zd ?_
 exact CP.mk (s':=⟨[],[(1000,some<|.box j 35 [.own 1001 l]),(1001,some<|.arr l 39 2<|u.map AC.row)],(q+2),21⟩) wk<|Cc (λ(r:(List AC)) rr h'=>∃(i:Nat→Nat),rr=.tup []∧h'=[(1000,some<|.box j 35 [.own 1001<|i 0]),(1001,some<|.arr (i 0) 39 2<|r.map AC.row)]) E<|by exact⟨.tup [],[(1000,some<|.box j 35 [.own 1001 l]),(1001,some<|.arr l 39 2<|u.map AC.row)],⟨_,R,Za⟩,⟨.inr R,.inr R,Za⟩,R,R,AH [l],R,R⟩
theorem j0{c1:List AC}{B:List AC}{C:List AC}{r:(List AC)}{j:Nat}{l:Nat}(h:O5 c1 B C=some r):Bb prog 120 2 [qa B,qa C,.fn 121 [.ptr 1000 j 0 0]] [(1000,some<|.box j 35 [.own 1001 l]),(1001,some<|.arr l 39 2<|c1.map AC.row)] (λrr h'=>∃(i:Nat→Nat),rr=.tup []∧h'=[(1000,some<|.box j 35 [.own 1001<|i 0]),(1001,some<|.arr (i 0) 39 2<|r.map AC.row)]):=by
 unfold O5 at h
 refine EE func120 R R ntmps120 (Zv R) λn0=>aU<|mA R<|mA R<|aZ<|Zf<|BP h λo4 w ar E=>Gk (λ(F:Int) (I:Int) (o2:List AC) q=>⟨[(0,qa B),(1,qa C),(2,.fn 121 [.ptr 1000 j 0 0]),(6,rI F),(7,rI I)],[(1000,some<|.box j 35 [.own 1001<|q 0]),(1001,some<|.arr (q 0) 39 2<|o2.map AC.row)],(q 1),92⟩) (AH [l,n0]) w wk ?_
 intro F I o2 q v1 J M
 have h1:P0 B C F I o2=some v1:=J;unfold P0 at h1
 refine aT λC2=>aU<|mM R<|mM R<|xL Ac R<|xS R<|mM R<|vM R<|vM R<|vQ R (Bk R Ac.slice<|iR R)<|vQ R (B5 R (iR R)<|iR R)<|xO R<|aZ<|cI R h1 (λO=>?_) λO=>?_
 ·refine Zd<|C2 _<|Zf<|Zf<|aT λC4=>?_
  refine ZA BA (by kernel_rfl) ?_
  refine qP R (AK R iL)<|qP R (AK R iL)<|qP R (Bk R Ac.slice iL)<|qP R (Am R iL iL)<|qP R (AK R iL)<|qO R (AK R iL)<|qO R (AK R iL)<|qO R (Bk R Ac.slice<|iR R)<|qO R (B5 R (iR R)<|iR R)<|qO R (AK R<|iR R)<|qT R (AK R iL)<|qT R (AK R iL)<|AG O λx1 T h3=>qT R (Az R Ac.slice (iR R) (iR R) (λ_=>R)<|AU T)<|qT R (A4 R B1<|iR R)<|qT R (Bc (d:=.str x1.Name) R A6 (iR R) R)<|qT R (AK R iL)<|qT R (AK R iL)<|AG h3 λx2 U h4=>qT R (Az R Ac.slice (iR R) (iR R) (λ_=>R)<|AU U)<|qT R (A4 R B1<|iR R)<|qT R (Bc (d:=.str x2.Name) R A6 (iR R) R)<|qT R (LP R (iR R)<|iR R)<|qO R (BI R (iR R)<|iR R)<|qP R (CW R iL<|iR R)<|qP R (Dj R iL)<|AQ.nil<|C4 _<|cI R h4 (λV=>?_) λV=>?_
  ·refine aT λC5=>aG [0,1,2,6,7] [1000,1001] ?_
   refine aR<|mM R<|mM R<|mM R<|AG V λx3 X h6=>xI Ac R X<|xB ((BO x3)) CV R ?_
   refine sQ R (Bt R GJ (q:=[]) (by exact Za) (cs:=[.r<|.str [],.r<|.str []])<|by rfl) ?_
   refine AG h6 λw1 Y h7=>?_
   refine Zo [1000,1001] (hc:=[(1000,some<|.box j 35 [.own 1001<|q 0]),(1001,some<|.arr (q 0) 39 2<|o2.map AC.row)]) (bs:=(U1 x3)) (caps:=[.ptr 1000 j 0 0]) R R R R iL R ⟨.inl ⟨iL,R⟩,.inl ⟨iL,R⟩,Za⟩ ⟨R,R,R,R,R,R,Za⟩ (by decide) (V1 Y) ?_
   intro i8 n1
   refine A8 [0,1,2,6,7,56,57,58,59,60,61,62] [1000,1001] ?_
   exact aZ<|C5 _<|aR<|mM R<|AG h7 λi9 Z h8=>xA R Z<|mA R<|Zh<|DN.mk h8 (AH [(i8 0),n1]) wk
  refine aT λC6=>aG [0,1,2,6,7] [1000,1001] ?_
  refine ZA BA (by kernel_rfl) ?_
  refine qP R (AK R iL)<|qP R (AK R iL)<|qP R (Bk R Ac.slice iL)<|qP R (Am R iL iL)<|qP R (AK R iL)<|qO R (AK R iL)<|qO R (AK R iL)<|AG V λx4 a0 h9=>qO R (Az R Ac.slice (iR R) (iR R) (λ_=>R)<|AU a0)<|qO R (A4 R B1<|iR R)<|qO R (Bc (d:=.str x4.Name) R A6 (iR R) R)<|qO R (AK R iL)<|qO R (AK R iL)<|AG h9 λx5 a2 a6=>qO R (Az R Ac.slice (iR R) (iR R) (λ_=>R)<|AU a2)<|qO R (A4 R B1<|iR R)<|qO R (Bc (d:=.str x5.Name) R A6 (iR R) R)<|qO R (LP R (iR R)<|iR R)<|qP R (CW R iL<|iR R)<|qP R (Dj R iL)<|AQ.nil<|C6 _<|cI R a6 (λu=>?_) λu=>?_
  ·refine aT λC7=>aR<|mM R ?_
   refine sQ R (Bt R GJ (q:=[]) (by exact Za) (cs:=[.r<|.str [],.r<|.str []])<|by rfl) ?_
   refine mM R<|mM R<|AG u λx6 a7 a8=>xI Ac R a7<|xB ((BO x6)) CV R<|AG a8 λw2 aa ab=>?_
   refine Zo [1000,1001] (hc:=[(1000,some<|.box j 35 [.own 1001<|q 0]),(1001,some<|.arr (q 0) 39 2<|o2.map AC.row)]) (bs:=(US x6)) (caps:=[.ptr 1000 j 0 0]) R R R R iL R ⟨.inl ⟨iL,R⟩,.inl ⟨iL,R⟩,Za⟩ ⟨R,R,R,R,R,R,Za⟩ (by decide) (V1 aa) ?_
   intro ac n2
   refine A8 [0,1,2,6,7,65,66,67,68,69,70,82,83,84,85,86,87,88,89] [1000,1001] ?_
   refine aZ<|C7 _<|aG [0,1,2,6,7] [1000,1001] ?_
   exact aR<|mM R<|AG ab λj4 ad ae=>xA R ad<|mA R<|Zh<|DN.mk ae (AH [(ac 0),n2]) wk
  refine aT λC8=>?_
  refine Nj 9 BA (by kernel_rfl) R R ?_
  refine Zw R R R (AK R iL)<|Zw R R R (AK R iL)<|Zw R R R (AK R iL)<|AG u λx7 af ag=>Zw R R R (Az R Ac.slice iL iL (λ_=>R) λ_=>af)<|Zw R R R (Ci (cs:=(BO x7)) R CV iL R R)<|Zw R R R (AK R iL)<|Zw R R R (AK R iL)<|AG ag λx8 ah ai=>Zw R R R (Az R Ac.slice iL iL (λ_=>R) λ_=>ah)<|Zw R R R (Ci (cs:=(BO x8)) R CV iL R R)<|AT.nil<|AG ai λw3 aj ak=>?_
  refine Zo [1000,1001] (hc:=[(1000,some<|.box j 35 [.own 1001<|q 0]),(1001,some<|.arr (q 0) 39 2<|o2.map AC.row)]) (bs:=[.agg<|BO x7,.agg<|BO x8]) (caps:=[.ptr 1000 j 0 0]) R R R R iL R ⟨.inl ⟨iL,R⟩,.inl ⟨iL,R⟩,Za⟩ ⟨R,R,R,R,R,R,Za⟩ (by decide) (V1 aj) ?_
  intro al n3
  refine A8 [0,1,2,6,7,18,19,20,21,22,23,24,25,26,27,65,66,67,68,69,70,82] [1000,1001] ?_
  refine aZ<|C8 _<|aG [0,1,2,6,7] [1000,1001] ?_
  exact aR<|mM R<|AG ak λav A an=>xA R A<|mM R<|AG an λj5 ao aq=>xA R ao<|mA R<|mA R<|Zh<|DN.mk aq (AH [(al 0),n3]) wk
 refine Zn ?_
 exact CP.mk (s':=⟨[],[(1000,some<|.box j 35 [.own 1001<|q 0]),(1001,some<|.arr (q 0) 39 2<|o2.map AC.row)],(q 1),92⟩) wk<|Cc (λ(r:(List AC)) rr h'=>∃(i:Nat→Nat),rr=.tup []∧h'=[(1000,some<|.box j 35 [.own 1001<|i 0]),(1001,some<|.arr (i 0) 39 2<|r.map AC.row)]) (E _<|xH M O)<|by exact⟨.tup [],[(1000,some<|.box j 35 [.own 1001<|q 0]),(1001,some<|.arr (q 0) 39 2<|o2.map AC.row)],⟨_,R,Za⟩,⟨.inr R,.inr R,Za⟩,R,R,AH [(q 0)],R,R⟩
theorem YE{l c r}(h:Mc l c=some r):AS prog 75 [qa l,qa c] (qa r):=by
 unfold Mc at h
 refine mF func75 ntmps75 R λj=>aU<|mA R<|aZ<|aU<|sS R (BF (cs:=[cZ]) 5 R V2 R R)<|aZ<|aT λu=>aR<|mM R<|mM R ?_
 refine sQ R (Pw (bs:=[.ptr 5 j 0 0]) R<|by exact⟨iL,Za⟩) ?_
 refine AL.weak (Zm (ZK 5 0 3050 39 2 (by decide) R R<|by decide)<|by exact ZE (e':=[(0,qa l),(1,qa c),(4,cZ),(5,.ptr 5 j 0 0),(6,qa l),(7,qa c),(8,.fn 121 [.ptr 5 j 0 0])]) (h':=[(5,some<|.box j 35 [.own 3050<|j+1]),(3050,some<|.arr (j+1) 39 2<|([]:List AC).map AC.row)]) ⟨jL,jL,jL,jL,jL,jL,jL,Za⟩ ⟨.inl R,.inl R,Za⟩ nL) ?_
 refine AG h λB q w=>?_
 refine Zo [5,3050] (hc:=[(1000,some<|.box j 35 [.own 1001<|j+1]),(1001,some<|.arr (j+1) 39 2<|([]:List AC).map AC.row)]) (bs:=[qa l,qa c,.fn 121 [.ptr 1000 j 0 0]]) (caps:=[]) R R R R iL R ⟨.inl ⟨iL,R⟩,.inl ⟨iL,R⟩,.inl ⟨iL,R⟩,Za⟩ ⟨R,R,R,R,R,R,Za⟩ (by decide) (j0 q) ?_
 intro A C
 refine A8 [0,1,4,5,6,7,8,9] [5,3050] ?_
 exact aZ<|u _<|aU<|sQ R (AZ (a:=.own 3050<|A 0) R BD iL R R)<|mA R<|aZ<|Zj<|DU (P:=prog) (λ(r:(List AC))=>qa r) w iL<|.t<|.one<|.own R
theorem il{f1 r}(h:QH f1=some r):Bb prog 19 1 [qb f1] [] (λrr h'=>∃(i:Nat→Nat),rr=.own 1000 (i 0)∧h'=[(1000,some<|.arr (i 0) 37 3<|r.map AD.row)]):=by
 unfold QH at h
 refine EE func19 R R ntmps19 (Zv R) λZ=>aU<|mA R<|aZ<|aU<|mM R<|xL Ah R<|AG h λa0 C h1=>sS R (S3 8 R Ah (f:=AD.row) (z0:=(AD.mk 0 0 [])) XY iL iL C)<|mA R<|aZ<|aS λK3 c3 J=>aU<|mM R<|xL Ah R<|mM R<|aZ<|Zf<|BH h1 λo1 E M=>?_
 have J1:∀(q:List AD) (A:NN),o1=q→K3 ⟨[(3,.own 8<|A 0)],[(8,some<|.arr (A 0) 37 3<|q.map AD.row)],(A 1),29⟩:=by
  intro q A e
  have h2:=M _ e
  refine c3 _<|aU<|mM R<|mA R<|aZ ?_
  exact Zj<|CP.mk (s':=⟨[(2,.own 1000<|A 1)],[(1000,some<|.arr (A 1) 37 3<|q.map AD.row)],((A 1)+1),29⟩) (Zm (Zm (Ae.ren 2 8 1000 R R R)<|by exact ZE (e':=[(2,.own 1000<|A 1)]) (h':=[(1000,some<|.arr (A 1) 37 3<|q.map AD.row)]) ⟨jL,Za⟩ ⟨.inl R,Za⟩ nL) wk)<|Cc (λ(r:(List AD)) rr h'=>∃(i:Nat→Nat),rr=.own 1000 (i 0)∧h'=[(1000,some<|.arr (i 0) 37 3<|r.map AD.row)]) h2<|by exact⟨.own 1000<|A 1,[(1000,some<|.arr (A 1) 37 3<|q.map AD.row)],R,⟨.inr R,Za⟩,R,R,AH [(A 1)],R,R⟩
 refine Dd (λ(B:Int) (u:List AD) j=>⟨[(3,.own 8<|j 0),(9,qb f1),(10,rL f1),(11,rI B)],[(8,some<|.arr (j 0) 37 3<|u.map AD.row)],(j 1),29⟩) (AH [Z,(Z+1)]) E wk ?_
 intro B u j v1 O T
 have h3:JP f1 B u=some v1:=O;unfold JP at h3
 refine aU<|xS R<|aZ<|aT λc7=>cI R h3 (λU=>?_) λU=>?_
 ·refine Zd<|c7 _<|aT λc8=>Zf<|aU<|mM R<|AG U λl V h5=>xI Ah R V<|xB ((A5 l)) Dc R<|sS R (BF (cs:=Fh) 5 R Ft R R)<|mA R<|Zk R R (Aj (ds:=(A5 l)) R EY iL R iL R R R R)<|aZ<|AG h5 λF X h6=>?_
  refine IA 10 [pO 16<|.own 8<|j 0,pO 17<|rI B,pO 18<|.ptr 5 (j 1) 0 0,pO 19<|rI l.Char,pO 20<|.ptr 5 (j 1) 0 1,pO 21<|rI l.Ref,pO 22<|.ptr 5 (j 1) 0 2,pO 23<|qa l.Attrs,⟨some 24,(λw=>.own 24<|w 8),some (24,(λw=>some<|.arr (w 8) 39 2<|F.map AC.row)),[8]⟩,⟨some 25,(λw=>.agg [rI l.Char,rI l.Ref,.own 24<|w 8]),none,[8]⟩] BA (by kernel_rfl) (by exact⟨λ_ _ h=>⟨R,λ_ _ e=>by cases e⟩,λ_ _ h=>⟨R,λ_ _ e=>by cases e⟩,λ_ _ h=>⟨R,λ_ _ e=>by cases e⟩,λ_ _ h=>⟨R,λ_ _ e=>by cases e⟩,λ_ _ h=>⟨R,λ_ _ e=>by cases e⟩,λ_ _ h=>⟨R,λ_ _ e=>by cases e⟩,λ_ _ h=>⟨R,λ_ _ e=>by cases e⟩,λ_ _ h=>⟨R,λ_ _ e=>by cases e⟩,λ_ _ h=>⟨by simp only[h 8 R],λ_ _ e=>by cases e;simp only[h 8 R]⟩,λ_ _ h=>⟨by simp only[h 8 R],λ_ _ e=>by cases e⟩,Za⟩) R (by exact⟨oB [(3,.own 8<|j 0)] [(8,some<|.arr (j 0) 37 3<|u.map AD.row)]<|AK R<|.inl R,oB [(4,rI B)] []<|AK R<|.inl R,oB [(5,.ptr 5 (j 1) 0 0)] [(5,some<|.box (j 1) 37<|A5 l)]<|fB R Ek (.inl R) (λ_=>R) R,oB [(18,.ptr 5 (j 1) 0 0)] [(5,some<|.box (j 1) 37<|A5 l)]<|AZ (a:=rI l.Char) R AJ (.inl R) R R,oB [(5,.ptr 5 (j 1) 0 0)] [(5,some<|.box (j 1) 37<|A5 l)]<|fB R D9 (.inl R) (λ_=>R) R,oB [(20,.ptr 5 (j 1) 0 1)] [(5,some<|.box (j 1) 37<|A5 l)]<|AZ (a:=rI l.Ref) R AJ (.inl R) R R,oB [(5,.ptr 5 (j 1) 0 0)] [(5,some<|.box (j 1) 37<|A5 l)]<|fB R DA (.inl R) (λ_=>R) R,oB [(22,.ptr 5 (j 1) 0 2)] [(5,some<|.box (j 1) 37<|A5 l)]<|AZ (a:=qa l.Attrs) R BD (.inl R) R R,oM (λ_=>[(23,qa l.Attrs)]) (λ_=>[]) R λw e h' n=>Q6 24 (f:=AC.row) R Ac (.inl R) (.inl ⟨(.inl R),λ_=>R⟩) X,oC (λw=>[(19,rI l.Char),(21,rI l.Ref),(24,.own 24<|w 8)]) (λw=>[(24,some<|.arr (w 8) 39 2<|F.map AC.row)]) λw e h'=>Bt R SP (q:=[(0,_),(1,_),(2,_)]) (by exact⟨R,R,R,(.inl R),R,R,R,(.inl R),R,R,R,(.inl R),Za⟩) (cs:=[rI l.Char,rI l.Ref,.own 24<|w 8])<|by rfl,Za⟩) λw n1=>?_
  refine A8 [3,4,5,9,10,11,12,13,14,15,16,17,18,19,20,21,22,23,24,25] [5,8,24] ?_
  refine AG h6 λx5 I h7=>sQ R (FY R Ah.slice iL R iL λ_=>I) ?_
  refine AL.weak (by exact Ae.frz (e':=[(3,.own 8<|j 0),(4,rI B),(5,.ptr 5 (j 1) 0 0),(9,qb f1),(10,rL f1),(11,rI B),(12,rB<|(decide<|B<(f1.length:Int))),(13,rI B),(14,.rop (AD.row l) 0),(15,.agg<|A5 l),(16,.own 8<|j 0),(17,rI B),(18,.ptr 5 (j 1) 0 0),(19,rI l.Char),(20,.ptr 5 (j 1) 0 1),(21,rI l.Ref),(22,.ptr 5 (j 1) 0 2),(23,qa l.Attrs),(24,qa F),(25,.agg [rI l.Char,rI l.Ref,qa F]),(26,.ptr 8 (j 0) B.toNat 0)]) (h':=[(5,some<|.box (j 1) 37<|A5 l),(8,some<|.arr (j 0) 37 3<|u.map AD.row)]) 24 R ⟨jL,jL,jL,jL,jL,jL,jL,jL,jL,jL,jL,jL,jL,jL,jL,jL,jL,jL,.inl<|.inr<|.inr ⟨R,R⟩,.inr ⟨_,_,R,R,⟨.inl R,.inl R,.inr<|.inr ⟨R,R⟩,Za⟩⟩,jL,Za⟩ ⟨R,.inl R,R,.inl R,Za⟩) ?_
  refine Zk R R (SC (v:=(AD.mk l.Char l.Ref F)) R EY iL R I iL R R R R)<|aZ<|c8 _<|aG [3,9,10,11] [8] ?_
  exact aR<|AG h7 λx6 Y h8=>xA R Y<|mM R<|Zh<|ZI h8 (AH [(j 0),n1]) wk
 exact Zn<|J _ _ wk<|J1 _ (AH [(j 0),(j 1)])<|xH T U
theorem iG{f1 a b c r}(h:PS f1 a b c=some r):AS prog 51 [qb f1,rI a,qb b,rS c] (qc r):=by
 unfold PS at h
 refine mF func51 ntmps51 R λn0=>aU<|mA R<|aZ<|aT λc2=>aR<|mM R<|AG h λE I h1=>?_
 refine Zo [14] (hc:=[]) (bs:=[qb b]) (caps:=[]) R R R R iL R ⟨.inl ⟨iL,R⟩,Za⟩ Za (by decide) (il I) ?_
 intro i1 n1
 refine A8 [0,1,2,3,8,13,14] [14] ?_
 refine mA R<|aZ<|c2 _<|aS λK3 c3 J=>aU<|mM R<|sQ R (N0 R Ah.slice iL R)<|mM R<|aZ<|Zf<|BH h1 λo1 A M=>?_
 have J1:∀(l:List AD) (B:NN),o1=l→K3 ⟨[(0,qb f1),(1,rI a),(9,.own 14<|B 0)],[(14,some<|.arr (B 0) 37 3<|l.map AD.row)],(B 1),50⟩:=by
  intro l B e
  have h2:=M _ e
  refine c3 _<|aT λc5=>aR<|mM R ?_
  refine sQ R (Bt R LX (q:=[(0,_),(1,_)]) (by exact⟨R,R,R,iL,R,R,R,iL,Za⟩) (cs:=[rI 0,rI a,cZ,cZ])<|by rfl) ?_
  refine mM R ?_
  refine sQ R (Bt R LX (q:=[(0,_),(3,_)]) (by exact⟨R,R,R,iL,R,R,R,iL,Za⟩) (cs:=[rI 1,rI 0,cZ,.own 14<|B 0])<|by rfl) ?_
  refine mM R<|xL Ah R<|mM R<|AG h2 λw O h3=>sQ R (CG R iL iL λ_=>O) ?_
  refine sQ R (Bt R LX (q:=[(0,_),(1,_)]) (by exact⟨R,R,R,iL,R,R,R,iL,Za⟩) (cs:=[rI 0,rI w,cZ,cZ])<|by rfl) ?_
  refine AL.weak (by exact Ae.frz (e':=[(0,qb f1),(1,rI a),(9,qb l),(36,rI a),(37,.agg [rI 0,rI a,cZ,cZ]),(38,qb l),(39,.agg [rI 1,rI 0,cZ,qb l]),(40,qb f1),(41,rL f1),(42,rI a),(43,rI w),(44,.agg [rI 0,rI w,cZ,cZ])]) (h':=[]) 14 R ⟨jL,jL,.inl<|.inr<|.inr ⟨R,R⟩,jL,jL,.inl<|.inr<|.inr ⟨R,R⟩,.inr ⟨_,_,R,R,⟨.inl R,.inl R,.inl R,.inr<|.inr ⟨R,R⟩,Za⟩⟩,jL,jL,jL,jL,jL,Za⟩ Za) ?_
  refine sS R (B3 45 R CT (f:=AI.row) (l:=([(AI.mk 0 a [] []),(AI.mk 1 0 [] l),(AI.mk 0 w [] [])]:List AI)) ⟨R,⟨_,iL,R⟩,R,⟨_,iL,R⟩,R,⟨_,iL,R⟩,Za⟩ R (λ_=>R) R) ?_
  refine AL.weak (by exact Ae.frz (e':=[(0,qb f1),(1,rI a),(9,qb l),(36,rI a),(37,.agg [rI 0,rI a,cZ,cZ]),(38,qb l),(39,.agg [rI 1,rI 0,cZ,qb l]),(40,qb f1),(41,rL f1),(42,rI a),(43,rI w),(44,.agg [rI 0,rI w,cZ,cZ]),(45,.r<|.sl<|[(AI.mk 0 a [] []),(AI.mk 1 0 [] l),(AI.mk 0 w [] [])].map AI.row)]) (h':=[]) 45 R ⟨jL,jL,jL,jL,jL,jL,jL,jL,jL,jL,jL,jL,.inl<|.inr<|.inr ⟨R,R⟩,Za⟩ Za) ?_
  refine D5 h3 λr1 r2 T h4=>sS R (C0 (r:=.tup [qc r1,rI r2]) (caps:=[]) (bs:=[.r<|.sl<|[(AI.mk 0 a [] []),(AI.mk 1 0 [] l),(AI.mk 0 w [] [])].map AI.row]) R iL R ⟨.inl ⟨iL,R⟩,Za⟩ λ_=>ZM<|T)<|mM R<|xX R<|xX R<|mA R<|mA R<|aZ<|c5 _<|aT λc6=>aF [11] ?_
  exact aR<|mM R<|mA R<|aZ<|c6 _<|Zj<|DU (P:=prog) (λ(r:(List AI))=>qc r) h4 iL<|.t<|.d R
 refine Dd (λ(q:Int) (F:List AD) j=>⟨[(0,qb f1),(1,rI a),(3,rS c),(9,.own 14<|j 0),(16,rL E),(17,rI q)],[(14,some<|.arr (j 0) 37 3<|F.map AD.row)],(j 1),50⟩) (AH [(i1 0),n1]) A wk ?_
 intro q F j v1 U V
 have h5:LF c E q F=some v1:=U;unfold LF at h5
 refine aU<|xS R<|aZ<|aT λc8=>cI R h5 (λX=>?_) λX=>?_
 ·refine Zd<|c8 _<|aT λc9=>Zf<|aU<|mM R<|mA R<|aZ<|aR<|mM R<|mM R<|mM R<|mM R<|AG X λC u h7=>sQ R (FY R Ah.slice iL R iL λ_=>u)<|sQ R (GQ (ob:=.arr _ _ _ _) R DA iL fR R)<|sQ R (Ll (d:=.sl<|C.Attrs.map AC.row) R BD iL fR (λ_=>u) R)<|mM R ?_
  refine sQ R (Bt R GJ (q:=[(0,_),(1,_)]) (by exact⟨R,R,R,iL,R,R,R,iL,Za⟩) (cs:=[.r<|.str [97,100,100],rS c])<|by rfl) ?_
  refine sQ R (Bt R GJ (q:=[(0,_)]) (by exact⟨R,R,R,iL,Za⟩) (cs:=TV)<|by rfl) ?_
  refine sS R (B3 30 R Ac (f:=AC.row) (l:=([(AC.mk [97,100,100] c),(AC.mk [99,117,116] [])]:List AC)) ⟨R,⟨_,iL,R⟩,R,⟨_,iL,R⟩,Za⟩ R (λ_=>R) R) ?_
  refine AL.weak (by exact Ae.frz (e':=[(0,qb f1),(1,rI a),(3,rS c),(9,.own 14<|j 0),(10,rI q),(16,rL E),(17,rI q),(18,rB<|(decide<|q<(E.length:Int))),(19,rI q),(20,.own 14<|j 0),(21,rI q),(22,.own 14<|j 0),(23,rI q),(24,.ptr 14 (j 0) q.toNat 0),(25,.ptr 14 (j 0) q.toNat 2),(26,qa C.Attrs),(27,rS c),(28,.agg [.r<|.str [97,100,100],rS c]),(29,.agg TV),(30,.r<|.sl<|[(AC.mk [97,100,100] c),(AC.mk [99,117,116] [])].map AC.row)]) (h':=[(14,some<|.arr (j 0) 37 3<|F.map AD.row)]) 30 R ⟨jL,jL,jL,jL,jL,jL,jL,jL,jL,jL,jL,jL,jL,jL,jL,jL,jL,jL,jL,.inl<|.inr<|.inr ⟨R,R⟩,Za⟩ ⟨R,.inl R,Za⟩) ?_
  refine AG h7 λr3 Y h8=>sS R (C0 (r:=qa r3) (caps:=[]) (bs:=[qa C.Attrs,.r<|.sl<|[(AC.mk [97,100,100] c),(AC.mk [99,117,116] [])].map AC.row]) R iL R ⟨.inl ⟨iL,R⟩,.inl ⟨iL,R⟩,Za⟩ λ_=>YE<|Y)<|sQ R (FY R Ah.slice iL R iL λ_=>u)<|sQ R (GQ (ob:=.arr _ _ _ _) R DA iL fR R)<|Zk R R (Tn (v:=(AD.mk C.Char C.Ref r3)) R Gf iL R u iL R R R R)<|aZ<|c9 _<|aG [0,1,3,9,16,17] [14] ?_
  exact aR<|AG h8 λx6 Z h9=>xA R Z<|mM R<|Zh<|ZI h9 (AH [(j 0),((j 1)+1)]) wk
 exact Zn<|J _ _ wk<|J1 _ (AH [(j 0),(j 1)])<|xH V X
theorem Rw{d1 r}(h:Jy d1=some r):AS prog 91 [qc d1] (.tup [rI r.1,rI r.2]):=by
 unfold Jy at h
 refine mF func91 ntmps91 R λn0=>aU<|mA R<|mA R<|aZ<|aU<|mA R<|mA R<|aZ<|aS λK3 c3 a0=>aU<|mM R<|xL CT R<|mM R<|aZ<|Zf<|IF h λo1 O a1=>?_
 have J1:∀(l:Int) (A:Int) (i5:NN),o1=(l,A)→K3 ⟨[(4,rI l),(5,rI A)],[],(i5 0),31⟩:=by
  intro l A i5 e
  have h1:=a1 _ _ e
  exact c3 _<|aU<|mM R<|mM R<|mA R<|mA R<|aZ<|Zj<|DH (P:=prog) (λ(r:Int × Int)=>rI r.1) (λ(r:Int × Int)=>rI r.2) h1 iL (.t<|.d R)<|.t<|.d R
 refine Gk (λ(q:Int) (j:Int) (T:Int) I=>⟨[(4,rI q),(5,rI j),(8,qc d1),(9,rL d1),(10,rI T)],[],(I 0),31⟩) (AH [n0]) O wk ?_
 intro q j T I v1 a2 a6
 have h2:JC d1 q j T=some v1:=a2;unfold JC at h2
 refine aU<|xS R<|aZ<|aT λc7=>cI R h2 (λh3=>?_) λh3=>?_
 ·refine Zd<|c7 _<|aS λK8 c8 U=>Zf<|IF h3 λp1 a7 a8=>?_
  have J2:∀(u:Int) (B:Int) (i6:NN),p1=(u,B)→K8 ⟨[(4,rI u),(5,rI B),(8,qc d1),(9,rL d1),(10,rI T)],[],(i6 0),31⟩:=by
   intro u B i6 e
   have h4:=a8 _ _ e
   exact c8 _<|aR<|AG h4 λx4 aa h5=>xA R aa<|mM R<|Zh<|DN.mk h5 (AH [(i6 0)]) wk
  refine aU<|AG a7 λx5 ab h6=>xI CT R ab<|xB ((Bn x5)) EX R<|sS R (BF (cs:=EB) 7 R E8 R R)<|Zk R R (Aj (ds:=(Bn x5)) R FE iL R iL R R R R)<|aZ<|aS λac ad F=>aU<|lF CH AJ R R<|xU R<|aZ<|BH h6 λp2 V ae=>?_
  have J3:∀(w:Int) (Y:NN),p2=w→ac ⟨[(4,rI w),(5,rI j),(7,.ptr 7 (I 0) 0 0),(8,qc d1),(9,rL d1),(10,rI T)],[(7,some<|.box (I 0) 56<|Bn x5)],(Y 0),31⟩:=by
   intro w Y e
   have h7:=ae _ e
   refine ad _<|aU<|lF CH AJ R R<|xU R<|aZ<|cI R h7 (λh8=>?_) λh8=>?_
   ·exact aR<|mM R<|xC EX R<|AG h8 λr1 af h9=>cL (TJ<|af) R<|AG h9 λZ E ag=>xA R E<|mA R<|Zh<|U _ _ wk<|J2 _ _ (AH [(Y 0)]) (Zc ag).symm
   exact Zd<|U _ _ wk<|J2 _ _ (AH [(Y 0)]) (Zc h8).symm
  refine aC R (λJ=>?_) λJ=>?_
  ·have M:=CF J V
   exact aR<|mM R<|lF Ed AJ R R<|AG M λX C ah=>xA R C<|mA R<|Zh<|F _ _ wk<|J3 _ (AH [((I 0)+1)]) (Zc ah).symm
  ·have M:=CA J V
   exact Zd<|F _ _ wk<|J3 _ (AH [((I 0)+1)]) (Zc M).symm
 exact Zn<|a0 _ _ wk<|J1 _ _ (AH [(I 0)])<|xH a6 h3
theorem JW{l:BU}{r:Int}{j:Nat}(h:GF l=some r):Bb prog 92 1 [.ptr 1000 j 0 0] [(1000,some<|.box j 146 [qc l.steps,rI l.used])] (λrr h'=>∃(i:Nat→Nat),rr=rI r∧h'=[(1000,some<|.box j 146 [qc l.steps,rI l.used])]):=by
 unfold GF at h
 refine EE func92 R R ntmps92 (Zv R) λA=>aU<|mA R<|aZ<|aT λB=>aU<|mM R<|sQ R (B7 (ob:=.box _ _ _) R iL fR R)<|lF LN EM R R<|xL CT R<|xQ R<|aZ<|cI R h (λq=>?_) λq=>?_
 ·refine aU<|mA R<|aZ ?_
  exact Zj<|CP.mk (s':=⟨[(2,rI<|(-1))],[(1000,some<|.box j 146 [qc l.steps,rI l.used])],A,16⟩) wk<|Cc (λ(r:Int) rr h'=>∃(i:Nat→Nat),rr=rI r∧h'=[(1000,some<|.box j 146 [qc l.steps,rI l.used])]) q<|by exact⟨rI<|(-1),[(1000,some<|.box j 146 [qc l.steps,rI l.used])],R,⟨.inr R,Za⟩,R,R,AH [],R,R⟩
 refine Zd<|B _<|aU<|mM R<|sQ R (B7 (ob:=.box _ _ _) R iL fR R)<|lF LN EM R R<|AG q λu w C=>xI CT R w<|sQ R (A4 R CH iL)<|xV (.int .i64 u.Kind) AJ R<|mA R<|aZ ?_
 exact Zj<|CP.mk (s':=⟨[(2,rI u.Kind)],[(1000,some<|.box j 146 [qc l.steps,rI l.used])],A,16⟩) wk<|Cc (λ(r:Int) rr h'=>∃(i:Nat→Nat),rr=rI r∧h'=[(1000,some<|.box j 146 [qc l.steps,rI l.used])]) C<|by exact⟨rI u.Kind,[(1000,some<|.box j 146 [qc l.steps,rI l.used])],R,⟨.inr R,Za⟩,R,R,AH [],R,R⟩
theorem Iy{l:BU}{r:Int}{j:Nat}(h:GR l=some r):Bb prog 94 1 [.ptr 1000 j 0 0] [(1000,some<|.box j 146 [qc l.steps,rI l.used])] (λrr h'=>∃(i:Nat→Nat),rr=rI r∧h'=[(1000,some<|.box j 146 [qc l.steps,rI l.used])]):=by
 unfold GR at h
 refine EE func94 R R ntmps94 (Zv R) λC=>aU<|mA R<|aZ<|aT λE=>?_
 refine ZA BA (by kernel_rfl) ?_
 refine qP R (AK R iL)<|qP R (B7 (ob:=.box _ _ _) R iL fR R)<|qP R (fB R LN iL fR R)<|qP R (AZ (a:=qc l.steps) R EM iL R R)<|AG h λq u F=>qP R (Az R CT.slice iL iL (λ_=>R) λ_=>u)<|qP R (Ci (cs:=(Bn q)) R EX iL R R)<|AG F λI w J=>Fw R R R (r:=rI I) (caps:=[]) (bs:=(PZ q)) R iL R ⟨⟨_,iL,.g (cs:=[.int .i64 q.Kind,.int .i64 q.N,.sl<|q.Attrs.map AC.row,.sl<|q.Elems.map AD.row]) R R⟩,Za⟩ (λ_=>TJ<|w) R<|qP R (AK R iL)<|qP R (B7 (ob:=.box _ _ _) R iL fR R)<|qP R (fB R KU iL fR R)<|qP R (AZ (a:=rI l.used) R AJ iL R R)<|AG J λB A M=>qP R (CG R iL iL λ_=>A)<|qP R (Dj R iL)<|AQ.nil<|E _ ?_
 exact Zj<|CP.mk (s':=⟨[(2,rI B)],[(1000,some<|.box j 146 [qc l.steps,rI l.used])],C,15⟩) wk<|Cc (λ(r:Int) rr h'=>∃(i:Nat→Nat),rr=rI r∧h'=[(1000,some<|.box j 146 [qc l.steps,rI l.used])]) M<|by exact⟨rI B,[(1000,some<|.box j 146 [qc l.steps,rI l.used])],R,⟨.inr R,Za⟩,R,R,AH [],R,R⟩
theorem JH{u:BU}{n1:Int}{r:AI × BU}{j:Nat}(h:Fj u n1=some r):Bb prog 93 1 [.ptr 1000 j 0 0,rI n1] [(1000,some<|.box j 146 [qc u.steps,rI u.used])] (λrr h'=>∃(i:Nat→Nat),rr=.agg (Bn r.1)∧h'=[(1000,some<|.box j 146 [qc r.2.steps,rI r.2.used])]):=by
 unfold Fj at h
 refine EE func93 R R ntmps93 (Zv R) λq=>aU<|sS R (BF (cs:=EB) 4 R E8 R R)<|aZ<|aU<|mM R<|sQ R (B7 (ob:=.box _ _ _) R iL fR R)<|lF LN EM R R<|AG h λl E h1=>xI CT R E<|xB ((Bn l)) EX R<|sS R (BF (cs:=EB) 5 R E8 R R)<|Zk R R (Aj (ds:=(Bn l)) R FE iL R iL R R R R)<|aZ<|aS λK3 c3 F=>aU<|lF CH AJ R R<|xQ R<|aZ<|BH h1 λp1 I T=>?_
 have J1:∀(A:AI) (O:NN),p1=A→K3 ⟨[(0,.ptr 1000 j 0 0),(1,rI n1),(4,.ptr 4 q 0 0),(5,.ptr 5 (q+1) 0 0)],[(4,some<|.box q 56 EB),(5,some<|.box (q+1) 56<|Bn A),(1000,some<|.box j 146 [qc u.steps,rI u.used])],(O 0),63⟩:=by
  intro A O e
  have h2:=T _ e
  refine c3 _<|aS λK5 c5 J=>aU<|mM R<|sQ R (B7 (ob:=.box _ _ _) R iL fR R)<|lF KU AJ R R<|mM R<|AG h2 λU V h3=>xA R V<|sQ R (B7 (ob:=.box _ _ _) R iL fR R)<|sQ R (fB R KU iL fR R)<|Zk R R (Aj (ds:=[qc u.steps,rI U]) R Gz iL R iL R R R R)<|aZ<|aT λc7=>aG [0,4,5] [4,5,1000] ?_
  refine ZA BA (by kernel_rfl) ?_
  refine qP R (AK R iL)<|qP R (B7 (ob:=.box _ _ _) R iL fR R)<|qP R (fB R KU iL fR R)<|qP R (AZ (a:=rI U) R AJ iL R R)<|qP R (AK R iL)<|qP R (B7 (ob:=.box _ _ _) R iL fR R)<|qP R (fB R LN iL fR R)<|qP R (AZ (a:=qc u.steps) R EM iL R R)<|qP R (Az R CT.slice iL iL (λ_=>R) λ_=>E)<|qP R (Ci (cs:=(Bn l)) R EX iL R R)<|AG h3 λr1 X h4=>Fw R R R (r:=rI r1) (caps:=[]) (bs:=(PZ l)) R iL R ⟨⟨_,iL,.g (cs:=[.int .i64 l.Kind,.int .i64 l.N,.sl<|l.Attrs.map AC.row,.sl<|l.Elems.map AD.row]) R R⟩,Za⟩ (λ_=>TJ<|X) R<|qP R (Am R iL iL)<|AQ.nil<|c7 _<|BH h4 λp2 M Y=>?_
  have J2:∀(w:BU) (Z:NN),p2=w→K5 ⟨[(4,.ptr 4 q 0 0),(5,.ptr 5 (q+1) 0 0)],[(4,some<|.box q 56 EB),(5,some<|.box (q+1) 56<|Bn A),(1000,some<|.box j 146 [qc w.steps,rI w.used])],(Z 0),63⟩:=by
   intro w Z e
   have h5:=Y _ e
   refine c5 _<|aU<|xC EX R<|Zk R R (Aj (ds:=(Bn A)) R FE iL R iL R R R R)<|aZ ?_
   exact Zj<|CP.mk (s':=⟨[(4,.ptr 4 q 0 0)],[(4,some<|.box q 56<|Bn A),(1000,some<|.box j 146 [qc w.steps,rI w.used])],(Z 0),63⟩) wk<|Cc (λ(r:AI × BU) rr h'=>∃(i:Nat→Nat),rr=.agg (Bn r.1)∧h'=[(1000,some<|.box j 146 [qc r.2.steps,rI r.2.used])]) h5<|by exact⟨.agg<|Bn A,[(1000,some<|.box j 146 [qc w.steps,rI w.used])],.inr ⟨_,R,EX,_,_,_,R,R⟩,⟨.inr R,Za⟩,R,R,AH [],R,R⟩
  refine aC R (λB=>?_) λB=>?_
  ·have h6:=CF B M
   refine aG [0,4,5] [4,5,1000] ?_
   refine aR<|mM R<|mM R<|mM R<|sQ R (B7 (ob:=.box _ _ _) R iL fR R)<|lF LN EM R R<|AG h6 λl1 a0 h7=>?_
   refine sQ R (Tg R CT.slice iL (by exact⟨_,iL⟩) (by exact R) (λ_=>R) λ_=>a0) ?_
   exact sQ R (B7 (ob:=.box _ _ _) R iL fR R)<|sQ R (fB R LN iL fR R)<|Zk R R (Aj (ds:=[qc l1,rI U]) R Se iL R iL R R R R)<|sQ R (B7 (ob:=.box _ _ _) R iL fR R)<|sQ R (fB R KU iL fR R)<|Zk R R (Aj (ds:=[qc l1,rI 0]) R Gz iL R iL R R R R)<|Zh<|J _ _ wk<|J2 _ (AH [(O 0)]) (Zc h7).symm
  ·have h6:=CA B M
   exact Zd<|J _ _ wk<|J2 _ (AH [(O 0)]) (Zc h6).symm
 refine aC R (λC=>?_) λC=>?_
 ·have h8:=CF C I
  refine aG [0,1,4,5] [4,5,1000] ?_
  refine Nj 14 BA (by kernel_rfl) R R ?_
  refine Zw R R R (fB R Ef iL fR R)<|Zw R R R (AZ (a:=qb l.Elems) R B9 iL R R)<|Zw R R R (AK R iL)<|Zw R R R (B7 (ob:=.box _ _ _) R iL fR R)<|Zw R R R (fB R KU iL fR R)<|Zw R R R (AZ (a:=rI u.used) R AJ iL R R)<|Zw R R R (AK R iL)<|Zw R R R (B7 (ob:=.box _ _ _) R iL fR R)<|Zw R R R (fB R KU iL fR R)<|Zw R R R (AZ (a:=rI u.used) R AJ iL R R)<|Zw R R R (AK R iL)<|AG h8 λx3 a1 h9=>Zw R R R (Gh R iL iL λ_=>a1)<|AG h9 λl2 a2 a6=>?_
  refine Zw R R R (Tg R Ah.slice iL (by exact⟨_,iL⟩) (by exact⟨_,iL⟩) (λ_=>R) λ_=>a2) ?_
  exact Zw R R R (fB R Ef iL fR R)<|AT.nil<|Zk R R (Aj (ds:=[rI l.Kind,rI l.N,qa l.Attrs,qb l2]) R Tx iL R iL R R R R)<|Zh<|F _ _ wk<|J1 _ (AH [(q+2)]) (Zc a6).symm
 ·have h8:=CA C I
  refine aG [0,1,4,5] [4,5,1000] ?_
  exact aR<|mM R<|sQ R (fB R Ed iL fR R)<|Zk R R (Aj (ds:=[rI l.Kind,rI n1,qa l.Attrs,qb l.Elems]) R Gz iL R iL R R R R)<|Zh<|F _ _ wk<|J1 _ (AH [(q+2)]) (Zc h8).symm
theorem V3{u:List AC}{w:AC}{A:AC}{r:(List AC)}{j:Nat}{l:Nat}(h:KD u w A=some r):Bb prog 149 2 [.agg<|BO w,.agg<|BO A,.ptr 1000 j 0 0] [(1000,some<|.box j 35 [.own 1001 l]),(1001,some<|.arr l 39 2<|u.map AC.row)] (λrr h'=>∃(i:Nat→Nat),rr=.tup []∧h'=[(1000,some<|.box j 35 [.own 1001<|i 0]),(1001,some<|.arr (i 0) 39 2<|r.map AC.row)]):=by
 unfold KD at h
 refine EE func149 R R ntmps149 (Zv R) λq=>aU<|sS R (A2 (cs:=(BO w)) 3 R iL R R)<|sS R (A2 (cs:=(BO A)) 4 R iL R R)<|aZ<|aU<|lF B1 A6 R R<|sQ R (Cz R iL iL)<|aZ<|cI R h (λB=>?_) λB=>?_
 ·refine aR<|sQ R (AZ (a:=.own 1001 l) R BD iL R R)<|xC CV R<|sS R (B3 10 R Ac (f:=AC.row) (l:=([w]:List AC)) ⟨R,⟨_,iL,R⟩,Za⟩ R (λ_=>R) R)<|AG B λE C F=>sS R (Cj R Ac iL R (.inr<|.inl ⟨_,_,iL,R⟩) C)<|Zk R R (Aj (ds:=[.own 1001<|q+3]) R Gf iL R iL R R R R)<|Zh ?_
  exact CP.mk (s':=⟨[],[(1000,some<|.box j 35 [.own 1001<|q+3]),(1001,some<|.arr (q+3) 39 2<|E.map AC.row)],(q+4),12⟩) wk<|Cc (λ(r:(List AC)) rr h'=>∃(i:Nat→Nat),rr=.tup []∧h'=[(1000,some<|.box j 35 [.own 1001<|i 0]),(1001,some<|.arr (i 0) 39 2<|r.map AC.row)]) F<|by exact⟨.tup [],[(1000,some<|.box j 35 [.own 1001<|q+3]),(1001,some<|.arr (q+3) 39 2<|E.map AC.row)],⟨_,R,Za⟩,⟨.inr R,.inr R,Za⟩,R,R,AH [(q+3)],R,R⟩
 refine Zd ?_
 exact CP.mk (s':=⟨[],[(1000,some<|.box j 35 [.own 1001 l]),(1001,some<|.arr l 39 2<|u.map AC.row)],(q+2),12⟩) wk<|Cc (λ(r:(List AC)) rr h'=>∃(i:Nat→Nat),rr=.tup []∧h'=[(1000,some<|.box j 35 [.own 1001<|i 0]),(1001,some<|.arr (i 0) 39 2<|r.map AC.row)]) B<|by exact⟨.tup [],[(1000,some<|.box j 35 [.own 1001 l]),(1001,some<|.arr l 39 2<|u.map AC.row)],⟨_,R,Za⟩,⟨.inr R,.inr R,Za⟩,R,R,AH [l],R,R⟩
theorem mK{c1:List AC}{B:List AC}{C:List AC}{r:(List AC)}{j:Nat}{l:Nat}(h:OD c1 B C=some r):Bb prog 120 2 [qa B,qa C,.fn 149 [.ptr 1000 j 0 0]] [(1000,some<|.box j 35 [.own 1001 l]),(1001,some<|.arr l 39 2<|c1.map AC.row)] (λrr h'=>∃(i:Nat→Nat),rr=.tup []∧h'=[(1000,some<|.box j 35 [.own 1001<|i 0]),(1001,some<|.arr (i 0) 39 2<|r.map AC.row)]):=by
 unfold OD at h
 refine EE func120 R R ntmps120 (Zv R) λn0=>aU<|mA R<|mA R<|aZ<|Zf<|BP h λo4 w ar E=>Gk (λ(F:Int) (I:Int) (o2:List AC) q=>⟨[(0,qa B),(1,qa C),(2,.fn 149 [.ptr 1000 j 0 0]),(6,rI F),(7,rI I)],[(1000,some<|.box j 35 [.own 1001<|q 0]),(1001,some<|.arr (q 0) 39 2<|o2.map AC.row)],(q 1),92⟩) (AH [l,n0]) w wk ?_
 intro F I o2 q v1 J M
 have h1:Od B C F I o2=some v1:=J;unfold Od at h1
 refine aT λC2=>aU<|mM R<|mM R<|xL Ac R<|xS R<|mM R<|vM R<|vM R<|vQ R (Bk R Ac.slice<|iR R)<|vQ R (B5 R (iR R)<|iR R)<|xO R<|aZ<|cI R h1 (λO=>?_) λO=>?_
 ·refine Zd<|C2 _<|Zf<|Zf<|aT λC4=>?_
  refine ZA BA (by kernel_rfl) ?_
  refine qP R (AK R iL)<|qP R (AK R iL)<|qP R (Bk R Ac.slice iL)<|qP R (Am R iL iL)<|qP R (AK R iL)<|qO R (AK R iL)<|qO R (AK R iL)<|qO R (Bk R Ac.slice<|iR R)<|qO R (B5 R (iR R)<|iR R)<|qO R (AK R<|iR R)<|qT R (AK R iL)<|qT R (AK R iL)<|AG O λx1 T h3=>qT R (Az R Ac.slice (iR R) (iR R) (λ_=>R)<|AU T)<|qT R (A4 R B1<|iR R)<|qT R (Bc (d:=.str x1.Name) R A6 (iR R) R)<|qT R (AK R iL)<|qT R (AK R iL)<|AG h3 λx2 U h4=>qT R (Az R Ac.slice (iR R) (iR R) (λ_=>R)<|AU U)<|qT R (A4 R B1<|iR R)<|qT R (Bc (d:=.str x2.Name) R A6 (iR R) R)<|qT R (LP R (iR R)<|iR R)<|qO R (BI R (iR R)<|iR R)<|qP R (CW R iL<|iR R)<|qP R (Dj R iL)<|AQ.nil<|C4 _<|cI R h4 (λV=>?_) λV=>?_
  ·refine aT λC5=>aG [0,1,2,6,7] [1000,1001] ?_
   refine aR<|mM R<|mM R<|mM R<|AG V λx3 X h6=>xI Ac R X<|xB ((BO x3)) CV R ?_
   refine sQ R (Bt R GJ (q:=[]) (by exact Za) (cs:=[.r<|.str [],.r<|.str []])<|by rfl) ?_
   refine AG h6 λw1 Y h7=>?_
   refine Zo [1000,1001] (hc:=[(1000,some<|.box j 35 [.own 1001<|q 0]),(1001,some<|.arr (q 0) 39 2<|o2.map AC.row)]) (bs:=(U1 x3)) (caps:=[.ptr 1000 j 0 0]) R R R R iL R ⟨.inl ⟨iL,R⟩,.inl ⟨iL,R⟩,Za⟩ ⟨R,R,R,R,R,R,Za⟩ (by decide) (V3 Y) ?_
   intro i8 n1
   refine A8 [0,1,2,6,7,56,57,58,59,60,61,62] [1000,1001] ?_
   exact aZ<|C5 _<|aR<|mM R<|AG h7 λi9 Z h8=>xA R Z<|mA R<|Zh<|DN.mk h8 (AH [(i8 0),n1]) wk
  refine aT λC6=>aG [0,1,2,6,7] [1000,1001] ?_
  refine ZA BA (by kernel_rfl) ?_
  refine qP R (AK R iL)<|qP R (AK R iL)<|qP R (Bk R Ac.slice iL)<|qP R (Am R iL iL)<|qP R (AK R iL)<|qO R (AK R iL)<|qO R (AK R iL)<|AG V λx4 a0 h9=>qO R (Az R Ac.slice (iR R) (iR R) (λ_=>R)<|AU a0)<|qO R (A4 R B1<|iR R)<|qO R (Bc (d:=.str x4.Name) R A6 (iR R) R)<|qO R (AK R iL)<|qO R (AK R iL)<|AG h9 λx5 a2 a6=>qO R (Az R Ac.slice (iR R) (iR R) (λ_=>R)<|AU a2)<|qO R (A4 R B1<|iR R)<|qO R (Bc (d:=.str x5.Name) R A6 (iR R) R)<|qO R (LP R (iR R)<|iR R)<|qP R (CW R iL<|iR R)<|qP R (Dj R iL)<|AQ.nil<|C6 _<|cI R a6 (λu=>?_) λu=>?_
  ·refine aT λC7=>aR<|mM R ?_
   refine sQ R (Bt R GJ (q:=[]) (by exact Za) (cs:=[.r<|.str [],.r<|.str []])<|by rfl) ?_
   refine mM R<|mM R<|AG u λx6 a7 a8=>xI Ac R a7<|xB ((BO x6)) CV R<|AG a8 λw2 aa ab=>?_
   refine Zo [1000,1001] (hc:=[(1000,some<|.box j 35 [.own 1001<|q 0]),(1001,some<|.arr (q 0) 39 2<|o2.map AC.row)]) (bs:=(US x6)) (caps:=[.ptr 1000 j 0 0]) R R R R iL R ⟨.inl ⟨iL,R⟩,.inl ⟨iL,R⟩,Za⟩ ⟨R,R,R,R,R,R,Za⟩ (by decide) (V3 aa) ?_
   intro ac n2
   refine A8 [0,1,2,6,7,65,66,67,68,69,70,82,83,84,85,86,87,88,89] [1000,1001] ?_
   refine aZ<|C7 _<|aG [0,1,2,6,7] [1000,1001] ?_
   exact aR<|mM R<|AG ab λj4 ad ae=>xA R ad<|mA R<|Zh<|DN.mk ae (AH [(ac 0),n2]) wk
  refine aT λC8=>?_
  refine Nj 9 BA (by kernel_rfl) R R ?_
  refine Zw R R R (AK R iL)<|Zw R R R (AK R iL)<|Zw R R R (AK R iL)<|AG u λx7 af ag=>Zw R R R (Az R Ac.slice iL iL (λ_=>R) λ_=>af)<|Zw R R R (Ci (cs:=(BO x7)) R CV iL R R)<|Zw R R R (AK R iL)<|Zw R R R (AK R iL)<|AG ag λx8 ah ai=>Zw R R R (Az R Ac.slice iL iL (λ_=>R) λ_=>ah)<|Zw R R R (Ci (cs:=(BO x8)) R CV iL R R)<|AT.nil<|AG ai λw3 aj ak=>?_
  refine Zo [1000,1001] (hc:=[(1000,some<|.box j 35 [.own 1001<|q 0]),(1001,some<|.arr (q 0) 39 2<|o2.map AC.row)]) (bs:=[.agg<|BO x7,.agg<|BO x8]) (caps:=[.ptr 1000 j 0 0]) R R R R iL R ⟨.inl ⟨iL,R⟩,.inl ⟨iL,R⟩,Za⟩ ⟨R,R,R,R,R,R,Za⟩ (by decide) (V3 aj) ?_
  intro al n3
  refine A8 [0,1,2,6,7,18,19,20,21,22,23,24,25,26,27,65,66,67,68,69,70,82] [1000,1001] ?_
  refine aZ<|C8 _<|aG [0,1,2,6,7] [1000,1001] ?_
  exact aR<|mM R<|AG ak λav A an=>xA R A<|mM R<|AG an λj5 ao aq=>xA R ao<|mA R<|mA R<|Zh<|DN.mk aq (AH [(al 0),n3]) wk
 refine Zn ?_
 exact CP.mk (s':=⟨[],[(1000,some<|.box j 35 [.own 1001<|q 0]),(1001,some<|.arr (q 0) 39 2<|o2.map AC.row)],(q 1),92⟩) wk<|Cc (λ(r:(List AC)) rr h'=>∃(i:Nat→Nat),rr=.tup []∧h'=[(1000,some<|.box j 35 [.own 1001<|i 0]),(1001,some<|.arr (i 0) 39 2<|r.map AC.row)]) (E _<|xH M O)<|by exact⟨.tup [],[(1000,some<|.box j 35 [.own 1001<|q 0]),(1001,some<|.arr (q 0) 39 2<|o2.map AC.row)],⟨_,R,Za⟩,⟨.inr R,.inr R,Za⟩,R,R,AH [(q 0)],R,R⟩
theorem oP{l q r}(h:Oe l q=some r):AS prog 97 [qa l,qa q] (qa r):=by
 unfold Oe at h
 refine mF func97 ntmps97 R λj=>aU<|mA R<|aZ<|aU<|sS R (BF (cs:=[cZ]) 5 R V2 R R)<|aZ<|aT λw=>aR<|mM R<|mM R ?_
 refine sQ R (Pw (bs:=[.ptr 5 j 0 0]) R<|by exact⟨iL,Za⟩) ?_
 refine AL.weak (Zm (ZK 5 0 3050 39 2 (by decide) R R<|by decide)<|by exact ZE (e':=[(0,qa l),(1,qa q),(4,cZ),(5,.ptr 5 j 0 0),(6,qa l),(7,qa q),(8,.fn 149 [.ptr 5 j 0 0])]) (h':=[(5,some<|.box j 35 [.own 3050<|j+1]),(3050,some<|.arr (j+1) 39 2<|([]:List AC).map AC.row)]) ⟨jL,jL,jL,jL,jL,jL,jL,Za⟩ ⟨.inl R,.inl R,Za⟩ nL) ?_
 refine AG h λC u A=>?_
 refine Zo [5,3050] (hc:=[(1000,some<|.box j 35 [.own 1001<|j+1]),(1001,some<|.arr (j+1) 39 2<|([]:List AC).map AC.row)]) (bs:=[qa l,qa q,.fn 149 [.ptr 1000 j 0 0]]) (caps:=[]) R R R R iL R ⟨.inl ⟨iL,R⟩,.inl ⟨iL,R⟩,.inl ⟨iL,R⟩,Za⟩ ⟨R,R,R,R,R,R,Za⟩ (by decide) (mK u) ?_
 intro B E
 refine A8 [0,1,4,5,6,7,8,9] [5,3050] ?_
 exact aZ<|w _<|aU<|sQ R (AZ (a:=.own 3050<|B 0) R BD iL R R)<|mA R<|aZ<|Zj<|DU (P:=prog) (λ(r:(List AC))=>qa r) A iL<|.t<|.one<|.own R
theorem jA{q u r}(h:MY q u=some r):AS prog 52 [qc q,qc u] (.tup [qc r.1,qc r.2.1,rI r.2.2]):=by
 unfold MY at h
 refine mF func52 ntmps52 R λj=>aU<|mA R<|mA R<|mA R<|aZ<|aT λc2=>aU<|mM R<|AG h λe1 b8 h1=>cL (Oj<|b8) R<|mA R<|aZ<|aU<|mM R<|xU R<|aZ<|cI R h1 (λh2=>?_) λh2=>?_
 ·refine aT λc5=>aF [7] ?_
  exact aR<|mM R<|mA R<|mA R<|mA R<|aZ<|c5 _<|Zj<|HW (P:=prog) (λ(r:(List AI) × (List AI) × Int)=>qc r.1) (λ(r:(List AI) × (List AI) × Int)=>qc r.2.1) (λ(r:(List AI) × (List AI) × Int)=>rI r.2.2) h2 iL (.t<|.one<|.nil) (.t<|.one<|.nil)<|.t<|.d R
 refine Zd<|c2 _<|aT λc6=>aU<|mM R<|AG h2 λe2 b9 h3=>cL (Oj<|b9) R<|mA R<|aZ<|aT λc8=>aF [0,1,8] ?_
 refine aR<|mM R<|xU R<|aZ<|c8 _<|cI R h3 (λh4=>?_) λh4=>?_
 ·exact aU<|mM R<|mA R<|mA R<|mA R<|aZ<|Zj<|HW (P:=prog) (λ(r:(List AI) × (List AI) × Int)=>qc r.1) (λ(r:(List AI) × (List AI) × Int)=>qc r.2.1) (λ(r:(List AI) × (List AI) × Int)=>rI r.2.2) h4 iL (.t<|.one<|.nil) (.t<|.one<|.nil)<|.t<|.d R
 refine Zd<|c6 _<|aU<|mM R<|D5 h4 λr1 r2 ba h5=>cL (Rw<|ba) R<|mM R<|xX R<|xX R<|mA R<|mA R<|aZ<|aT λbb=>aT λbc=>aF [0,1,9] ?_
 refine aR<|mM R<|D5 h5 λr3 r4 bd h6=>cL (Rw<|bd) R<|mM R<|xX R<|xX R<|mA R<|mA R<|aZ<|bc _<|aU<|mM R<|mM R<|xU R<|aZ<|cI R h6 (λh7=>?_) λh7=>?_
 ·refine aT λbe=>aF [] ?_
  exact aR<|mA R<|mA R<|mA R<|aZ<|be _<|Zj<|HW (P:=prog) (λ(r:(List AI) × (List AI) × Int)=>qc r.1) (λ(r:(List AI) × (List AI) × Int)=>qc r.2.1) (λ(r:(List AI) × (List AI) × Int)=>rI r.2.2) h7 iL (.t<|.one<|.nil) (.t<|.one<|.nil)<|.t<|.d R
 refine Zd<|bb _<|aT λbf=>aF [0,1] ?_
 refine aR<|sS R (BF (cs:=Mn) 13 R TF R R)<|sS R (BF (cs:=Mn) 14 R TF R R)<|aZ<|bf _<|aT λbg=>aR<|mM R ?_
 refine sQ R (Bt R TH (q:=[(0,_)]) (by exact⟨R,R,R,iL,Za⟩) (cs:=[qc q,rI 0])<|by rfl) ?_
 refine sS R (A2 (cs:=[qc q,rI 0]) 51 R iL R R)<|mM R ?_
 refine sQ R (Bt R TH (q:=[(0,_)]) (by exact⟨R,R,R,iL,Za⟩) (cs:=[qc u,rI 0])<|by rfl) ?_
 refine sS R (A2 (cs:=[qc u,rI 0]) 54 R iL R R)<|mA R<|mA R<|aZ<|bg _<|aS λbh bi ac=>Zf<|IF h7 λo1 ad bj=>?_
 have J1:∀(M:Af) (O:Af) (w:NN),o1=(M,O)→bh ⟨[(13,.ptr 13 j 0 0),(14,.ptr 14 (j+1) 0 0)],[(13,some<|.box j 143 [.own 3130<|w 0,.own 3131<|w 1,rI M.cut]),(14,some<|.box (j+1) 143 [.own 3140<|w 2,.own 3141<|w 3,rI O.cut]),(3130,some<|.arr (w 0) 56 4<|M.out.map AI.row),(3131,some<|.arr (w 1) 37 3<|M.add.map AD.row),(3140,some<|.arr (w 2) 56 4<|O.out.map AI.row),(3141,some<|.arr (w 3) 37 3<|O.add.map AD.row)],(w 4),158⟩:=by
  intro M O w e
  have h8:=bj _ _ e
  refine bi _<|aT λbk=>aR<|Kc h8 λr5 r6 w1 bl h9=>?_
  refine Zo [13,3130,3131] (hc:=[(1000,some<|.box j 143 [.own 1001<|w 0,.own 1002<|w 1,rI M.cut]),(1001,some<|.arr (w 0) 56 4<|M.out.map AI.row),(1002,some<|.arr (w 1) 37 3<|M.add.map AD.row)]) (bs:=[.ptr 1000 j 0 0]) (caps:=[]) R R R R iL R ⟨.inl ⟨iL,R⟩,Za⟩ ⟨R,R,R,R,R,R,R,R,R,Za⟩ (by decide) (RU bl) ?_
  intro i6 n1
  refine A8 [13,14,143] [13,14,3140,3141] ?_
  refine mM R<|xX R<|xX R<|mA R<|mA R<|aZ<|bk _<|aT λbm=>aR<|Kc h9 λr7 r8 w2 bn bo=>?_
  refine Zo [14,3140,3141] (hc:=[(1000,some<|.box (j+1) 143 [.own 1001<|w 2,.own 1002<|w 3,rI O.cut]),(1001,some<|.arr (w 2) 56 4<|O.out.map AI.row),(1002,some<|.arr (w 3) 37 3<|O.add.map AD.row)]) (bs:=[.ptr 1000 (j+1) 0 0]) (caps:=[]) R R R R iL R ⟨.inl ⟨iL,R⟩,Za⟩ ⟨R,R,R,R,R,R,R,R,R,Za⟩ (by decide) (RU bn) ?_
  intro i7 n2
  refine A8 [13,14,22,23,142,143,144,145,147] [13,14] ?_
  refine mM R<|xX R<|xX R<|mA R<|mA R<|aZ<|bm _<|aT λbp=>aT λbq=>aF [22,23,24,25] ?_
  refine aR<|mM R<|xU R<|mM R<|vM R<|vQ R (Ct R (iR R) iL)<|xO R<|aZ<|bq _<|cI R bo (λU=>?_) λU=>?_
  ·refine aT λbr=>aF [] ?_
   exact aR<|mA R<|mA R<|mA R<|aZ<|br _<|Zj<|HW (P:=prog) (λ(r:(List AI) × (List AI) × Int)=>qc r.1) (λ(r:(List AI) × (List AI) × Int)=>qc r.2.1) (λ(r:(List AI) × (List AI) × Int)=>rI r.2.2) U iL (.t<|.one<|.nil) (.t<|.one<|.nil)<|.t<|.d R
  exact Zd<|bp _<|aU<|mM R<|mM R<|mA R<|mA R<|mA R<|aZ<|Zj<|HW (P:=prog) (λ(r:(List AI) × (List AI) × Int)=>qc r.1) (λ(r:(List AI) × (List AI) × Int)=>qc r.2.1) (λ(r:(List AI) × (List AI) × Int)=>rI r.2.2) U iL (.t<|.d R) (.t<|.d R)<|.t<|.d R
 refine ur (λ(C:Af) (E:Af) (A:BU) (B:BU) l=>⟨[(13,.ptr 13 j 0 0),(14,.ptr 14 (j+1) 0 0),(15,.ptr 51 (j+2) 0 0),(16,.ptr 54 (j+3) 0 0)],[(13,some<|.box j 143 [.own 3130<|l 0,.own 3131<|l 1,rI C.cut]),(14,some<|.box (j+1) 143 [.own 3140<|l 2,.own 3141<|l 3,rI E.cut]),(51,some<|.box (j+2) 146 [qc A.steps,rI A.used]),(54,some<|.box (j+3) 146 [qc B.steps,rI B.used]),(3130,some<|.arr (l 0) 56 4<|C.out.map AI.row),(3131,some<|.arr (l 1) 37 3<|C.add.map AD.row),(3140,some<|.arr (l 2) 56 4<|E.out.map AI.row),(3141,some<|.arr (l 3) 37 3<|E.add.map AD.row)],(l 4),158⟩) (AH [(j+4),(j+5),(j+6),(j+7),(j+8)]) ad (Zm (Zm (ZK 13 0 3130 56 4 (by decide) R R<|by decide)<|by exact ZE (e':=[(0,qc q),(1,qc u),(13,.ptr 13 j 0 0),(14,.ptr 14 (j+1) 0 0),(15,.ptr 51 (j+2) 0 0),(16,.ptr 54 (j+3) 0 0),(49,qc q),(50,.agg [qc q,rI 0]),(51,.ptr 51 (j+2) 0 0),(52,qc u),(53,.agg [qc u,rI 0]),(54,.ptr 54 (j+3) 0 0)]) (h':=[(13,some<|.box j 143 [.own 3130<|j+4,cZ,rI 0]),(14,some<|.box (j+1) 143 Mn),(51,some<|.box (j+2) 146 [qc q,rI 0]),(54,some<|.box (j+3) 146 [qc u,rI 0]),(3130,some<|.arr (j+4) 56 4<|([]:List AI).map AI.row)]) ⟨jL,jL,jL,jL,jL,jL,jL,jL,jL,jL,jL,jL,Za⟩ ⟨.inl R,.inl R,.inl R,.inl R,.inl R,Za⟩ nL)<|Zm (Zm (ZK 13 1 3131 37 3 (by decide) R R<|by decide)<|by exact ZE (e':=[(0,qc q),(1,qc u),(13,.ptr 13 j 0 0),(14,.ptr 14 (j+1) 0 0),(15,.ptr 51 (j+2) 0 0),(16,.ptr 54 (j+3) 0 0),(49,qc q),(50,.agg [qc q,rI 0]),(51,.ptr 51 (j+2) 0 0),(52,qc u),(53,.agg [qc u,rI 0]),(54,.ptr 54 (j+3) 0 0)]) (h':=[(13,some<|.box j 143 [.own 3130<|j+4,.own 3131<|j+5,rI 0]),(14,some<|.box (j+1) 143 Mn),(51,some<|.box (j+2) 146 [qc q,rI 0]),(54,some<|.box (j+3) 146 [qc u,rI 0]),(3130,some<|.arr (j+4) 56 4<|([]:List AI).map AI.row),(3131,some<|.arr (j+5) 37 3<|([]:List AD).map AD.row)]) ⟨jL,jL,jL,jL,jL,jL,jL,jL,jL,jL,jL,jL,Za⟩ ⟨.inl R,.inl R,.inl R,.inl R,.inl R,.inl R,Za⟩ nL)<|Zm (Zm (ZK 14 0 3140 56 4 (by decide) R R<|by decide)<|by exact ZE (e':=[(0,qc q),(1,qc u),(13,.ptr 13 j 0 0),(14,.ptr 14 (j+1) 0 0),(15,.ptr 51 (j+2) 0 0),(16,.ptr 54 (j+3) 0 0),(49,qc q),(50,.agg [qc q,rI 0]),(51,.ptr 51 (j+2) 0 0),(52,qc u),(53,.agg [qc u,rI 0]),(54,.ptr 54 (j+3) 0 0)]) (h':=[(13,some<|.box j 143 [.own 3130<|j+4,.own 3131<|j+5,rI 0]),(14,some<|.box (j+1) 143 [.own 3140<|j+6,cZ,rI 0]),(51,some<|.box (j+2) 146 [qc q,rI 0]),(54,some<|.box (j+3) 146 [qc u,rI 0]),(3130,some<|.arr (j+4) 56 4<|([]:List AI).map AI.row),(3131,some<|.arr (j+5) 37 3<|([]:List AD).map AD.row),(3140,some<|.arr (j+6) 56 4<|([]:List AI).map AI.row)]) ⟨jL,jL,jL,jL,jL,jL,jL,jL,jL,jL,jL,jL,Za⟩ ⟨.inl R,.inl R,.inl R,.inl R,.inl R,.inl R,.inl R,Za⟩ nL)<|Zm (Zm (ZK 14 1 3141 37 3 (by decide) R R<|by decide)<|by exact ZE (e':=[(0,qc q),(1,qc u),(13,.ptr 13 j 0 0),(14,.ptr 14 (j+1) 0 0),(15,.ptr 51 (j+2) 0 0),(16,.ptr 54 (j+3) 0 0),(49,qc q),(50,.agg [qc q,rI 0]),(51,.ptr 51 (j+2) 0 0),(52,qc u),(53,.agg [qc u,rI 0]),(54,.ptr 54 (j+3) 0 0)]) (h':=[(13,some<|.box j 143 [.own 3130<|j+4,.own 3131<|j+5,rI 0]),(14,some<|.box (j+1) 143 [.own 3140<|j+6,.own 3141<|j+7,rI 0]),(51,some<|.box (j+2) 146 [qc q,rI 0]),(54,some<|.box (j+3) 146 [qc u,rI 0]),(3130,some<|.arr (j+4) 56 4<|([]:List AI).map AI.row),(3131,some<|.arr (j+5) 37 3<|([]:List AD).map AD.row),(3140,some<|.arr (j+6) 56 4<|([]:List AI).map AI.row),(3141,some<|.arr (j+7) 37 3<|([]:List AD).map AD.row)]) ⟨jL,jL,jL,jL,jL,jL,jL,jL,jL,jL,jL,jL,Za⟩ ⟨.inl R,.inl R,.inl R,.inl R,.inl R,.inl R,.inl R,.inl R,Za⟩ nL) wk) ?_
 intro C E A B l v1 bs bt
 have ae:Lp C E A B=some v1:=bs;unfold Lp at ae
 refine aT λbu=>aS λbv bw T=>aR<|mM R<|AG ae λr9 af bx=>?_
 refine Zo [51] (hc:=[(1000,some<|.box (j+2) 146 [qc A.steps,rI A.used])]) (bs:=[.ptr 1000 (j+2) 0 0]) (caps:=[]) R R R R iL R ⟨.inl ⟨iL,R⟩,Za⟩ ⟨R,R,R,Za⟩ (by decide) (JW af) ?_
 intro i8 n3
 refine A8 [13,14,15,16,55,56] [13,14,51,54,3130,3131,3140,3141] ?_
 refine sQ R (C1 R iL iL)<|mM R<|vM R<|BH bx λp4 ag bz=>?_
 have J2:∀(x5:Bool) (i9:NN),p4=x5→bv ⟨[(13,.ptr 13 j 0 0),(14,.ptr 14 (j+1) 0 0),(15,.ptr 51 (j+2) 0 0),(16,.ptr 54 (j+3) 0 0),(62,rB x5)],[(13,some<|.box j 143 [.own 3130<|l 0,.own 3131<|l 1,rI C.cut]),(14,some<|.box (j+1) 143 [.own 3140<|l 2,.own 3141<|l 3,rI E.cut]),(51,some<|.box (j+2) 146 [qc A.steps,rI A.used]),(54,some<|.box (j+3) 146 [qc B.steps,rI B.used]),(3130,some<|.arr (l 0) 56 4<|C.out.map AI.row),(3131,some<|.arr (l 1) 37 3<|C.add.map AD.row),(3140,some<|.arr (l 2) 56 4<|E.out.map AI.row),(3141,some<|.arr (l 3) 37 3<|E.add.map AD.row)],(i9 0),158⟩:=by
  intro x5 i9 e
  have c0:=bz _ e
  refine bw _<|cI R c0 (λV=>?_) λV=>?_
  ·refine Zd<|bu _<|Zf<|aT λc1=>Zf<|aT λc3=>aR<|mM R ?_
   refine Zo [51] (hc:=[(1000,some<|.box (j+2) 146 [qc A.steps,rI A.used])]) (bs:=[.ptr 1000 (j+2) 0 0]) (caps:=[]) R R R R iL R ⟨.inl ⟨iL,R⟩,Za⟩ ⟨R,R,R,Za⟩ (by decide) (JW af) ?_
   intro dg n4
   refine A8 [13,14,15,16,62,64,65] [13,14,51,54,3130,3131,3140,3141] ?_
   refine xQ R<|mA R<|aZ<|c3 _<|cI R V (λX=>?_) λX=>?_
   ·refine aT λc4=>aR<|mM R<|mM R<|AG X λc7 ah c9=>?_
    refine Zo [51] (hc:=[(1000,some<|.box (j+2) 146 [qc A.steps,rI A.used])]) (bs:=[.ptr 1000 (j+2) 0 0]) (caps:=[]) R R R R iL R ⟨.inl ⟨iL,R⟩,Za⟩ ⟨R,R,R,Za⟩ (by decide) (Iy ah) ?_
    intro dh n5
    refine A8 [13,14,15,16,62,63,64,65,66,67,68,69] [13,14,51,54,3130,3131,3140,3141] ?_
    refine D5 c9 λY w3 ai ca=>?_
    refine Zo [51] (hc:=[(1000,some<|.box (j+2) 146 [qc A.steps,rI A.used])]) (bs:=[.ptr 1000 (j+2) 0 0,rI c7]) (caps:=[]) R R R R iL R ⟨.inl ⟨iL,R⟩,.inl ⟨iL,R⟩,Za⟩ ⟨R,R,R,Za⟩ (by decide) (JH ai) ?_
    intro di n6
    refine A8 [13,14,15,16,62,63,64,65,66,67,68,69,70] [13,14,51,54,3130,3131,3140,3141] ?_
    refine sS R (BF (cs:=EB) 17 R E8 R R)<|Zk R R (Aj (ds:=(Bn Y)) R FE iL R iL R R R R)<|aZ<|c4 _<|aT λcb=>aG [13,14,15,16,17] [13,14,17,51,54,3130,3131,3140,3141] ?_
    refine aR<|lF Ef B9 R R<|AG ca λw4 cc cd=>?_
    refine Zo [13,3130,3131] (hc:=[(1000,some<|.box j 143 [.own 1001<|l 0,.own 1002<|l 1,rI C.cut]),(1001,some<|.arr (l 0) 56 4<|C.out.map AI.row),(1002,some<|.arr (l 1) 37 3<|C.add.map AD.row)]) (bs:=[.ptr 1000 j 0 0,qb Y.Elems]) (caps:=[]) R R R R iL R ⟨.inl ⟨iL,R⟩,.inl ⟨iL,R⟩,Za⟩ ⟨R,R,R,R,R,R,R,R,R,Za⟩ (by decide) (QY cc) ?_
    intro aj n7
    refine A8 [13,14,15,16,17,71,72,73] [13,14,17,51,54,3130,3131,3140,3141] ?_
    refine aZ<|cb _<|aT λcf=>aR<|lF Ef B9 R R<|xL Ah R<|AG cd λw5 cg ch=>?_
    refine Zo [14,3140,3141] (hc:=[(1000,some<|.box (j+1) 143 [.own 1001<|l 2,.own 1002<|l 3,rI E.cut]),(1001,some<|.arr (l 2) 56 4<|E.out.map AI.row),(1002,some<|.arr (l 3) 37 3<|E.add.map AD.row)]) (bs:=[.ptr 1000 (j+1) 0 0,rL Y.Elems,.r<|.sl []]) (caps:=[]) R R R R iL R ⟨.inl ⟨iL,R⟩,.inl ⟨iL,R⟩,.inr ⟨iL,R⟩,Za⟩ ⟨R,R,R,R,R,R,R,R,R,Za⟩ (by decide) (NV cg) ?_
    intro ak n8
    refine A8 [13,14,15,16,17,71,72,73,74,75,76,77] [13,14,17,51,54,3130,3131,3140,3141] ?_
    exact aZ<|cf _<|Zn<|Id.mk ch (AH [(aj 0),(aj 1),(ak 0),(ak 1),n8]) wk
   refine aT λcj=>aR<|mM R<|AG X λdj al ck=>?_
   refine Zo [54] (hc:=[(1000,some<|.box (j+3) 146 [qc B.steps,rI B.used])]) (bs:=[.ptr 1000 (j+3) 0 0]) (caps:=[]) R R R R iL R ⟨.inl ⟨iL,R⟩,Za⟩ ⟨R,R,R,Za⟩ (by decide) (JW al) ?_
   intro dk n9
   refine A8 [13,14,15,16,62,63,64,65,66,79,80] [13,14,51,54,3130,3131,3140,3141] ?_
   refine xQ R<|mA R<|aZ<|cj _<|cI R ck (λZ=>?_) λZ=>?_
   ·refine aT λcl=>aG [13,14,15,16] [13,14,51,54,3130,3131,3140,3141] ?_
    refine aR<|mM R<|mM R<|AG Z λcm an cn=>?_
    refine Zo [54] (hc:=[(1000,some<|.box (j+3) 146 [qc B.steps,rI B.used])]) (bs:=[.ptr 1000 (j+3) 0 0]) (caps:=[]) R R R R iL R ⟨.inl ⟨iL,R⟩,Za⟩ ⟨R,R,R,Za⟩ (by decide) (Iy an) ?_
    intro i16 dm
    refine A8 [13,14,15,16,82,83,84] [13,14,51,54,3130,3131,3140,3141] ?_
    refine D5 cn λa0 w6 ao cp=>?_
    refine Zo [54] (hc:=[(1000,some<|.box (j+3) 146 [qc B.steps,rI B.used])]) (bs:=[.ptr 1000 (j+3) 0 0,rI cm]) (caps:=[]) R R R R iL R ⟨.inl ⟨iL,R⟩,.inl ⟨iL,R⟩,Za⟩ ⟨R,R,R,Za⟩ (by decide) (JH ao) ?_
    intro dn dp
    refine A8 [13,14,15,16,82,83,84,85] [13,14,51,54,3130,3131,3140,3141] ?_
    refine sS R (BF (cs:=EB) 18 R E8 R R)<|Zk R R (Aj (ds:=(Bn a0)) R FE iL R iL R R R R)<|aZ<|cl _<|aT λcq=>aR<|lF Ef B9 R R<|xL Ah R<|AG cp λw7 cr cs=>?_
    refine Zo [13,3130,3131] (hc:=[(1000,some<|.box j 143 [.own 1001<|l 0,.own 1002<|l 1,rI C.cut]),(1001,some<|.arr (l 0) 56 4<|C.out.map AI.row),(1002,some<|.arr (l 1) 37 3<|C.add.map AD.row)]) (bs:=[.ptr 1000 j 0 0,rL a0.Elems,.r<|.sl []]) (caps:=[]) R R R R iL R ⟨.inl ⟨iL,R⟩,.inl ⟨iL,R⟩,.inr ⟨iL,R⟩,Za⟩ ⟨R,R,R,R,R,R,R,R,R,Za⟩ (by decide) (NV cr) ?_
    intro aq dq
    refine A8 [13,14,15,16,18,82,83,84,85,86,87,88,89] [13,14,18,51,54,3130,3131,3140,3141] ?_
    refine aZ<|cq _<|aT λct=>aR<|lF Ef B9 R R<|AG cs λw8 cu cv=>?_
    refine Zo [14,3140,3141] (hc:=[(1000,some<|.box (j+1) 143 [.own 1001<|l 2,.own 1002<|l 3,rI E.cut]),(1001,some<|.arr (l 2) 56 4<|E.out.map AI.row),(1002,some<|.arr (l 3) 37 3<|E.add.map AD.row)]) (bs:=[.ptr 1000 (j+1) 0 0,qb a0.Elems]) (caps:=[]) R R R R iL R ⟨.inl ⟨iL,R⟩,.inl ⟨iL,R⟩,Za⟩ ⟨R,R,R,R,R,R,R,R,R,Za⟩ (by decide) (QY cu) ?_
    intro ar cw
    refine A8 [13,14,15,16,18,82,83,84,85,86,87,88,89,90,91,92] [13,14,18,51,54,3130,3131,3140,3141] ?_
    exact aZ<|ct _<|Zn<|Id.mk cv (AH [(aq 0),(aq 1),(ar 0),(ar 1),cw]) wk
   refine Zd<|c1 _<|aT λcx=>aG [13,14,15,16] [13,14,51,54,3130,3131,3140,3141] ?_
   refine aR<|mM R<|AG Z λI av cy=>?_
   refine Zo [51] (hc:=[(1000,some<|.box (j+2) 146 [qc A.steps,rI A.used])]) (bs:=[.ptr 1000 (j+2) 0 0]) (caps:=[]) R R R R iL R ⟨.inl ⟨iL,R⟩,Za⟩ ⟨R,R,R,Za⟩ (by decide) (Iy av) ?_
   intro dr ds
   refine A8 [13,14,15,16,93,94] [13,14,51,54,3130,3131,3140,3141] ?_
   refine mM R<|AG cy λJ aw cz=>?_
   refine Zo [54] (hc:=[(1000,some<|.box (j+3) 146 [qc B.steps,rI B.used])]) (bs:=[.ptr 1000 (j+3) 0 0]) (caps:=[]) R R R R iL R ⟨.inl ⟨iL,R⟩,Za⟩ ⟨R,R,R,Za⟩ (by decide) (Iy aw) ?_
   intro dt du
   refine A8 [13,14,15,16,93,94,95,96] [13,14,51,54,3130,3131,3140,3141] ?_
   refine sQ R (LS R iL iL)<|mA R<|aZ<|cx _<|aT λd0=>aR<|mM R<|mM R<|D5 cz λax w9 ay d1=>?_
   refine Zo [51] (hc:=[(1000,some<|.box (j+2) 146 [qc A.steps,rI A.used])]) (bs:=[.ptr 1000 (j+2) 0 0,rI<|(min I J)]) (caps:=[]) R R R R iL R ⟨.inl ⟨iL,R⟩,.inl ⟨iL,R⟩,Za⟩ ⟨R,R,R,Za⟩ (by decide) (JH ay) ?_
   intro dv dw
   refine A8 [13,14,15,16,19,93,94,95,96,97,98,99,100] [13,14,51,54,3130,3131,3140,3141] ?_
   refine mM R<|mM R<|D5 d1 λa2 dx az d2=>?_
   refine Zo [54] (hc:=[(1000,some<|.box (j+3) 146 [qc B.steps,rI B.used])]) (bs:=[.ptr 1000 (j+3) 0 0,rI<|(min I J)]) (caps:=[]) R R R R iL R ⟨.inl ⟨iL,R⟩,.inl ⟨iL,R⟩,Za⟩ ⟨R,R,R,Za⟩ (by decide) (JH az) ?_
   intro dy a6
   refine A8 [13,14,15,16,19,93,94,95,96,97,98,99,100,101,102,103] [13,14,51,54,3130,3131,3140,3141] ?_
   refine sS R (BF (cs:=EB) 20 R E8 R R)<|sS R (BF (cs:=EB) 21 R E8 R R)<|Zk R R (Aj (ds:=(Bn ax)) R FE iL R iL R R R R)<|Zk R R (Aj (ds:=(Bn a2)) R FE iL R iL R R R R)<|aZ<|d0 _<|Zf<|aT λd3=>aG [13,14,15,16,19,20,21] [13,14,20,21,51,54,3130,3131,3140,3141] ?_
   refine aR<|lF CH AJ R R<|xQ R<|mM R<|vF CH AJ R R<|vQ R (Am R (iR R) iL)<|xN R<|mA R<|aZ<|d3 _<|cI R d2 (λa7=>?_) λa7=>?_
   ·refine aT λd4=>aR<|mM R<|lF D7 BD R R<|lF D7 BD R R<|AG a7 λb0 b2 d5=>sS R (C0 (r:=qa b0) (caps:=[]) (bs:=[qa ax.Attrs,qa a2.Attrs]) R iL R ⟨.inl ⟨iL,R⟩,.inl ⟨iL,R⟩,Za⟩ λ_=>oP<|b2)<|AG d5 λdz b3 d6=>?_
    refine Zo [13,3130,3131] (hc:=[(1000,some<|.box j 143 [.own 1001<|l 0,.own 1002<|l 1,rI C.cut]),(1001,some<|.arr (l 0) 56 4<|C.out.map AI.row),(1002,some<|.arr (l 1) 37 3<|C.add.map AD.row)]) (bs:=[.ptr 1000 j 0 0,rI<|(min I J),qa b0]) (caps:=[]) R R R R iL R ⟨.inl ⟨iL,R⟩,.inl ⟨iL,R⟩,.inl ⟨iL,R⟩,Za⟩ ⟨R,R,R,R,R,R,R,R,R,Za⟩ (by decide) (NV b3) ?_
    intro b4 e0
    refine A8 [13,14,15,16,19,20,21,104,105,106,107,108,112,113,114,115,116,117,118,119] [13,14,20,21,51,54,3130,3131,3140,3141] ?_
    refine aZ<|d4 _<|aG [13,14,15,16,19,21] [13,14,21,51,54,3130,3131,3140,3141] ?_
    refine aR<|mM R<|lF D7 BD R R<|AG d6 λe3 b5 d7=>?_
    refine Zo [14,3140,3141] (hc:=[(1000,some<|.box (j+1) 143 [.own 1001<|l 2,.own 1002<|l 3,rI E.cut]),(1001,some<|.arr (l 2) 56 4<|E.out.map AI.row),(1002,some<|.arr (l 3) 37 3<|E.add.map AD.row)]) (bs:=[.ptr 1000 (j+1) 0 0,rI<|(min I J),qa a2.Attrs]) (caps:=[]) R R R R iL R ⟨.inl ⟨iL,R⟩,.inl ⟨iL,R⟩,.inl ⟨iL,R⟩,Za⟩ ⟨R,R,R,R,R,R,R,R,R,Za⟩ (by decide) (NV b5) ?_
    intro b6 d8
    refine A8 [13,14,15,16,19,21,120,121,122,123] [13,14,21,51,54,3130,3131,3140,3141] ?_
    exact Zh<|Id.mk d7 (AH [(b4 0),(b4 1),(b6 0),(b6 1),d8]) wk
   refine aU<|lF CH AJ R R<|xQ R<|mA R<|aZ<|cI R a7 (λa8=>?_) λa8=>?_
   ·refine aG [13,14,15,16,19] [13,14,51,54,3130,3131,3140,3141] ?_
    exact aR<|lF Fv AJ R R<|mM R<|AG a8 λx6 d9 da=>xA R d9<|sQ R (fB R Fv iL fR R)<|Zk R R (Aj (ds:=[.own 3140<|l 2,.own 3141<|l 3,rI x6]) R Gz iL R iL R R R R)<|Zh<|Id.mk da (AH [(l 0),(l 1),(l 2),(l 3),(a6+2)]) wk
   refine aT λdb=>aG [13,14,15,16,19,21] [13,14,21,51,54,3130,3131,3140,3141] ?_
   refine aR<|lF CH AJ R R<|xQ R<|mA R<|aZ<|db _<|cI R a8 (λaa=>?_) λaa=>?_
   ·exact aR<|lF Fv AJ R R<|mM R<|AG aa λx7 dc dd=>xA R dc<|sQ R (fB R Fv iL fR R)<|Zk R R (Aj (ds:=[.own 3130<|l 0,.own 3131<|l 1,rI x7]) R Gz iL R iL R R R R)<|Zh<|Id.mk dd (AH [(l 0),(l 1),(l 2),(l 3),(a6+2)]) wk
   exact Zd<|Id.mk aa (AH [(l 0),(l 1),(l 2),(l 3),(a6+2)]) wk
  exact Zn<|ac _ _ wk<|J1 _ _ (AH [(l 0),(l 1),(l 2),(l 3),(i9 0)])<|xH bt V
 refine AL.split ((decide<|0≤r9)==false) (λF=>?_) λF=>?_
 ·have ab:=CF F ag
  refine AL.weak (by exact Q3 (e':=[(13,.ptr 13 j 0 0),(14,.ptr 14 (j+1) 0 0),(15,.ptr 51 (j+2) 0 0),(16,.ptr 54 (j+3) 0 0),(55,.ptr 51 (j+2) 0 0),(56,rI r9),(57,rB<|(decide<|0≤r9)),(58,rB<|(decide<|0≤r9)),(59,.ptr 54 (j+3) 0 0)]) F ⟨.inl R,.inl R,.inl R,.inl R,.inl R,.inl R,.inl R,.inl R,.inr iL,Za⟩) ?_
  refine AG ab λe4 b7 de=>?_
  refine iB (.one R R R) F [54] (hc:=[(1000,some<|.box (j+3) 146 [qc B.steps,rI B.used])]) (bs:=[.ptr 1000 (j+3) 0 0]) (caps:=[]) R R R iL R ⟨.inl ⟨iL,R⟩,Za⟩ ⟨R,R,R,Za⟩ (by decide) (JW b7) ?_
  intro e5 df
  refine A8 [13,14,15,16,55,56,57,58,59,60] [13,14,51,54,3130,3131,3140,3141] ?_
  exact IB (.one R R R) F R R (AR.spec (C1 R (.inl R)<|.inl R) _)<|sQ R (CW R iL iL)<|Zh<|T _ _ wk<|J2 _ (AH [df]) (Zc de).symm
 ·have ab:=CA F ag
  exact GC (.one R R R) F R R<|GC (.one R R R) F R R<|xO R<|Zh<|T _ _ wk<|J2 _ (AH [n3]) (Zc ab).symm
theorem UQ{F:List AC}{B:AC}{I:AC}{r:(List AC)}{j:Nat}{l:Nat}(h:Kj F B I=some r):Bb prog 150 2 [.agg<|BO B,.agg<|BO I,.ptr 1000 j 0 0] [(1000,some<|.box j 35 [.own 1001 l]),(1001,some<|.arr l 39 2<|F.map AC.row)] (λrr h'=>∃(i:Nat→Nat),rr=.tup []∧h'=[(1000,some<|.box j 35 [.own 1001<|i 0]),(1001,some<|.arr (i 0) 39 2<|r.map AC.row)]):=by
 unfold Kj at h
 refine EE func150 R R ntmps150 (Zv R) λC=>aU<|sS R (A2 (cs:=(BO B)) 3 R iL R R)<|sS R (A2 (cs:=(BO I)) 4 R iL R R)<|aZ<|aS λV X w=>aU<|lF B1 A6 R R<|sQ R (Cz R iL iL)<|aZ<|BH h λY A J=>?_
 have T:∀(E:AC) (q:NN),Y=E→V ⟨[(2,.ptr 1000 j 0 0),(4,.ptr 4 (C+1) 0 0)],[(4,some<|.box (C+1) 39<|BO E),(1000,some<|.box j 35 [.own 1001 l]),(1001,some<|.arr l 39 2<|F.map AC.row)],(q 0),13⟩:=by
  intro E q e
  have Z:=J _ e
  refine X _<|aR<|sQ R (AZ (a:=.own 1001 l) R BD iL R R)<|xC CV R<|sS R (B3 11 R Ac (f:=AC.row) (l:=([E]:List AC)) ⟨R,⟨_,iL,R⟩,Za⟩ R (λ_=>R) R)<|AG Z λU M h2=>sS R (Cj R Ac iL R (.inr<|.inl ⟨_,_,iL,R⟩) M)<|Zk R R (Aj (ds:=[.own 1001<|(q 0)+1]) R Gf iL R iL R R R R)<|Zh ?_
  exact CP.mk (s':=⟨[],[(1000,some<|.box j 35 [.own 1001<|(q 0)+1]),(1001,some<|.arr ((q 0)+1) 39 2<|U.map AC.row)],((q 0)+2),13⟩) wk<|Cc (λ(r:(List AC)) rr h'=>∃(i:Nat→Nat),rr=.tup []∧h'=[(1000,some<|.box j 35 [.own 1001<|i 0]),(1001,some<|.arr (i 0) 39 2<|r.map AC.row)]) h2<|by exact⟨.tup [],[(1000,some<|.box j 35 [.own 1001<|(q 0)+1]),(1001,some<|.arr ((q 0)+1) 39 2<|U.map AC.row)],⟨_,R,Za⟩,⟨.inr R,.inr R,Za⟩,R,R,AH [((q 0)+1)],R,R⟩
 refine aC R (λu=>?_) λu=>?_
 ·have O:=CF u A
  exact aR<|xC CV R<|Zk R R (Aj (ds:=(BO B)) R Lt iL R iL R R R R)<|Zh<|w _ _ wk<|T _ (AH [(C+2)]) (Zc O).symm
 ·have O:=CA u A
  exact Zd<|w _ _ wk<|T _ (AH [(C+2)]) (Zc O).symm
theorem iy{c1:List AC}{B:List AC}{C:List AC}{r:(List AC)}{j:Nat}{l:Nat}(h:Pa c1 B C=some r):Bb prog 120 2 [qa B,qa C,.fn 150 [.ptr 1000 j 0 0]] [(1000,some<|.box j 35 [.own 1001 l]),(1001,some<|.arr l 39 2<|c1.map AC.row)] (λrr h'=>∃(i:Nat→Nat),rr=.tup []∧h'=[(1000,some<|.box j 35 [.own 1001<|i 0]),(1001,some<|.arr (i 0) 39 2<|r.map AC.row)]):=by
 unfold Pa at h
 refine EE func120 R R ntmps120 (Zv R) λn0=>aU<|mA R<|mA R<|aZ<|Zf<|BP h λo4 w ar E=>Gk (λ(F:Int) (I:Int) (o2:List AC) q=>⟨[(0,qa B),(1,qa C),(2,.fn 150 [.ptr 1000 j 0 0]),(6,rI F),(7,rI I)],[(1000,some<|.box j 35 [.own 1001<|q 0]),(1001,some<|.arr (q 0) 39 2<|o2.map AC.row)],(q 1),92⟩) (AH [l,n0]) w wk ?_
 intro F I o2 q v1 J M
 have h1:OU B C F I o2=some v1:=J;unfold OU at h1
 refine aT λC2=>aU<|mM R<|mM R<|xL Ac R<|xS R<|mM R<|vM R<|vM R<|vQ R (Bk R Ac.slice<|iR R)<|vQ R (B5 R (iR R)<|iR R)<|xO R<|aZ<|cI R h1 (λO=>?_) λO=>?_
 ·refine Zd<|C2 _<|Zf<|Zf<|aT λC4=>?_
  refine ZA BA (by kernel_rfl) ?_
  refine qP R (AK R iL)<|qP R (AK R iL)<|qP R (Bk R Ac.slice iL)<|qP R (Am R iL iL)<|qP R (AK R iL)<|qO R (AK R iL)<|qO R (AK R iL)<|qO R (Bk R Ac.slice<|iR R)<|qO R (B5 R (iR R)<|iR R)<|qO R (AK R<|iR R)<|qT R (AK R iL)<|qT R (AK R iL)<|AG O λx1 T h3=>qT R (Az R Ac.slice (iR R) (iR R) (λ_=>R)<|AU T)<|qT R (A4 R B1<|iR R)<|qT R (Bc (d:=.str x1.Name) R A6 (iR R) R)<|qT R (AK R iL)<|qT R (AK R iL)<|AG h3 λx2 U h4=>qT R (Az R Ac.slice (iR R) (iR R) (λ_=>R)<|AU U)<|qT R (A4 R B1<|iR R)<|qT R (Bc (d:=.str x2.Name) R A6 (iR R) R)<|qT R (LP R (iR R)<|iR R)<|qO R (BI R (iR R)<|iR R)<|qP R (CW R iL<|iR R)<|qP R (Dj R iL)<|AQ.nil<|C4 _<|cI R h4 (λV=>?_) λV=>?_
  ·refine aT λC5=>aG [0,1,2,6,7] [1000,1001] ?_
   refine aR<|mM R<|mM R<|mM R<|AG V λx3 X h6=>xI Ac R X<|xB ((BO x3)) CV R ?_
   refine sQ R (Bt R GJ (q:=[]) (by exact Za) (cs:=[.r<|.str [],.r<|.str []])<|by rfl) ?_
   refine AG h6 λw1 Y h7=>?_
   refine Zo [1000,1001] (hc:=[(1000,some<|.box j 35 [.own 1001<|q 0]),(1001,some<|.arr (q 0) 39 2<|o2.map AC.row)]) (bs:=(U1 x3)) (caps:=[.ptr 1000 j 0 0]) R R R R iL R ⟨.inl ⟨iL,R⟩,.inl ⟨iL,R⟩,Za⟩ ⟨R,R,R,R,R,R,Za⟩ (by decide) (UQ Y) ?_
   intro i8 n1
   refine A8 [0,1,2,6,7,56,57,58,59,60,61,62] [1000,1001] ?_
   exact aZ<|C5 _<|aR<|mM R<|AG h7 λi9 Z h8=>xA R Z<|mA R<|Zh<|DN.mk h8 (AH [(i8 0),n1]) wk
  refine aT λC6=>aG [0,1,2,6,7] [1000,1001] ?_
  refine ZA BA (by kernel_rfl) ?_
  refine qP R (AK R iL)<|qP R (AK R iL)<|qP R (Bk R Ac.slice iL)<|qP R (Am R iL iL)<|qP R (AK R iL)<|qO R (AK R iL)<|qO R (AK R iL)<|AG V λx4 a0 h9=>qO R (Az R Ac.slice (iR R) (iR R) (λ_=>R)<|AU a0)<|qO R (A4 R B1<|iR R)<|qO R (Bc (d:=.str x4.Name) R A6 (iR R) R)<|qO R (AK R iL)<|qO R (AK R iL)<|AG h9 λx5 a2 a6=>qO R (Az R Ac.slice (iR R) (iR R) (λ_=>R)<|AU a2)<|qO R (A4 R B1<|iR R)<|qO R (Bc (d:=.str x5.Name) R A6 (iR R) R)<|qO R (LP R (iR R)<|iR R)<|qP R (CW R iL<|iR R)<|qP R (Dj R iL)<|AQ.nil<|C6 _<|cI R a6 (λu=>?_) λu=>?_
  ·refine aT λC7=>aR<|mM R ?_
   refine sQ R (Bt R GJ (q:=[]) (by exact Za) (cs:=[.r<|.str [],.r<|.str []])<|by rfl) ?_
   refine mM R<|mM R<|AG u λx6 a7 a8=>xI Ac R a7<|xB ((BO x6)) CV R<|AG a8 λw2 aa ab=>?_
   refine Zo [1000,1001] (hc:=[(1000,some<|.box j 35 [.own 1001<|q 0]),(1001,some<|.arr (q 0) 39 2<|o2.map AC.row)]) (bs:=(US x6)) (caps:=[.ptr 1000 j 0 0]) R R R R iL R ⟨.inl ⟨iL,R⟩,.inl ⟨iL,R⟩,Za⟩ ⟨R,R,R,R,R,R,Za⟩ (by decide) (UQ aa) ?_
   intro ac n2
   refine A8 [0,1,2,6,7,65,66,67,68,69,70,82,83,84,85,86,87,88,89] [1000,1001] ?_
   refine aZ<|C7 _<|aG [0,1,2,6,7] [1000,1001] ?_
   exact aR<|mM R<|AG ab λj4 ad ae=>xA R ad<|mA R<|Zh<|DN.mk ae (AH [(ac 0),n2]) wk
  refine aT λC8=>?_
  refine Nj 9 BA (by kernel_rfl) R R ?_
  refine Zw R R R (AK R iL)<|Zw R R R (AK R iL)<|Zw R R R (AK R iL)<|AG u λx7 af ag=>Zw R R R (Az R Ac.slice iL iL (λ_=>R) λ_=>af)<|Zw R R R (Ci (cs:=(BO x7)) R CV iL R R)<|Zw R R R (AK R iL)<|Zw R R R (AK R iL)<|AG ag λx8 ah ai=>Zw R R R (Az R Ac.slice iL iL (λ_=>R) λ_=>ah)<|Zw R R R (Ci (cs:=(BO x8)) R CV iL R R)<|AT.nil<|AG ai λw3 aj ak=>?_
  refine Zo [1000,1001] (hc:=[(1000,some<|.box j 35 [.own 1001<|q 0]),(1001,some<|.arr (q 0) 39 2<|o2.map AC.row)]) (bs:=[.agg<|BO x7,.agg<|BO x8]) (caps:=[.ptr 1000 j 0 0]) R R R R iL R ⟨.inl ⟨iL,R⟩,.inl ⟨iL,R⟩,Za⟩ ⟨R,R,R,R,R,R,Za⟩ (by decide) (UQ aj) ?_
  intro al n3
  refine A8 [0,1,2,6,7,18,19,20,21,22,23,24,25,26,27,65,66,67,68,69,70,82] [1000,1001] ?_
  refine aZ<|C8 _<|aG [0,1,2,6,7] [1000,1001] ?_
  exact aR<|mM R<|AG ak λav A an=>xA R A<|mM R<|AG an λj5 ao aq=>xA R ao<|mA R<|mA R<|Zh<|DN.mk aq (AH [(al 0),n3]) wk
 refine Zn ?_
 exact CP.mk (s':=⟨[],[(1000,some<|.box j 35 [.own 1001<|q 0]),(1001,some<|.arr (q 0) 39 2<|o2.map AC.row)],(q 1),92⟩) wk<|Cc (λ(r:(List AC)) rr h'=>∃(i:Nat→Nat),rr=.tup []∧h'=[(1000,some<|.box j 35 [.own 1001<|i 0]),(1001,some<|.arr (i 0) 39 2<|r.map AC.row)]) (E _<|xH M O)<|by exact⟨.tup [],[(1000,some<|.box j 35 [.own 1001<|q 0]),(1001,some<|.arr (q 0) 39 2<|o2.map AC.row)],⟨_,R,Za⟩,⟨.inr R,.inr R,Za⟩,R,R,AH [(q 0)],R,R⟩
theorem qD{l q r}(h:Pk l q=some r):AS prog 99 [qa l,qa q] (qa r):=by
 unfold Pk at h
 refine mF func99 ntmps99 R λj=>aU<|mA R<|aZ<|aU<|sS R (BF (cs:=[cZ]) 5 R V2 R R)<|aZ<|aT λw=>aR<|mM R<|mM R ?_
 refine sQ R (Pw (bs:=[.ptr 5 j 0 0]) R<|by exact⟨iL,Za⟩) ?_
 refine AL.weak (Zm (ZK 5 0 3050 39 2 (by decide) R R<|by decide)<|by exact ZE (e':=[(0,qa l),(1,qa q),(4,cZ),(5,.ptr 5 j 0 0),(6,qa l),(7,qa q),(8,.fn 150 [.ptr 5 j 0 0])]) (h':=[(5,some<|.box j 35 [.own 3050<|j+1]),(3050,some<|.arr (j+1) 39 2<|([]:List AC).map AC.row)]) ⟨jL,jL,jL,jL,jL,jL,jL,Za⟩ ⟨.inl R,.inl R,Za⟩ nL) ?_
 refine AG h λC u A=>?_
 refine Zo [5,3050] (hc:=[(1000,some<|.box j 35 [.own 1001<|j+1]),(1001,some<|.arr (j+1) 39 2<|([]:List AC).map AC.row)]) (bs:=[qa l,qa q,.fn 150 [.ptr 1000 j 0 0]]) (caps:=[]) R R R R iL R ⟨.inl ⟨iL,R⟩,.inl ⟨iL,R⟩,.inl ⟨iL,R⟩,Za⟩ ⟨R,R,R,R,R,R,Za⟩ (by decide) (iy u) ?_
 intro B E
 refine A8 [0,1,4,5,6,7,8,9] [5,3050] ?_
 exact aZ<|w _<|aU<|sQ R (AZ (a:=.own 3050<|B 0) R BD iL R R)<|mA R<|aZ<|Zj<|DU (P:=prog) (λ(r:(List AC))=>qa r) A iL<|.t<|.one<|.own R
theorem nb{A c r}(h:P9 A c=some r):AS prog 100 [qb A,qa c] (qb r):=by
 unfold P9 at h
 refine mF func100 ntmps100 R λZ=>aU<|mA R<|aZ<|aU<|mM R<|xL Ah R<|AG h λa0 u h1=>sS R (S3 10 R Ah (f:=AD.row) (z0:=(AD.mk 0 0 [])) XY iL iL u)<|mA R<|aZ<|aS λK3 c3 F=>aU<|mM R<|xL Ah R<|mM R<|aZ<|Zf<|BH h1 λo1 B I=>?_
 have J1:∀(j:List AD) (E:NN),o1=j→K3 ⟨[(5,.own 10<|E 0)],[(10,some<|.arr (E 0) 37 3<|j.map AD.row)],(E 1),29⟩:=by
  intro j E e
  have h2:=I _ e
  exact c3 _<|aU<|mM R<|mA R<|aZ<|Zj<|DU (P:=prog) (λ(r:(List AD))=>qb r) h2 iL<|.t<|.one<|.own R
 refine Dd (λ(J:Int) (l:List AD) q=>⟨[(1,qa c),(5,.own 10<|q 0),(11,qb A),(12,rL A),(13,rI J)],[(10,some<|.arr (q 0) 37 3<|l.map AD.row)],(q 1),29⟩) (AH [Z,(Z+1)]) B wk ?_
 intro J l q v1 M O
 have h3:JT A c J l=some v1:=M;unfold JT at h3
 refine aU<|xS R<|aZ<|aT λc7=>cI R h3 (λT=>?_) λT=>?_
 ·refine Zd<|c7 _<|aT λc8=>Zf<|aU<|mM R<|AG T λw U h5=>xI Ah R U<|xB ((A5 w)) Dc R<|sS R (BF (cs:=Fh) 7 R Ft R R)<|mA R<|Zk R R (Aj (ds:=(A5 w)) R EY iL R iL R R R R)<|aZ<|aU<|lF DA BD R R<|mM R<|AG h5 λV X h6=>sS R (C0 (r:=qa V) (caps:=[]) (bs:=[qa w.Attrs,qa c]) R iL R ⟨.inl ⟨iL,R⟩,.inl ⟨iL,R⟩,Za⟩ λ_=>YE<|X)<|sQ R (fB R DA iL fR R)<|Zk R R (Aj (ds:=[rI w.Char,rI w.Ref,qa V]) R Gf iL R iL R R R R)<|aZ<|aG [1,5,6,7,11,12,13] [7,10] ?_
  exact aR<|mM R<|mM R<|xC Dc R<|AG h6 λx5 C h7=>sQ R (FY R Ah.slice iL R iL λ_=>C)<|Zk R R (SC (v:=(AD.mk w.Char w.Ref V)) R EY iL R C iL R R R R)<|aZ<|c8 _<|aR<|AG h7 λx6 Y h8=>xA R Y<|mM R<|Zh<|ZI h8 (AH [(q 0),((q 1)+1)]) wk
 exact Zn<|F _ _ wk<|J1 _ (AH [(q 0),(q 1)])<|xH O T
theorem pp{B C r}(h:MW B C=some r):AS prog 53 [qc B,qc C] (.tup [qc r.1,rI r.2]):=by
 unfold MW at h
 refine mF func53 ntmps53 R λj=>aU<|mA R<|mA R<|aZ<|aT λc2=>aU<|mM R<|AG h λe1 b4 h1=>cL (Oj<|b4) R<|mA R<|aZ<|aU<|mM R<|xU R<|aZ<|cI R h1 (λh2=>?_) λh2=>?_
 ·exact aU<|mM R<|mA R<|mA R<|aZ<|Zj<|DH (P:=prog) (λ(r:(List AI) × Int)=>qc r.1) (λ(r:(List AI) × Int)=>rI r.2) h2 iL (.t<|.one<|.nil)<|.t<|.d R
 refine Zd<|c2 _<|aT λc6=>aU<|mM R<|AG h2 λe2 b5 h3=>cL (Oj<|b5) R<|mA R<|aZ<|aT λc8=>aF [0,1,7] ?_
 refine aR<|mM R<|xU R<|aZ<|c8 _<|cI R h3 (λh4=>?_) λh4=>?_
 ·exact aU<|mM R<|mA R<|mA R<|aZ<|Zj<|DH (P:=prog) (λ(r:(List AI) × Int)=>qc r.1) (λ(r:(List AI) × Int)=>rI r.2) h4 iL (.t<|.one<|.nil)<|.t<|.d R
 refine Zd<|c6 _<|aU<|mM R<|D5 h4 λr1 r2 b6 h5=>cL (Rw<|b6) R<|mM R<|xX R<|xX R<|mA R<|mA R<|aZ<|aT λb7=>aT λb8=>aF [0,1,9] ?_
 refine aR<|mM R<|D5 h5 λr3 r4 b9 h6=>cL (Rw<|b9) R<|mM R<|xX R<|xX R<|mA R<|mA R<|aZ<|b8 _<|aU<|mM R<|mM R<|xU R<|aZ<|cI R h6 (λh7=>?_) λh7=>?_
 ·refine aT λba=>aF [] ?_
  exact aR<|mA R<|mA R<|aZ<|ba _<|Zj<|DH (P:=prog) (λ(r:(List AI) × Int)=>qc r.1) (λ(r:(List AI) × Int)=>rI r.2) h7 iL (.t<|.one<|.nil)<|.t<|.d R
 refine Zd<|b7 _<|aT λbb=>aF [0,1] ?_
 refine aR<|sS R (BF (cs:=Mn) 12 R TF R R)<|aZ<|bb _<|aT λbc=>aR<|mM R ?_
 refine sQ R (Bt R TH (q:=[(0,_)]) (by exact⟨R,R,R,iL,Za⟩) (cs:=[qc B,rI 0])<|by rfl) ?_
 refine sS R (A2 (cs:=[qc B,rI 0]) 43 R iL R R)<|mM R ?_
 refine sQ R (Bt R TH (q:=[(0,_)]) (by exact⟨R,R,R,iL,Za⟩) (cs:=[qc C,rI 0])<|by rfl) ?_
 refine sS R (A2 (cs:=[qc C,rI 0]) 46 R iL R R)<|mA R<|mA R<|aZ<|bc _<|aS λbd be a8=>Zf<|BH h7 λo1 aa bf=>?_
 have J1:∀(I:Af) (E:NN),o1=I→bd ⟨[(12,.ptr 12 j 0 0)],[(12,some<|.box j 143 [.own 3120<|E 0,.own 3121<|E 1,rI I.cut]),(3120,some<|.arr (E 0) 56 4<|I.out.map AI.row),(3121,some<|.arr (E 1) 37 3<|I.add.map AD.row)],(E 2),127⟩:=by
  intro I E e
  have h8:=bf _ e
  refine be _<|aT λbg=>aR<|Kc h8 λr5 r6 w5 bh h9=>?_
  refine Zo [12,3120,3121] (hc:=[(1000,some<|.box j 143 [.own 1001<|E 0,.own 1002<|E 1,rI I.cut]),(1001,some<|.arr (E 0) 56 4<|I.out.map AI.row),(1002,some<|.arr (E 1) 37 3<|I.add.map AD.row)]) (bs:=[.ptr 1000 j 0 0]) (caps:=[]) R R R R iL R ⟨.inl ⟨iL,R⟩,Za⟩ ⟨R,R,R,R,R,R,R,R,R,Za⟩ (by decide) (RU bh) ?_
  intro i6 n1
  refine A8 [12,124] [12] ?_
  exact xX R<|xX R<|mA R<|mA R<|aZ<|bg _<|Zj<|DH (P:=prog) (λ(r:(List AI) × Int)=>qc r.1) (λ(r:(List AI) × Int)=>rI r.2) h9 iL (.t<|.d R)<|.t<|.d R
 refine Gk (λ(u:Af) (q:BU) (w:BU) l=>⟨[(12,.ptr 12 j 0 0),(13,.ptr 43 (j+1) 0 0),(14,.ptr 46 (j+2) 0 0)],[(12,some<|.box j 143 [.own 3120<|l 0,.own 3121<|l 1,rI u.cut]),(43,some<|.box (j+1) 146 [qc q.steps,rI q.used]),(46,some<|.box (j+2) 146 [qc w.steps,rI w.used]),(3120,some<|.arr (l 0) 56 4<|u.out.map AI.row),(3121,some<|.arr (l 1) 37 3<|u.add.map AD.row)],(l 2),127⟩) (AH [(j+3),(j+4),(j+5)]) aa (Zm (Zm (ZK 12 0 3120 56 4 (by decide) R R<|by decide)<|by exact ZE (e':=[(0,qc B),(1,qc C),(12,.ptr 12 j 0 0),(13,.ptr 43 (j+1) 0 0),(14,.ptr 46 (j+2) 0 0),(41,qc B),(42,.agg [qc B,rI 0]),(43,.ptr 43 (j+1) 0 0),(44,qc C),(45,.agg [qc C,rI 0]),(46,.ptr 46 (j+2) 0 0)]) (h':=[(12,some<|.box j 143 [.own 3120<|j+3,cZ,rI 0]),(43,some<|.box (j+1) 146 [qc B,rI 0]),(46,some<|.box (j+2) 146 [qc C,rI 0]),(3120,some<|.arr (j+3) 56 4<|([]:List AI).map AI.row)]) ⟨jL,jL,jL,jL,jL,jL,jL,jL,jL,jL,jL,Za⟩ ⟨.inl R,.inl R,.inl R,.inl R,Za⟩ nL)<|Zm (Zm (ZK 12 1 3121 37 3 (by decide) R R<|by decide)<|by exact ZE (e':=[(0,qc B),(1,qc C),(12,.ptr 12 j 0 0),(13,.ptr 43 (j+1) 0 0),(14,.ptr 46 (j+2) 0 0),(41,qc B),(42,.agg [qc B,rI 0]),(43,.ptr 43 (j+1) 0 0),(44,qc C),(45,.agg [qc C,rI 0]),(46,.ptr 46 (j+2) 0 0)]) (h':=[(12,some<|.box j 143 [.own 3120<|j+3,.own 3121<|j+4,rI 0]),(43,some<|.box (j+1) 146 [qc B,rI 0]),(46,some<|.box (j+2) 146 [qc C,rI 0]),(3120,some<|.arr (j+3) 56 4<|([]:List AI).map AI.row),(3121,some<|.arr (j+4) 37 3<|([]:List AD).map AD.row)]) ⟨jL,jL,jL,jL,jL,jL,jL,jL,jL,jL,jL,Za⟩ ⟨.inl R,.inl R,.inl R,.inl R,.inl R,Za⟩ nL) wk) ?_
 intro u q w l v1 bi bj
 have ab:Lq u q w=some v1:=bi;unfold Lq at ab
 refine aT λbk=>aS λbl bm J=>aR<|mM R<|AG ab λr7 ac bn=>?_
 refine Zo [43] (hc:=[(1000,some<|.box (j+1) 146 [qc q.steps,rI q.used])]) (bs:=[.ptr 1000 (j+1) 0 0]) (caps:=[]) R R R R iL R ⟨.inl ⟨iL,R⟩,Za⟩ ⟨R,R,R,Za⟩ (by decide) (JW ac) ?_
 intro i7 n2
 refine A8 [12,13,14,47,48] [12,43,46,3120,3121] ?_
 refine sQ R (C1 R iL iL)<|mM R<|vM R<|BH bn λp4 ad bo=>?_
 have J2:∀(x1:Bool) (i8:NN),p4=x1→bl ⟨[(12,.ptr 12 j 0 0),(13,.ptr 43 (j+1) 0 0),(14,.ptr 46 (j+2) 0 0),(54,rB x1)],[(12,some<|.box j 143 [.own 3120<|l 0,.own 3121<|l 1,rI u.cut]),(43,some<|.box (j+1) 146 [qc q.steps,rI q.used]),(46,some<|.box (j+2) 146 [qc w.steps,rI w.used]),(3120,some<|.arr (l 0) 56 4<|u.out.map AI.row),(3121,some<|.arr (l 1) 37 3<|u.add.map AD.row)],(i8 0),127⟩:=by
  intro x1 i8 e
  have bp:=bo _ e
  refine bm _<|cI R bp (λO=>?_) λO=>?_
  ·refine Zd<|bk _<|Zf<|aT λbq=>Zf<|aT λbr=>aR<|mM R ?_
   refine Zo [43] (hc:=[(1000,some<|.box (j+1) 146 [qc q.steps,rI q.used])]) (bs:=[.ptr 1000 (j+1) 0 0]) (caps:=[]) R R R R iL R ⟨.inl ⟨iL,R⟩,Za⟩ ⟨R,R,R,Za⟩ (by decide) (JW ac) ?_
   intro i9 n3
   refine A8 [12,13,14,54,56,57] [12,43,46,3120,3121] ?_
   refine xQ R<|mA R<|aZ<|br _<|cI R O (λT=>?_) λT=>?_
   ·refine aT λbs=>AG T λr9 bt bu=>D5 bu λF w6 ae bv=>?_
    refine rP 7 [pO 59<|.ptr 12 j 0 2,pO 60<|rI u.cut,pO 61<|.ptr 43 (j+1) 0 0,pO 62<|.ptr 43 (j+1) 0 0,pO 63<|rI r9,⟨some 64,(λ_=>.agg<|Bn F),some (43,(λ_=>some<|.box (j+1) 146 [qc w6.steps,rI w6.used])),[]⟩,pO 65<|rI F.N] BA R (by exact⟨oB [(12,.ptr 12 j 0 0)] [(12,some<|.box j 143 [.own 3120<|l 0,.own 3121<|l 1,rI u.cut])]<|fB R Fv (.inl R) (λ_=>R) R,oB [(59,.ptr 12 j 0 2)] [(12,some<|.box j 143 [.own 3120<|l 0,.own 3121<|l 1,rI u.cut])]<|AZ (a:=rI u.cut) R AJ (.inl R) R R,oB [(13,.ptr 43 (j+1) 0 0)] [(43,some<|.box (j+1) 146 [qc q.steps,rI q.used])]<|AK R<|.inl R,oB [(13,.ptr 43 (j+1) 0 0)] [(43,some<|.box (j+1) 146 [qc q.steps,rI q.used])]<|AK R<|.inl R,iA R R (by intro d h;cases h;rfl) R (λ_=>[(62,.ptr 43 (j+1) 0 0)]) (λ_=>[(43,some<|.box (j+1) 146 [qc q.steps,rI q.used])]) (λD G1 M=>⟨O8 M 3 R R (by kernel_rfl) R R,Za⟩) (λD G1 M=>⟨Jr M (by kernel_rfl) R,Za⟩) (λ_ _=>R) λG1 e h' n=>⟨_,gM [43] (hc:=[(1000,some<|.box (j+1) 146 [qc q.steps,rI q.used])]) (bs:=[.ptr 1000 (j+1) 0 0]) (caps:=[]) R (.inl R) R (by exact⟨.inl ⟨(.inl R),R⟩,Za⟩) (by exact⟨R,R,R,Za⟩) (by decide)<|Iy bt,mQ R⟩,Xn R R (by intro d h;cases h;rfl) R (λ_=>[(61,.ptr 43 (j+1) 0 0),(63,rI r9)]) (λ_=>[(43,some<|.box (j+1) 146 [qc q.steps,rI q.used])]) (λD G1 M=>⟨O8 M 2 R R (by kernel_rfl) R R,O8 M 4 R R (by kernel_rfl) R R,Za⟩) (λD G1 M=>⟨Jr M (by kernel_rfl) R,Za⟩) λG1 e h' n=>gM [43] (hc:=[(1000,some<|.box (j+1) 146 [qc q.steps,rI q.used])]) (bs:=[.ptr 1000 (j+1) 0 0,rI r9]) (caps:=[]) R (.inl R) R (by exact⟨.inl ⟨(.inl R),R⟩,.inl ⟨(.inl R),R⟩,Za⟩) (by exact⟨R,R,R,Za⟩) (by decide)<|JH ae,oB [(64,.agg<|Bn F)] []<|Xm (a:=rI F.N) R rt (.inl R) R,Za⟩) λG1 n4=>?_
    refine A8 [12,13,14,54,55,56,57,58,59,60,61,62,63,64,65] [12,43,46,3120,3121] ?_
    exact AG bv λx2 bw bx=>xA R bw<|sQ R (fB R Fv iL fR R)<|Zk R R (Aj (ds:=[.own 3120<|l 0,.own 3121<|l 1,rI x2]) R Gz iL R iL R R R R)<|aZ<|bs _<|Zn<|DN.mk bx (AH [(l 0),(l 1),n4]) wk
   refine aT λbz=>aR<|mM R<|AG T λcv af c0=>?_
   refine Zo [46] (hc:=[(1000,some<|.box (j+2) 146 [qc w.steps,rI w.used])]) (bs:=[.ptr 1000 (j+2) 0 0]) (caps:=[]) R R R R iL R ⟨.inl ⟨iL,R⟩,Za⟩ ⟨R,R,R,Za⟩ (by decide) (JW af) ?_
   intro cw n5
   refine A8 [12,13,14,54,55,56,57,58,69,70] [12,43,46,3120,3121] ?_
   refine xQ R<|mA R<|aZ<|bz _<|cI R c0 (λU=>?_) λU=>?_
   ·refine aT λc1=>aG [12,13,14] [12,43,46,3120,3121] ?_
    refine aR<|mM R<|mM R<|AG U λc3 ag c4=>?_
    refine Zo [46] (hc:=[(1000,some<|.box (j+2) 146 [qc w.steps,rI w.used])]) (bs:=[.ptr 1000 (j+2) 0 0]) (caps:=[]) R R R R iL R ⟨.inl ⟨iL,R⟩,Za⟩ ⟨R,R,R,Za⟩ (by decide) (Iy ag) ?_
    intro cx n6
    refine A8 [12,13,14,72,73,74] [12,43,46,3120,3121] ?_
    refine D5 c4 λah w7 ai c5=>?_
    refine Zo [46] (hc:=[(1000,some<|.box (j+2) 146 [qc w.steps,rI w.used])]) (bs:=[.ptr 1000 (j+2) 0 0,rI c3]) (caps:=[]) R R R R iL R ⟨.inl ⟨iL,R⟩,.inl ⟨iL,R⟩,Za⟩ ⟨R,R,R,Za⟩ (by decide) (JH ai) ?_
    intro cy n7
    refine A8 [12,13,14,72,73,74,75] [12,43,46,3120,3121] ?_
    refine sQ R (Xm (a:=qb ah.Elems) R ow iL R)<|AG c5 λw8 c7 c9=>?_
    refine Zo [12,3120,3121] (hc:=[(1000,some<|.box j 143 [.own 1001<|l 0,.own 1002<|l 1,rI u.cut]),(1001,some<|.arr (l 0) 56 4<|u.out.map AI.row),(1002,some<|.arr (l 1) 37 3<|u.add.map AD.row)]) (bs:=[.ptr 1000 j 0 0,qb ah.Elems]) (caps:=[]) R R R R iL R ⟨.inl ⟨iL,R⟩,.inl ⟨iL,R⟩,Za⟩ ⟨R,R,R,R,R,R,R,R,R,Za⟩ (by decide) (QY c7) ?_
    intro aj n8
    refine A8 [12,13,14,72,73,74,75,76,77] [12,43,46,3120,3121] ?_
    exact aZ<|c1 _<|Zn<|DN.mk c9 (AH [(aj 0),(aj 1),n8]) wk
   refine Zd<|bq _<|aT λca=>aG [12,13,14] [12,43,46,3120,3121] ?_
   refine aR<|mM R<|AG U λV ak cb=>?_
   refine Zo [43] (hc:=[(1000,some<|.box (j+1) 146 [qc q.steps,rI q.used])]) (bs:=[.ptr 1000 (j+1) 0 0]) (caps:=[]) R R R R iL R ⟨.inl ⟨iL,R⟩,Za⟩ ⟨R,R,R,Za⟩ (by decide) (Iy ak) ?_
   intro cz n9
   refine A8 [12,13,14,78,79] [12,43,46,3120,3121] ?_
   refine mM R<|AG cb λX al cc=>?_
   refine Zo [46] (hc:=[(1000,some<|.box (j+2) 146 [qc w.steps,rI w.used])]) (bs:=[.ptr 1000 (j+2) 0 0]) (caps:=[]) R R R R iL R ⟨.inl ⟨iL,R⟩,Za⟩ ⟨R,R,R,Za⟩ (by decide) (Iy al) ?_
   intro d0 d1
   refine A8 [12,13,14,78,79,80,81] [12,43,46,3120,3121] ?_
   refine sQ R (LS R iL iL)<|mA R<|aZ<|ca _<|aT λcd=>aR<|mM R<|mM R<|D5 cc λY w9 an cf=>?_
   refine Zo [43] (hc:=[(1000,some<|.box (j+1) 146 [qc q.steps,rI q.used])]) (bs:=[.ptr 1000 (j+1) 0 0,rI<|(min V X)]) (caps:=[]) R R R R iL R ⟨.inl ⟨iL,R⟩,.inl ⟨iL,R⟩,Za⟩ ⟨R,R,R,Za⟩ (by decide) (JH an) ?_
   intro i16 d2
   refine A8 [12,13,14,15,78,79,80,81,82,83,84,85] [12,43,46,3120,3121] ?_
   refine mM R<|mM R<|D5 cf λZ d3 ao cg=>?_
   refine Zo [46] (hc:=[(1000,some<|.box (j+2) 146 [qc w.steps,rI w.used])]) (bs:=[.ptr 1000 (j+2) 0 0,rI<|(min V X)]) (caps:=[]) R R R R iL R ⟨.inl ⟨iL,R⟩,.inl ⟨iL,R⟩,Za⟩ ⟨R,R,R,Za⟩ (by decide) (JH ao) ?_
   intro d4 aq
   refine A8 [12,13,14,15,78,79,80,81,82,83,84,85,86,87,88] [12,43,46,3120,3121] ?_
   refine sS R (BF (cs:=EB) 16 R E8 R R)<|sS R (BF (cs:=EB) 17 R E8 R R)<|Zk R R (Aj (ds:=(Bn Y)) R FE iL R iL R R R R)<|Zk R R (Aj (ds:=(Bn Z)) R FE iL R iL R R R R)<|aZ<|cd _<|Zf<|aT λch=>aG [12,13,14,15,16,17] [12,16,17,43,46,3120,3121] ?_
   refine aR<|lF CH AJ R R<|xQ R<|mM R<|vF CH AJ R R<|vQ R (Am R (iR R) iL)<|xN R<|mA R<|aZ<|ch _<|cI R cg (λa0=>?_) λa0=>?_
   ·refine aR<|mM R<|lF D7 BD R R<|lF D7 BD R R<|AG a0 λar av cj=>sS R (C0 (r:=qa ar) (caps:=[]) (bs:=[qa Y.Attrs,qa Z.Attrs]) R iL R ⟨.inl ⟨iL,R⟩,.inl ⟨iL,R⟩,Za⟩ λ_=>qD<|av)<|AG cj λd5 aw ck=>?_
    refine Zo [12,3120,3121] (hc:=[(1000,some<|.box j 143 [.own 1001<|l 0,.own 1002<|l 1,rI u.cut]),(1001,some<|.arr (l 0) 56 4<|u.out.map AI.row),(1002,some<|.arr (l 1) 37 3<|u.add.map AD.row)]) (bs:=[.ptr 1000 j 0 0,rI<|(min V X),qa ar]) (caps:=[]) R R R R iL R ⟨.inl ⟨iL,R⟩,.inl ⟨iL,R⟩,.inl ⟨iL,R⟩,Za⟩ ⟨R,R,R,R,R,R,R,R,R,Za⟩ (by decide) (NV aw) ?_
    intro ax cl
    refine A8 [12,13,14,15,16,17,89,90,91,92,93,97,98,99,100,101,102,103,104] [12,16,17,43,46,3120,3121] ?_
    exact Zh<|DN.mk ck (AH [(ax 0),(ax 1),cl]) wk
   refine aU<|lF CH AJ R R<|xQ R<|mA R<|aZ<|cI R a0 (λa2=>?_) λa2=>?_
   ·refine aG [12,13,14,15] [12,43,46,3120,3121] ?_
    exact aR<|lF Fv AJ R R<|mM R<|AG a2 λx3 cm cn=>xA R cm<|sQ R (fB R Fv iL fR R)<|Zk R R (Aj (ds:=[.own 3120<|l 0,.own 3121<|l 1,rI x3]) R Gz iL R iL R R R R)<|Zh<|DN.mk cn (AH [(l 0),(l 1),(aq+2)]) wk
   refine aT λcp=>aG [12,13,14,16,17] [12,16,17,43,46,3120,3121] ?_
   refine aR<|lF CH AJ R R<|xQ R<|mA R<|aZ<|cp _<|cI R a2 (λa6=>?_) λa6=>?_
   ·refine aR<|lF Ef B9 R R<|lF D7 BD R R<|AG a6 λay az cq=>sS R (C0 (r:=qb ay) (caps:=[]) (bs:=[qb Y.Elems,qa Z.Attrs]) R iL R ⟨.inl ⟨iL,R⟩,.inl ⟨iL,R⟩,Za⟩ λ_=>nb<|az)<|AG cq λd6 b0 cr=>?_
    refine Zo [12,3120,3121] (hc:=[(1000,some<|.box j 143 [.own 1001<|l 0,.own 1002<|l 1,rI u.cut]),(1001,some<|.arr (l 0) 56 4<|u.out.map AI.row),(1002,some<|.arr (l 1) 37 3<|u.add.map AD.row)]) (bs:=[.ptr 1000 j 0 0,qb ay]) (caps:=[]) R R R R iL R ⟨.inl ⟨iL,R⟩,.inl ⟨iL,R⟩,Za⟩ ⟨R,R,R,R,R,R,R,R,R,Za⟩ (by decide) (QY b0) ?_
    intro b2 cs
    refine A8 [12,13,14,16,17,114,115,116,117,118,119,120,121,122,123] [12,16,17,43,46,3120,3121] ?_
    exact Zh<|DN.mk cr (AH [(b2 0),(b2 1),cs]) wk
   exact Zd<|DN.mk a6 (AH [(l 0),(l 1),(aq+2)]) wk
  exact Zn<|a8 _ _ wk<|J1 _ (AH [(l 0),(l 1),(i8 0)])<|xH bj O
 refine AL.split ((decide<|0≤r7)==false) (λA=>?_) λA=>?_
 ·have a7:=CF A ad
  refine AL.weak (by exact Q3 (e':=[(12,.ptr 12 j 0 0),(13,.ptr 43 (j+1) 0 0),(14,.ptr 46 (j+2) 0 0),(47,.ptr 43 (j+1) 0 0),(48,rI r7),(49,rB<|(decide<|0≤r7)),(50,rB<|(decide<|0≤r7)),(51,.ptr 46 (j+2) 0 0)]) A ⟨.inl R,.inl R,.inl R,.inl R,.inl R,.inl R,.inl R,.inr iL,Za⟩) ?_
  refine AG a7 λd7 b3 ct=>?_
  refine iB (.one R R R) A [46] (hc:=[(1000,some<|.box (j+2) 146 [qc w.steps,rI w.used])]) (bs:=[.ptr 1000 (j+2) 0 0]) (caps:=[]) R R R iL R ⟨.inl ⟨iL,R⟩,Za⟩ ⟨R,R,R,Za⟩ (by decide) (JW b3) ?_
  intro d8 cu
  refine A8 [12,13,14,47,48,49,50,51,52] [12,43,46,3120,3121] ?_
  exact IB (.one R R R) A R R (AR.spec (C1 R (.inl R)<|.inl R) _)<|sQ R (CW R iL iL)<|Zh<|J _ _ wk<|J2 _ (AH [cu]) (Zc ct).symm
 ·have a7:=CA A ad
  exact GC (.one R R R) A R R<|GC (.one R R R) A R R<|xO R<|Zh<|J _ _ wk<|J2 _ (AH [n2]) (Zc a7).symm
theorem tr{w:Cu}{l:BW}{A:List AD}{r:(List BS) × BW × Int}{j:Nat}(h:Qp w l A=some r):Bb prog 23 1 [.ptr 1000 j 0 0,.agg<|A0 l,qb A] [(1000,some<|.box j 66<|DK w)] (λrr h'=>∃(i:Nat→Nat),rr=.tup [qi r.1,.agg<|A0 r.2.1,rI r.2.2]∧h'=[(1000,some<|.box j 66<|DK w)]):=by
 unfold Qp at h
 refine EE func23 R R ntmps23 (Zv R) λq=>aU<|sS R (A2 (cs:=(A0 l)) 4 R iL R R)<|mA R<|sS R (BF (cs:=[rI 0,rI 0,rI 0]) 7 R Vs R R)<|mA R<|aZ<|aU<|mM R<|sQ R (B7 (ob:=.box _ _ _) R iL fR R)<|sQ R (fB R XN iL fR R)<|lF FP B9 R R<|mA R<|aZ<|aT λc3=>?_
 refine Nj 14 BA (by kernel_rfl) R R ?_
 refine Zw R R R (AK R iL)<|Zw R R R (AK R iL)<|Zw R R R (B7 (ob:=.box _ _ _) R iL fR R)<|Zw R R R (fB R Ra iL fR R)<|Zw R R R (AZ (a:=.r<|.sl<|w.shown.map<|Ai .i64) R Uj iL R R)<|Zw R R R (fB R Gl iL fR R)<|Zw R R R (AZ (a:=rI l.From) R AJ iL R R)<|Zw R R R (fB R Kn iL fR R)<|Zw R R R (AZ (a:=rI l.To) R AJ iL R R)<|AG h λl1 T h1=>?_
 refine Zw R R R (Tg R CN.slice iL (by exact⟨_,iL⟩) (by exact⟨_,iL⟩) (λ_=>R) λ_=>T) ?_
 refine Zw R R R (AK R iL)<|Zw R R R (B7 (ob:=.box _ _ _) R iL fR R)<|Zw R R R (fB R X1 iL fR R)<|Zw R R R (AZ (a:=rS w.author) R A6 iL R R)<|AT.nil<|AG h1 λB F h2=>sS R (C0 (r:=qc B) (caps:=[]) (bs:=[qb w.node.Flow,.r<|.sl<|l1.map<|Ai .i64,rS w.author]) R iL R ⟨.inl ⟨iL,R⟩,.inl ⟨iL,R⟩,.inl ⟨iL,R⟩,Za⟩ λ_=>kq<|F)<|mA R<|aZ<|c3 _<|aT λc4=>aG [0,2,4,7,9,10] [4,7,1000] ?_
 refine ZA BA (by kernel_rfl) ?_
 refine qP R (AK R iL)<|qP R (B7 (ob:=.box _ _ _) R iL fR R)<|qP R (fB R Ra iL fR R)<|qP R (AZ (a:=.r<|.sl<|w.shown.map<|Ai .i64) R Uj iL R R)<|qP R (fB R Gl iL fR R)<|qP R (AZ (a:=rI l.From) R AJ iL R R)<|AG h2 λI M h3=>Fw R R R (r:=rI I) (caps:=[]) (bs:=[.r<|.sl<|w.shown.map<|Ai .i64,rI l.From]) R iL R ⟨⟨_,iL,.d R⟩,⟨_,iL,.d R⟩,Za⟩ (λ_=>iT<|M) R<|qP R (Dj R iL)<|AQ.nil<|c4 _<|aU<|mM R<|mM R<|mM R<|mM R<|sQ R (B7 (ob:=.box _ _ _) R iL fR R)<|lF X1 A6 R R<|AG h3 λJ O h4=>sS R (C0 (r:=qc J) (caps:=[]) (bs:=[qb w.node.Flow,rI I,qb A,rS w.author]) R iL R ⟨.inl ⟨iL,R⟩,.inl ⟨iL,R⟩,.inl ⟨iL,R⟩,.inl ⟨iL,R⟩,Za⟩ λ_=>iG<|O)<|mA R<|aZ<|aT λc6=>aG [2,4,7,10,12] [4,7,1000] ?_
 refine aR<|mM R<|mM R<|Kc h4 λr1 r2 U V h5=>sS R (C0 (r:=.tup [qc r1,qc r2,rI U]) (caps:=[]) (bs:=[qc J,qc B]) R iL R ⟨.inl ⟨iL,R⟩,.inl ⟨iL,R⟩,Za⟩ λ_=>jA<|V)<|mM R<|xX R<|xX R<|xX R<|mA R<|mA R<|mA R<|aZ<|c6 _<|aT λc7=>aT λc8=>aG [2,4,7,10,13,15] [4,7,1000] ?_
 refine aR<|mM R<|xU R<|aZ<|c8 _<|cI R h5 (λX=>?_) λX=>?_
 ·refine aT λc9=>aR ?_
  refine sQ R (Bt R JI (q:=[]) (by exact Za) (cs:=[rI 0,rI 0,rI 0])<|by rfl) ?_
  refine mM R<|mA R<|Zk R R (Aj (ds:=[rI 0,rI 0,rI 0]) R Is iL R iL R R R R)<|mA R<|oZ c9 ?_
  exact Zj<|CP.mk (s':=⟨[(6,.r<|.sl []),(7,.ptr 7 (q+1) 0 0),(8,rI U)],[(7,some<|.box (q+1) 26 [rI 0,rI 0,rI 0]),(1000,some<|.box j 66<|DK w)],(q+2),89⟩) ((by exact ZE ⟨.inl<|.inr<|.inr ⟨R,R⟩,jL,jL,Za⟩ ⟨.inl R,.inl R,Za⟩ nL))<|Cc (λ(r:(List BS) × BW × Int) rr h'=>∃(i:Nat→Nat),rr=.tup [qi r.1,.agg<|A0 r.2.1,rI r.2.2]∧h'=[(1000,some<|.box j 66<|DK w)]) X<|by exact⟨.tup [.r<|.sl [],.agg [rI 0,rI 0,rI 0],rI U],[(1000,some<|.box j 66<|DK w)],⟨_,R,⟨R,.inr ⟨_,R,Fg,_,_,_,R,R⟩,R,Za⟩⟩,⟨.inr R,Za⟩,R,R,AH [],R,R⟩
 refine Zd<|c7 _<|aU<|mM R<|mM R<|D5 X λC Y Z h7=>sS R (C0 (r:=.tup [qc C,rI Y]) (caps:=[]) (bs:=[qc B,qc r1]) R iL R ⟨.inl ⟨iL,R⟩,.inl ⟨iL,R⟩,Za⟩ λ_=>pp<|Z)<|mM R<|xX R<|xX R<|mA R<|mA R<|aZ<|aT λa0=>aT λa1=>aG [2,4,7,15,16] [4,7,1000] ?_
 refine aR<|mM R<|xU R<|aZ<|a1 _<|cI R h7 (λh8=>?_) λh8=>?_
 ·refine aT λa2=>aR ?_
  refine sQ R (Bt R JI (q:=[]) (by exact Za) (cs:=[rI 0,rI 0,rI 0])<|by rfl) ?_
  refine mM R<|mA R<|Zk R R (Aj (ds:=[rI 0,rI 0,rI 0]) R Is iL R iL R R R R)<|mA R<|oZ a2 ?_
  exact Zj<|CP.mk (s':=⟨[(6,.r<|.sl []),(7,.ptr 7 (q+1) 0 0),(8,rI Y)],[(7,some<|.box (q+1) 26 [rI 0,rI 0,rI 0]),(1000,some<|.box j 66<|DK w)],(q+2),89⟩) ((by exact ZE ⟨.inl<|.inr<|.inr ⟨R,R⟩,jL,jL,Za⟩ ⟨.inl R,.inl R,Za⟩ nL))<|Cc (λ(r:(List BS) × BW × Int) rr h'=>∃(i:Nat→Nat),rr=.tup [qi r.1,.agg<|A0 r.2.1,rI r.2.2]∧h'=[(1000,some<|.box j 66<|DK w)]) h8<|by exact⟨.tup [.r<|.sl [],.agg [rI 0,rI 0,rI 0],rI Y],[(1000,some<|.box j 66<|DK w)],⟨_,R,⟨R,.inr ⟨_,R,Fg,_,_,_,R,R⟩,R,Za⟩⟩,⟨.inr R,Za⟩,R,R,AH [],R,R⟩
 refine Zd<|a0 _<|aU<|lF Gl AJ R R<|mM R<|xL Ah R<|AG h8 λu a6 h9=>xA R a6<|mA R<|aZ<|aT λa7=>aG [4,7,16,17] [4,7,1000] ?_
 refine IA 11 [pO 79<|.ptr 4 q 0 0,pO 80<|rI l.Node,pO 81<|qc C,pO 82<|.agg [rI 2,rI l.Node,rI 0,rI 0,cZ,cZ,rI 0,rI 0,cZ,cZ,cZ,cZ,qc C,cZ,cZ,cZ,cZ,cZ,cZ],⟨some 83,(λE=>.own 83<|E 4),some (83,(λE=>some<|.arr (E 4) 62 19<|[(BS.mk 2 l.Node (Ak.mk 0 0 [] [] (BX.mk 0 0 [] []) []) [] C (Ez.mk [] [] [] [] []) [])].map BS.row)),[4]⟩,pO 84<|.ptr 4 q 0 0,pO 85<|rI l.Node,pO 86<|rI u,pO 87<|rI u,pO 88<|.agg [rI l.Node,rI u,rI u],⟨some 6,(λE=>.own 83<|E 4),none,[4]⟩] BA (by kernel_rfl) (by exact⟨λ_ _ h=>⟨R,λ_ _ e=>by cases e⟩,λ_ _ h=>⟨R,λ_ _ e=>by cases e⟩,λ_ _ h=>⟨R,λ_ _ e=>by cases e⟩,λ_ _ h=>⟨R,λ_ _ e=>by cases e⟩,λ_ _ h=>⟨by simp only[h 4 R],λ_ _ e=>by cases e;simp only[h 4 R]⟩,λ_ _ h=>⟨R,λ_ _ e=>by cases e⟩,λ_ _ h=>⟨R,λ_ _ e=>by cases e⟩,λ_ _ h=>⟨R,λ_ _ e=>by cases e⟩,λ_ _ h=>⟨R,λ_ _ e=>by cases e⟩,λ_ _ h=>⟨R,λ_ _ e=>by cases e⟩,λ_ _ h=>⟨by simp only[h 4 R],λ_ _ e=>by cases e⟩,Za⟩) R (by exact⟨oB [(4,.ptr 4 q 0 0)] [(4,some<|.box q 26<|A0 l)]<|fB R Ni (.inl R) (λ_=>R) R,oB [(79,.ptr 4 q 0 0)] [(4,some<|.box q 26<|A0 l)]<|AZ (a:=rI l.Node) R AJ (.inl R) R R,oB [(16,qc C)] []<|AK R<|.inl R,oB [(80,rI l.Node),(81,qc C)] []<|Bt R iq (q:=[(0,_),(1,_),(12,_)]) (by exact⟨R,R,R,(.inl R),R,R,R,(.inl R),R,R,R,(.inl R),Za⟩) (cs:=[rI 2,rI l.Node,rI 0,rI 0,cZ,cZ,rI 0,rI 0,cZ,cZ,cZ,cZ,qc C,cZ,cZ,cZ,cZ,cZ,cZ])<|by rfl,oM (λ_=>[(82,.agg [rI 2,rI l.Node,rI 0,rI 0,cZ,cZ,rI 0,rI 0,cZ,cZ,cZ,cZ,qc C,cZ,cZ,cZ,cZ,cZ,cZ])]) (λ_=>[]) R λE e h' n=>B3 83 R I7 (f:=BS.row) (l:=([(BS.mk 2 l.Node (Ak.mk 0 0 [] [] (BX.mk 0 0 [] []) []) [] C (Ez.mk [] [] [] [] []) [])]:List BS)) ⟨R,⟨_,(.inl R),R⟩,Za⟩ R (λ_=>R) R,oB [(4,.ptr 4 q 0 0)] [(4,some<|.box q 26<|A0 l)]<|fB R Ni (.inl R) (λ_=>R) R,oB [(84,.ptr 4 q 0 0)] [(4,some<|.box q 26<|A0 l)]<|AZ (a:=rI l.Node) R AJ (.inl R) R R,oB [(17,rI u)] []<|AK R<|.inl R,oB [(17,rI u)] []<|AK R<|.inl R,oB [(85,rI l.Node),(86,rI u),(87,rI u)] []<|Bt R JI (q:=[(0,_),(1,_),(2,_)]) (by exact⟨R,R,R,(.inl R),R,R,R,(.inl R),R,R,R,(.inl R),Za⟩) (cs:=[rI l.Node,rI u,rI u])<|by rfl,oC (λE=>[(83,.own 83<|E 4)]) (λE=>[(83,some<|.arr (E 4) 62 19<|[(BS.mk 2 l.Node (Ak.mk 0 0 [] [] (BX.mk 0 0 [] []) []) [] C (Ez.mk [] [] [] [] []) [])].map BS.row)]) λE e h'=>Dj R<|.inl R,Za⟩) λE n2=>?_
 refine A8 [4,6,7,16,17,79,80,81,82,83,84,85,86,87,88] [4,7,83,1000] ?_
 refine Zk R R (Aj (ds:=[rI l.Node,rI u,rI u]) R Is iL R iL R R R R)<|mA R<|oZ a7 ?_
 exact Zj<|CP.mk (s':=⟨[(6,.r<|.sl<|[(BS.mk 2 l.Node (Ak.mk 0 0 [] [] (BX.mk 0 0 [] []) []) [] C (Ez.mk [] [] [] [] []) [])].map BS.row),(7,.ptr 7 (q+1) 0 0),(8,rI 0)],[(7,some<|.box (q+1) 26 [rI l.Node,rI u,rI u]),(1000,some<|.box j 66<|DK w)],n2,89⟩) (Zm (by exact Ae.frz (e':=[(4,.ptr 4 q 0 0),(6,.r<|.sl<|[(BS.mk 2 l.Node (Ak.mk 0 0 [] [] (BX.mk 0 0 [] []) []) [] C (Ez.mk [] [] [] [] []) [])].map BS.row),(7,.ptr 7 (q+1) 0 0),(8,rI 0),(16,qc C),(17,rI u),(79,.ptr 4 q 0 0),(80,rI l.Node),(81,qc C),(82,.agg [rI 2,rI l.Node,rI 0,rI 0,cZ,cZ,rI 0,rI 0,cZ,cZ,cZ,cZ,qc C,cZ,cZ,cZ,cZ,cZ,cZ]),(83,.r<|.sl<|[(BS.mk 2 l.Node (Ak.mk 0 0 [] [] (BX.mk 0 0 [] []) []) [] C (Ez.mk [] [] [] [] []) [])].map BS.row),(84,.ptr 4 q 0 0),(85,rI l.Node),(86,rI u),(87,rI u),(88,.agg [rI l.Node,rI u,rI u])]) (h':=[(4,some<|.box q 26<|A0 l),(7,some<|.box (q+1) 26 [rI l.Node,rI u,rI u]),(1000,some<|.box j 66<|DK w)]) 83 R ⟨jL,.inl<|.inr<|.inr ⟨R,R⟩,jL,jL,jL,jL,jL,jL,jL,jL,.inl<|.inr<|.inr ⟨R,R⟩,jL,jL,jL,jL,jL,Za⟩ ⟨R,.inl R,R,.inl R,R,.inl R,Za⟩) wk)<|Cc (λ(r:(List BS) × BW × Int) rr h'=>∃(i:Nat→Nat),rr=.tup [qi r.1,.agg<|A0 r.2.1,rI r.2.2]∧h'=[(1000,some<|.box j 66<|DK w)]) h9<|by exact⟨.tup [.r<|.sl<|[(BS.mk 2 l.Node (Ak.mk 0 0 [] [] (BX.mk 0 0 [] []) []) [] C (Ez.mk [] [] [] [] []) [])].map BS.row,.agg [rI l.Node,rI u,rI u],rI 0],[(1000,some<|.box j 66<|DK w)],⟨_,R,⟨R,.inr ⟨_,R,Fg,_,_,_,R,R⟩,R,Za⟩⟩,⟨.inr R,Za⟩,R,R,AH [],R,R⟩
theorem pi{d1 B b c r}(h:G4 d1 B b c=some r):AS prog 5 [.agg [qg d1.Nodes],.agg<|A0 B,qb b,rS c] (.tup [qi r.1,.agg<|A0 r.2.1,rI r.2.2]):=by
 unfold G4 at h
 refine mF func5 ntmps5 R λj=>aU<|sS R (A2 (cs:=[qg d1.Nodes]) 4 R iL R R)<|sS R (A2 (cs:=(A0 B)) 5 R iL R R)<|mA R<|sS R (BF (cs:=[rI 0,rI 0,rI 0]) 9 R Vs R R)<|mA R<|aZ<|aU<|xC E5 R<|xC Fg R<|mM R<|D5 h λC r2 X h1=>sS R (C0 (r:=.tup [.agg<|DK C,rI r2]) (caps:=[]) (bs:=[.agg [qg d1.Nodes],.agg<|A0 B,rS c]) R iL R ⟨.inl ⟨iL,R⟩,.inl ⟨iL,R⟩,.inl ⟨iL,R⟩,Za⟩ λ_=>si<|X)<|mM R<|xX R<|xX R<|sS R (BF (cs:=F5) 11 R VT R R)<|Zk R R (Aj (ds:=(DK C)) R JL iL R iL R R R R)<|mA R<|aZ<|aT λc3=>aT λc4=>aG [2,5,9,11,12] [5,9,11] ?_
 refine aR<|mM R<|xU R<|aZ<|c4 _<|cI R h1 (λY=>?_) λY=>?_
 ·refine aT λc5=>aR ?_
  refine sQ R (Bt R JI (q:=[]) (by exact Za) (cs:=[rI 0,rI 0,rI 0])<|by rfl) ?_
  exact mM R<|mA R<|Zk R R (Aj (ds:=[rI 0,rI 0,rI 0]) R Is iL R iL R R R R)<|mA R<|aZ<|c5 _<|Zj<|HW (P:=prog) (λ(r:(List BS) × BW × Int)=>qi r.1) (λ(r:(List BS) × BW × Int)=>.agg<|A0 r.2.1) (λ(r:(List BS) × BW × Int)=>rI r.2.2) Y iL (.t<|.one<|.nil) (.a Fg R R R<|.g (cs:=[.int .i64 0,.int .i64 0,.int .i64 0]) R R)<|.t<|.d R
 refine Zd<|c3 _<|aT λc6=>aU<|mM R<|AG Y λe1 Z h3=>cL (en<|Z) R<|mA R<|aZ<|aU<|mM R<|xU R<|aZ<|cI R h3 (λh4=>?_) λh4=>?_
 ·refine aT λc9=>aG [9,13] [9] ?_
  refine aR ?_
  refine sQ R (Bt R JI (q:=[]) (by exact Za) (cs:=[rI 0,rI 0,rI 0])<|by rfl) ?_
  exact mM R<|mA R<|Zk R R (Aj (ds:=[rI 0,rI 0,rI 0]) R Is iL R iL R R R R)<|mA R<|aZ<|c9 _<|Zj<|HW (P:=prog) (λ(r:(List BS) × BW × Int)=>qi r.1) (λ(r:(List BS) × BW × Int)=>.agg<|A0 r.2.1) (λ(r:(List BS) × BW × Int)=>rI r.2.2) h4 iL (.t<|.one<|.nil) (.a Fg R R R<|.g (cs:=[.int .i64 0,.int .i64 0,.int .i64 0]) R R)<|.t<|.d R
 refine Zd<|c6 _<|aT λa0=>aU<|mM R<|xL Ah R<|sQ R (A9 R iL iL)<|aZ<|cI R h4 (λh5=>?_) λh5=>?_
 ·refine aT λa1=>aG [9] [9] ?_
  refine aR ?_
  refine sQ R (Bt R JI (q:=[]) (by exact Za) (cs:=[rI 0,rI 0,rI 0])<|by rfl) ?_
  exact mA R<|Zk R R (Aj (ds:=[rI 0,rI 0,rI 0]) R Is iL R iL R R R R)<|mA R<|aZ<|a1 _<|Zj<|HW (P:=prog) (λ(r:(List BS) × BW × Int)=>qi r.1) (λ(r:(List BS) × BW × Int)=>.agg<|A0 r.2.1) (λ(r:(List BS) × BW × Int)=>rI r.2.2) h5 iL (.t<|.one<|.nil) (.a Fg R R R<|.g (cs:=[.int .i64 0,.int .i64 0,.int .i64 0]) R R)<|.t<|.d R
 refine Zd<|a0 _<|aT λa2=>aG [2,5,9,11] [5,9,11] ?_
 refine aR<|mM R<|AG h5 λI a6 h6=>?_
 refine Zo [39] (hc:=[]) (bs:=[qb b]) (caps:=[]) R R R R iL R ⟨.inl ⟨iL,R⟩,Za⟩ Za (by decide) (tR a6) ?_
 intro q n1
 refine A8 [2,5,9,11,38,39] [5,9,11,39] ?_
 refine mA R<|aZ<|a2 _<|aS λa7 a8 J=>aU<|mM R<|sQ R (pQ R Ah.slice iL R)<|mM R<|aZ<|Zf<|BP h6 λo1 M aa ab=>?_
 have J1:∀(O:List AD) (i6:NN),o1=.nrm O→a7 ⟨[(5,.ptr 5 (j+1) 0 0),(9,.ptr 9 (j+2) 0 0),(11,.ptr 11 (j+3) 0 0),(14,.own 39<|q 0)],[(5,some<|.box (j+1) 26<|A0 B),(9,some<|.box (j+2) 26 [rI 0,rI 0,rI 0]),(11,some<|.box (j+3) 66<|DK C),(39,some<|.rr (q 0) 37 3 2 39 2 none<|O.map AD.row)],(i6 0),68⟩:=by
  intro O i6 e
  have h7:=aa _ e
  refine a8 _<|aT λac=>aR<|xC Fg R<|mM R ?_
  refine AL.weak (Zm (vR 63 39 R R)<|by exact ZE (e':=[(5,.ptr 5 (j+1) 0 0),(9,.ptr 9 (j+2) 0 0),(11,.ptr 11 (j+3) 0 0),(62,.agg<|A0 B),(63,qb O)]) (h':=[(5,some<|.box (j+1) 26<|A0 B),(9,some<|.box (j+2) 26 [rI 0,rI 0,rI 0]),(11,some<|.box (j+3) 66<|DK C)]) ⟨jL,jL,jL,jL,jL,Za⟩ ⟨.inl R,.inl R,.inl R,Za⟩ nL) ?_
  refine Kc h7 λr3 V r5 ad h8=>?_
  refine Zo [11] (hc:=[(1000,some<|.box (j+3) 66<|DK C)]) (bs:=[.ptr 1000 (j+3) 0 0,.agg<|A0 B,qb O]) (caps:=[]) R R R R iL R ⟨.inl ⟨iL,R⟩,.inl ⟨iL,R⟩,.inl ⟨iL,R⟩,Za⟩ ⟨R,R,R,Za⟩ (by decide) (tr ad) ?_
  intro i7 n2
  refine A8 [5,9,11,62,63,64] [5,9,11] ?_
  exact xX R<|xX R<|xX R<|mA R<|Zk R R (Aj (ds:=(A0 V)) R Is iL R iL R R R R)<|mA R<|aZ<|ac _<|Zj<|HW (P:=prog) (λ(r:(List BS) × BW × Int)=>qi r.1) (λ(r:(List BS) × BW × Int)=>.agg<|A0 r.2.1) (λ(r:(List BS) × BW × Int)=>rI r.2.2) h8 iL (.t<|.d R) (.a Fg R R R<|.g (cs:=[.int .i64 V.Node,.int .i64 V.From,.int .i64 V.To]) R R)<|.t<|.d R
 refine Dd (λ(l:Int) (T:List AD) A=>⟨[(5,.ptr 5 (j+1) 0 0),(9,.ptr 9 (j+2) 0 0),(11,.ptr 11 (j+3) 0 0),(14,.own 39<|q 0),(40,.own 39<|q 0),(41,rL I),(42,rI l)],[(5,some<|.box (j+1) 26<|A0 B),(9,some<|.box (j+2) 26 [rI 0,rI 0,rI 0]),(11,some<|.box (j+3) 66<|DK C),(39,some<|.rr (q 0) 37 3 2 39 2 none<|T.map AD.row)],(A 0),68⟩) (AH [n1]) M wk ?_
 intro l T A v1 ae U
 have h9:HL I l T=some v1:=ae;unfold HL at h9
 refine aU<|xS R<|aZ<|aT λaf=>cI R h9 (λE=>?_) λE=>?_
 ·refine Zd<|af _<|aT λag=>Zf<|aU<|mM R<|AG E λw u ah=>sQ R (RJ R Ah.slice iL R iL λ_=>u)<|sQ R (jq (cs:=(MD w)) R Dc iL R (λ_=>u) R)<|sS R (BF (cs:=Fh) 16 R Ft R R)<|mA R<|Zk R R (Aj (ds:=(MD w)) R EY iL R iL R R R R)<|aZ<|aT λai=>aU<|lF D9 AJ R R<|xU R<|aZ<|cI R ah (λF=>?_) λF=>?_
  ·refine aT λaj=>aG [9] [9] ?_
   refine aR ?_
   refine sQ R (Bt R JI (q:=[]) (by exact Za) (cs:=[rI 0,rI 0,rI 0])<|by rfl) ?_
   exact mA R<|Zk R R (Aj (ds:=[rI 0,rI 0,rI 0]) R Is iL R iL R R R R)<|mA R<|aZ<|aj _<|Zj<|HW (P:=prog) (λ(r:(List BS) × BW × Int)=>qi r.1) (λ(r:(List BS) × BW × Int)=>.agg<|A0 r.2.1) (λ(r:(List BS) × BW × Int)=>rI r.2.2) (ab _<|xH U F) iL (.t<|.one<|.nil) (.a Fg R R R<|.g (cs:=[.int .i64 0,.int .i64 0,.int .i64 0]) R R)<|.t<|.d R
  refine Zd<|ai _<|aR<|mM R<|mM R<|mM R<|mM R<|sQ R (RJ R Ah.slice iL R iL λ_=>u)<|sQ R (GQ (ob:=.rr _ _ _ _ _ _ _ _) R DA iL fR R) ?_
  refine AL.weak (Zm (iD (f:=AD.row) (f2:=AC.row) 39 20039 l R R R u R)<|by exact ZE (e':=[(5,.ptr 5 (j+1) 0 0),(9,.ptr 9 (j+2) 0 0),(11,.ptr 11 (j+3) 0 0),(14,.own 39<|q 0),(15,rI l),(16,.ptr 16 (A 0) 0 0),(40,.own 39<|q 0),(41,rL I),(42,rI l),(43,rB<|(decide<|l<(I.length:Int))),(44,rI l),(45,.ptr 39 (q 0) l.toNat 0),(46,.agg<|MD w),(47,.ptr 16 (A 0) 0 1),(48,rI w.Ref),(49,rB<|(!(w.Ref=0))),(51,.own 39<|q 0),(52,rI l),(53,.own 39<|q 0),(54,rI l),(55,.ptr 39 (q 0) l.toNat 0),(56,.ptr 39 (q 0) l.toNat 2)]) (h':=[(5,some<|.box (j+1) 26<|A0 B),(9,some<|.box (j+2) 26 [rI 0,rI 0,rI 0]),(11,some<|.box (j+3) 66<|DK C),(16,some<|.box (A 0) 37<|MD w),(39,some<|.rr (q 0) 37 3 2 39 2 (some (l.toNat,20039,((A 0)+1)))<|T.map AD.row),(20039,some<|.arr ((A 0)+1) 39 2<|w.Attrs.map AC.row)]) ⟨jL,jL,jL,jL,jL,jL,jL,jL,jL,jL,jL,jL,jL,jL,jL,jL,jL,jL,jL,jL,jL,jL,Za⟩ ⟨.inl R,.inl R,.inl R,.inl R,.inl R,.inl R,Za⟩ nL) ?_
  refine sQ R (iP R BD iL R λ_=>u)<|AG F λw2 ak al=>?_
  refine Zo [20039] (hc:=[(1000,some<|.arr ((A 0)+1) 39 2<|w.Attrs.map AC.row)]) (bs:=[.own 1000<|(A 0)+1,.fn 21 []]) (caps:=[]) R R R R iL R ⟨.inl ⟨iL,R⟩,.inl ⟨iL,R⟩,Za⟩ ⟨R,R,R,Za⟩ (by decide) (pC ak) ?_
  intro i8 n3
  refine A8 [5,9,11,14,15,16,40,41,42,43,44,46,47,48,49,51,52,53,54,58] [5,9,11,16,39,20039] ?_
  refine sQ R (RJ R Ah.slice iL R iL λ_=>u)<|sQ R (GQ (ob:=.rr _ _ _ _ _ _ _ _) R DA iL fR R)<|Zk R R (nj R Gf iL R u iL R) ?_
  refine AL.weak (Zm (vT (f:=AD.row) (f2:=AC.row) (v:=(AD.mk w.Char w.Ref w2)) 39 20039 l R R R u R)<|by exact ZE (e':=[(5,.ptr 5 (j+1) 0 0),(9,.ptr 9 (j+2) 0 0),(11,.ptr 11 (j+3) 0 0),(14,.own 39<|q 0),(15,rI l),(16,.ptr 16 (A 0) 0 0),(40,.own 39<|q 0),(41,rL I),(42,rI l),(43,rB<|(decide<|l<(I.length:Int))),(44,rI l),(46,.agg<|MD w),(47,.ptr 16 (A 0) 0 1),(48,rI w.Ref),(49,rB<|(!(w.Ref=0))),(51,.own 39<|q 0),(52,rI l),(53,.own 39<|q 0),(54,rI l),(59,.ptr 39 (q 0) l.toNat 0),(60,.ptr 39 (q 0) l.toNat 2)]) (h':=[(5,some<|.box (j+1) 26<|A0 B),(9,some<|.box (j+2) 26 [rI 0,rI 0,rI 0]),(11,some<|.box (j+3) 66<|DK C),(16,some<|.box (A 0) 37<|MD w),(39,some<|.rr (q 0) 37 3 2 39 2 none<|(T.set l.toNat<|AD.mk w.Char w.Ref w2).map AD.row)]) ⟨jL,jL,jL,jL,jL,jL,jL,jL,jL,jL,jL,jL,jL,jL,jL,jL,jL,jL,jL,jL,jL,Za⟩ ⟨.inl R,.inl R,.inl R,.inl R,.inl R,Za⟩ nL) ?_
  refine aZ<|ag _<|aG [5,9,11,14,40,41,42] [5,9,11,39] ?_
  exact aR<|AG al λx5 an ao=>xA R an<|mM R<|Zh<|ZI ao (AH [n3]) wk
 exact Zn<|J _ _ wk<|J1 _ (AH [(A 0)])<|xH U E
theorem DX{j l a r}(h:Cq j l a=some r):AS prog 57 [rI j,rI l,rI a] (rB r):=by
 unfold Cq at h
 exact mF func57 ntmps57 R λq=>aU<|mA R<|aZ<|aU<|mM R<|mM R<|sQ R (C1 R iL iL)<|mM R<|vM R<|vM R<|vQ R (FG R (iR R)<|iR R)<|xN R<|mA R<|aZ<|Zj<|yB h R
theorem Zi{l r}(h:MA l=some r):AS prog 103 [rS l] (rB r):=by
 unfold MA at h
 refine mF func103 ntmps103 R λX=>aU<|mA R<|aZ<|aS λY Z A=>aU<|mM R<|sQ R (Ds R underlying9 iL)<|mM R<|aZ<|Zf<|BP h λo1 q B C=>?_
 have J1:∀(T:Unit) (U:NN),o1=.nrm T→Y ⟨[(0,rS l)],[],(U 0),59⟩:=by
  intro T U e
  have h1:=B _ e
  exact Z _<|aU<|mM R<|sQ R (Ds R underlying9 iL)<|sQ R (C1 R iL iL)<|mM R<|vM R<|vQ R (Ds R underlying9<|iR R)<|vQ R (FG R (iR R) iL)<|xN R<|mA R<|aZ<|Zj<|yB h1 R
 refine Zz (λ(E:Int) w=>⟨[(0,rS l),(6,rL l),(7,rI E)],[],(w 0),59⟩) (AH [X]) q wk ?_
 intro E w v1 F u
 have V:Mo l E=some v1:=F;unfold Mo at V
 refine aU<|xS R<|aZ<|aT λc6=>cI R V (λI=>?_) λI=>?_
 ·refine Zd<|c6 _<|aT λc7=>Zf<|aU<|mM R<|mA R<|aZ<|aU<|mM R<|mM R<|AG I λa0 j h4=>sQ R (DL R underlying9 iL iL λ_=>j)<|sQ R (C1 R iL iL)<|mM R<|vM R<|vM R<|vQ R (DL R underlying9 (iR R) (iR R) λ_=>j)<|vQ R (FG R (iR R) iL)<|xN R<|mA R<|aZ<|aT λJ=>aR<|mM R<|sQ R (A3 R iL)<|mM R<|vM R<|vQ R (Am R (iR R) iL)<|vQ R (AK R<|iR R)<|wQ R (AK R iL)<|wQ R (AK R iL)<|wQ R (DL R underlying9 (iR R) (iR R) λ_=>j)<|wQ R (Ct R (iR R) iL)<|wQ R (AK R<|iR R)<|wQ R (AK R iL)<|wQ R (AK R iL)<|wQ R (DL R underlying9 (iR R) (iR R) λ_=>j)<|wQ R (Ct R (iR R) iL)<|wQ R (BI R (iR R)<|iR R)<|wQ R (AK R<|iR R)<|wQ R (AK R iL)<|wQ R (AK R iL)<|wQ R (DL R underlying9 (iR R) (iR R) λ_=>j)<|wQ R (B5 R (iR R) iL)<|wQ R (AK R<|iR R)<|wQ R (AK R iL)<|wQ R (AK R iL)<|wQ R (DL R underlying9 (iR R) (iR R) λ_=>j)<|wQ R (A9 R (iR R) iL)<|wQ R (CW R (iR R)<|iR R)<|wQ R (BI R (iR R)<|iR R)<|vQ R (CW R (iR R)<|iR R)<|xN R<|aZ<|J _<|cI R h4 (λM=>?_) λM=>?_
  ·exact zB (C _<|xH u M) R id
  refine Zd<|c7 _<|aF [0,6,7] ?_
  exact aR<|AG M λx4 O h6=>xA R O<|mM R<|Zh<|Zx h6 (AH [(w 0)]) wk
 exact Zn<|A _ _ wk<|J1 _ (AH [(w 0)])<|xH u I
theorem Uv{l r}(h:J9 l=some r):AS prog 25 [rS l] (rB r):=by
 unfold J9 at h
 refine mF func25 ntmps25 R λV=>aU<|mA R<|aZ<|aS λX Y A=>aU<|mM R<|sQ R (Ds R underlying9 iL)<|mM R<|aZ<|Zf<|BP h λZ q B C=>?_
 have J1:∀(O:Unit) (T:NN),Z=.nrm O→X ⟨[(0,rS l)],[],(T 0),28⟩:=by
  intro O T e
  have h1:=B _ e
  exact Y _<|aU<|mM R<|sQ R (Ds R underlying9 iL)<|sQ R (C1 R iL iL)<|mM R<|vM R<|vQ R (Ds R underlying9<|iR R)<|vQ R (FG R (iR R) iL)<|xN R<|mA R<|aZ<|Zj<|yB h1 R
 refine Zz (λ(E:Int) w=>⟨[(0,rS l),(5,rL l),(6,rI E)],[],(w 0),28⟩) (AH [V]) q wk ?_
 intro E w v1 F u
 have U:P2 l E=some v1:=F;unfold P2 at U
 refine aU<|xS R<|aZ<|aT λc6=>cI R U (λI=>?_) λI=>?_
 ·refine Zd<|c6 _<|aT λc7=>Zf<|aU<|mM R<|mA R<|aZ<|aU<|mM R<|mM R<|AG I λa0 j h4=>sQ R (DL R underlying9 iL iL λ_=>j)<|xS R<|mM R<|vM R<|vM R<|vQ R (DL R underlying9 (iR R) (iR R) λ_=>j)<|vQ R (A9 R (iR R) iL)<|xO R<|aZ<|cI R h4 (λJ=>?_) λJ=>?_
  ·exact zB (C _<|xH u J) R id
  refine Zd<|c7 _<|aF [0,5,6] ?_
  exact aR<|AG J λx4 M h6=>xA R M<|mM R<|Zh<|Zx h6 (AH [(w 0)]) wk
 exact Zn<|A _ _ wk<|J1 _ (AH [(w 0)])<|xH u I
theorem O1{w c r}(h:Iv w c=some r):AS prog 58 [qa w,rB c] (rI r):=by
 unfold Iv at h
 refine mF func58 ntmps58 R λn0=>aU<|mA R<|aZ<|aS λK2 c2 E=>aU<|mM R<|xL Ac R<|mM R<|aZ<|Zf<|BP h λo1 A F q=>?_
 have J1:∀(u2:Unit) (i5:NN),o1=.nrm u2→K2 ⟨[],[],(i5 0),54⟩:=by
  intro u2 i5 e
  have h1:=F _ e
  exact c2 _<|zI h1 R id
 refine Zz (λ(I:Int) B=>⟨[(0,qa w),(1,rB c),(7,rL w),(8,rI I)],[],(B 0),54⟩) (AH [n0]) A wk ?_
 intro I B v1 J j
 have h2:Ld w c I=some v1:=J;unfold Ld at h2
 refine aU<|xS R<|aZ<|aT λc6=>cI R h2 (λM=>?_) λM=>?_
 ·refine Zd<|c6 _<|aT λc7=>Zf<|aU<|mM R<|mA R<|aZ<|aT λc9=>aU<|mM R<|mM R<|AG M λC l h4=>xI Ac R l<|sQ R (A4 R B1 iL)<|xV (.str C.Name) A6 R<|AG h4 λr1 O h5=>cL (Zi<|O) R<|sQ R (A3 R iL)<|aZ<|cI R h5 (λT=>?_) λT=>?_
  ·exact zI (q _<|xH j T) R id
  refine Zd<|c9 _<|aT λU=>aT λV=>aF [0,1,5,7,8] ?_
  refine aR<|mM R<|mM R<|xI Ac R l<|sQ R (A4 R Jo iL)<|xV (.str C.Value) A6 R<|AG T λr2 X h7=>cL (Uv<|X) R<|sQ R (A3 R iL)<|mM R<|vM R<|vM R<|vQ R (Az R Ac.slice (iR R) (iR R) (λ_=>R) λ_=>l)<|vQ R (A4 R Jo<|iR R)<|vQ R (Bc (d:=.str C.Value) R A6 (iR R) R)<|vQ R (DJ R (iR R) iL)<|vQ R (AK R<|iR R)<|wQ R (AK R iL)<|wQ R (A3 R<|iR R)<|vQ R (CW R (iR R)<|iR R)<|xN R<|aZ<|V _<|cI R h7 (λY=>?_) λY=>?_
  ·exact zI (q _<|xH j Y) R id
  refine Zd<|U _<|aT λZ=>aF [0,1,5,7,8] ?_
  refine ZA BA (by kernel_rfl) ?_
  refine qP R (AK R iL)<|qP R (A9 R iL iL)<|qP R (AK R iL)<|qO R (AK R iL)<|qO R (AK R iL)<|AG Y λx5 a0 h9=>qO R (CG R (iR R) iL<|AU a0)<|AG h9 λx6 a1 a2=>qO R (Az R Ac.slice (iR R) (iR R) (λ_=>R)<|AU a1)<|qO R (A4 R B1<|iR R)<|qO R (Bc (d:=.str x6.Name) R A6 (iR R) R)<|qO R (AK R iL)<|qO R (AK R iL)<|qO R (Az R Ac.slice (iR R) (iR R) (λ_=>R) λ_=>l)<|qO R (A4 R B1<|iR R)<|qO R (Bc (d:=.str C.Name) R A6 (iR R) R)<|qO R (Wy R (iR R)<|iR R)<|qP R (BI R iL<|iR R)<|AQ.nil<|Z _<|cI R a2 (λu=>?_) λu=>?_
  ·exact zI (q _<|xH j u) R id
  exact Zd<|c7 _<|aR<|AG u λx7 a6 a7=>xA R a6<|mM R<|Zh<|Zx a7 (AH [(B 0)]) wk
 exact Zn<|E _ _ wk<|J1 _ (AH [(B 0)])<|xH j M
theorem R8{k r}(h:Kp k=some r):AS prog 55 [rI k] (rB r):=by
 unfold Kp at h
 exact mF func55 ntmps55 R λj=>aU<|mA R<|aZ<|aU<|mM R<|xQ R<|mM R<|vM R<|vQ R (Am R (iR R) iL)<|xO R<|mM R<|vM R<|vQ R (Am R (iR R) iL)<|xO R<|mM R<|vM R<|vQ R (Am R (iR R) iL)<|xO R<|mA R<|aZ<|Zj<|yB h R
theorem oK{k r}(h:RZ k=some r):AS prog 105 [rI k] (rB r):=by
 unfold RZ at h
 exact mF func105 ntmps105 R λj=>aU<|mA R<|aZ<|aU<|mM R<|xQ R<|mM R<|vM R<|vQ R (Am R (iR R) iL)<|xO R<|mA R<|aZ<|Zj<|yB h R
theorem tN{j r}(h:OM j=some r):AS prog 106 (XE j) (rB r):=by
 unfold OM at h
 exact mF func106 ntmps106 R λl=>aU<|sS R (A2 (cs:=(DZ j)) 1 R iL R R)<|mA R<|aZ<|aU<|lF GT AJ R R<|xQ R<|mM R<|vF GO AJ R R<|vQ R (Am R (iR R) iL)<|xN R<|mM R<|vF F2 FR R R<|vQ R (Bk R Cm.slice<|iR R)<|vQ R (Am R (iR R) iL)<|xN R<|mM R<|vF Fl D2 R R<|vQ R (Bk R Cp.slice<|iR R)<|vQ R (Am R (iR R) iL)<|xN R<|mA R<|aZ<|Zj<|yB h R
theorem eB{k r}(h:Pr k=some r):AS prog 107 [rI k] (rB r):=by
 unfold Pr at h
 exact mF func107 ntmps107 R λj=>aU<|mA R<|aZ<|aU<|mM R<|xQ R<|mM R<|vM R<|vQ R (Am R (iR R) iL)<|xO R<|mA R<|aZ<|Zj<|yB h R
theorem me{k r}(h:RD k=some r):AS prog 108 [rI k] (rB r):=by
 unfold RD at h
 exact mF func108 ntmps108 R λj=>aU<|mA R<|aZ<|aU<|mM R<|xQ R<|mM R<|vM R<|vQ R (Am R (iR R) iL)<|xO R<|mM R<|vM R<|vQ R (Am R (iR R) iL)<|xO R<|mA R<|aZ<|Zj<|yB h R
theorem eY{u r}(h:M9 u=some r):AS prog 56 [rI u] (rB r):=by
 unfold M9 at h
 exact mF func56 ntmps56 R λC=>aU<|mA R<|aZ<|aU<|mM R<|xQ R<|mM R<|vM R<|vQ R (Am R (iR R) iL)<|xO R<|mM R<|vM R<|AG h λE j w=>vL (λhg=>DX<|AU j hg) R<|xO R<|mM R<|vM R<|AG w λF l A=>vL (λhg=>DX<|AU l hg) R<|xO R<|mM R<|vM R<|AG A λI q B=>vL (λhg=>DX<|AU q hg) R<|xO R<|mA R<|aZ<|Zj<|yB B R
theorem aN{j r}(h:Mb j=some r):AS prog 26 (cU j) (rI r):=by
 unfold Mb at h
 refine mF func26 ntmps26 R λT=>aU<|sS R (A2 (cs:=(A5 j)) 1 R iL R R)<|mA R<|aZ<|aT λB=>aU<|lF Ek AJ R R<|xQ R<|mM R<|vF D9 AJ R R<|vQ R (Am R (iR R) iL)<|xN R<|mM R<|vF Ek AJ R R<|vQ R (Ct R (iR R) iL)<|vQ R (AK R<|iR R)<|wQ R (fB R D9 iL fR R)<|wQ R (AZ (a:=rI j.Ref) R AJ (iR R) R R)<|wQ R (Ct R (iR R) iL)<|vQ R (BI R (iR R)<|iR R)<|xO R<|aZ<|cI R h (λl=>?_) λl=>?_
 ·exact zI l R id
 refine Zd<|B _<|aT λC=>aT λE=>aG [1] [1] ?_
 refine aR<|lF Ek AJ R R<|xU R<|mM R<|vF Ek AJ R R<|AG l λU q F=>vL (λhg=>eY<|AU q hg) R<|vQ R (A3 R<|iR R)<|xN R<|mM R<|vF D9 AJ R R<|vQ R (Ct R (iR R) iL)<|vQ R (AK R<|iR R)<|wQ R (fB R D9 iL fR R)<|wQ R (AZ (a:=rI j.Ref) R AJ (iR R) R R)<|AG F λI u J=>AL.stepW (.two R R R) R R (Dy (r:=rB I) (caps:=[]) (bs:=[rI j.Ref,rI 1,rI 1073741824]) R iL R ⟨⟨_,(iR R),.d R⟩,⟨_,iL,.d R⟩,⟨_,iL,.d R⟩,Za⟩ (λhg=>DX<|AU u hg) R)<|wQ R (A3 R<|iR R)<|vQ R (BI R (iR R)<|iR R)<|xO R<|aZ<|E _<|cI R J (λw=>?_) λw=>?_
 ·exact zI w R id
 refine Zd<|C _<|aT λM=>aG [1] [1] ?_
 exact aR<|lF DA BD R R<|AG w λV A O=>cL (O1<|A) R<|mA R<|aZ<|M _<|Zj<|yI O R
theorem jR{f1 a r}(h:JD f1 a=some r):AS prog 109 [qb f1,rB a] (rI r):=by
 unfold JD at h
 refine mF func109 ntmps109 R λn0=>aU<|mA R<|aZ<|aS λK2 c2 B=>aU<|mM R<|xL Ah R<|mM R<|aZ<|Zf<|BP h λo1 q C u=>?_
 have J1:∀(u2:Unit) (i5:NN),o1=.nrm u2→K2 ⟨[(0,qb f1),(1,rB a)],[],(i5 0),47⟩:=by
  intro u2 i5 e
  have h1:=C _ e
  refine c2 _<|aT λc4=>aU<|mM R<|mM R<|vM R<|vQ R (Bk R Ah.slice<|iR R)<|vQ R (Am R (iR R) iL)<|vQ R (AK R<|iR R)<|wQ R (AK R iL)<|wQ R (AK R iL)<|wQ R (Bk R Ah.slice<|iR R)<|AG h1 λx4 E h2=>wQ R (CG R (iR R) iL<|AU E)<|AG h2 λx5 F h3=>wQ R (Az R Ah.slice (iR R) (iR R) (λ_=>R)<|AU F)<|wQ R (A4 R Ek<|iR R)<|wQ R (Bc (d:=.int .i64 x5.Char) R AJ (iR R) R)<|wQ R (Ct R (iR R) iL)<|vQ R (CW R (iR R)<|iR R)<|xN R<|aZ<|cI R h3 (λI=>?_) λI=>?_
  ·exact zI I R id
  exact Zd<|c4 _<|zI I R id
 refine Zz (λ(J:Int) A=>⟨[(0,qb f1),(1,rB a),(8,rL f1),(9,rI J)],[],(A 0),47⟩) (AH [n0]) q wk ?_
 intro J A v1 M j
 have h5:Ke f1 a J=some v1:=M;unfold Ke at h5
 refine aU<|xS R<|aZ<|aT λc9=>cI R h5 (λO=>?_) λO=>?_
 ·refine Zd<|c9 _<|aT λT=>Zf<|aU<|mM R<|mA R<|aZ<|aT λU=>aU<|mM R<|mM R<|AG O λx6 w h7=>xI Ah R w<|xB ((A5 x6)) Dc R<|AG h7 λe1 V h8=>cL (aN<|V) R<|mA R<|aZ<|aU<|mM R<|xU R<|aZ<|cI R h8 (λX=>?_) λX=>?_
  ·refine aT λY=>aF [6] ?_
   exact aR<|mM R<|mA R<|aZ<|Y _<|Zj<|yI (u _<|xH j X) R
  refine Zd<|U _<|aT λZ=>aF [0,1,5,8,9] ?_
  refine aR<|mM R<|sQ R (A3 R iL)<|mM R<|vM R<|vM R<|vQ R (Az R Ah.slice (iR R) (iR R) (λ_=>R) λ_=>w)<|vQ R (A4 R Ek<|iR R)<|vQ R (Bc (d:=.int .i64 x6.Char) R AJ (iR R) R)<|vQ R (Ct R (iR R) iL)<|xN R<|aZ<|Z _<|cI R X (λl=>?_) λl=>?_
  ·exact zI (u _<|xH j l) R id
  exact Zd<|T _<|aR<|AG l λx7 a0 a1=>xA R a0<|mM R<|Zh<|Zx a1 (AH [(A 0)]) wk
 exact Zn<|B _ _ wk<|J1 _ (AH [(A 0)])<|xH j O
theorem nz{j r}(h:RS j=some r):AS prog 180 [rS j] (rB r):=by
 unfold RS at h
 exact uo mx R R R ⟨_,func180,R,R⟩ h
theorem sh{l r}(h:N4 l=some r):AS prog 153 [rS l] (rB r):=by
 unfold N4 at h
 refine mF func153 ntmps153 R λE=>aU<|mA R<|aZ<|aT λc2=>aU<|mM R<|AG h λr1 F h1=>cL (nz<|F) R<|sQ R (A3 R iL)<|aZ<|cI R h1 (λI=>?_) λI=>?_
 ·exact zB I R id
 refine Zd<|c2 _<|aS λK5 c5 J=>aU<|mM R<|sS R (ny 9 R underlying9 iL)<|aZ<|Zf<|BP I λo1 q M O=>?_
 have J1:∀(Z:Unit) (i5:NN),o1=.nrm Z→K5 ⟨[],[],(i5 0),21⟩:=by
  intro Z i5 e
  have h3:=M _ e
  exact c5 _<|zB h3 R id
 refine Zz (λ(B:(Nat)) C=>⟨[(9,.ptr 9 E 0 0)],[(9,some<|.it E l B)],(C 0),21⟩) (AH [(E+1)]) q wk ?_
 intro B C v1 T u
 have U:Fq l B=some v1:=T;unfold Fq at U
 refine aT λc8=>AW.split (decide<|B<l.length) (λj=>?_) λj=>?_
 ·have V:=CF j U
  refine aR<|sS R (tB R iL R λ_=>j)<|xX R<|aZ<|c8 _<|aT λc9=>aC R (λw=>?_) λw=>by cases w
  refine Zd<|c9 _<|Zf<|aU<|xX R<|mA R<|aZ<|aU<|mM R<|xQ R<|mM R<|vM R<|vQ R (Ea R underlying21 underlying3<|iR R)<|AG V λr2 X h6=>vL (λhg=>eY<|AU X hg) R<|vQ R (A3 R<|iR R)<|xO R<|aZ<|cI R h6 (λY=>?_) λY=>?_
  ·exact zB (O _<|xH u Y) R id
  exact Zd<|Zx Y (AH [(C 0)]) wk
 ·have V:=CA j U
  exact aR<|sS R (qq R iL R λ_=>j)<|xX R<|aZ<|c8 _<|aT λa0=>aC R (λA=>by cases A) λA=>Zn<|J _ _ wk<|J1 _ (AH [(C 0)])<|xH u V
theorem sV{j r}(h:Pt j=some r):AS prog 154 (YT j) (rB r):=by
 unfold Pt at h
 exact mF func154 ntmps154 R λl=>aU<|sS R (A2 (cs:=(B0 j)) 1 R iL R R)<|mA R<|aZ<|aU<|lF HV A6 R R<|sQ R (Cz R iL iL)<|mM R<|vF Fb AJ R R<|vQ R (Am R (iR R) iL)<|xN R<|mM R<|vF Hf BD R R<|vQ R (Bk R Ac.slice<|iR R)<|vQ R (Am R (iR R) iL)<|xN R<|mA R<|aZ<|Zj<|yB h R
theorem eQ{C b c n r}(h:MU C b c n=some r):AS prog 114 [qe C,rI b,rI c,rB n] (rI r):=by
 unfold MU at h
 refine mF func114 ntmps114 R λn0=>aU<|mA R<|aZ<|aS λK2 c2 U=>aU<|mM R<|xL Cm R<|mM R<|aZ<|Zf<|BP h λo1 E V l=>?_
 have J1:∀(u2:Unit) (i5:NN),o1=.nrm u2→K2 ⟨[],[],(i5 0),93⟩:=by
  intro u2 i5 e
  have h1:=V _ e
  exact c2 _<|zI h1 R id
 refine Zz (λ(X:Int) T=>⟨[(0,qe C),(1,rI b),(2,rI c),(3,rB n),(13,rL C),(14,rI X)],[],(T 0),93⟩) (AH [n0]) E wk ?_
 intro X T v1 Y j
 have h2:QP C b c n X=some v1:=Y;unfold QP at h2
 refine aU<|xS R<|aZ<|aT λc6=>cI R h2 (λZ=>?_) λZ=>?_
 ·refine Zd<|c6 _<|aT λc7=>Zf<|aU<|mM R<|mA R<|aZ<|aU<|mM R<|mM R<|AG Z λF a0 h4=>xI Cm R a0<|xB ((B0 F)) Fc R<|sS R (BF (cs:=MS) 10 R MZ R R)<|Zk R R (Aj (ds:=(B0 F)) R MO iL R iL R R R R)<|aZ<|aT λa1=>aT λa2=>aR<|lF GA AJ R R<|mM R<|AG h4 λx5 a6 h5=>sQ R (CG R iL iL λ_=>a6)<|AG h5 λr1 a7 h6=>cL (DX<|a7) R<|sQ R (A3 R iL)<|mM R<|vF HD AJ R R<|vM R<|AG h6 λx6 a8 h7=>vQ R (CG R (iR R) iL<|AU a8)<|AG h7 λr2 aa h8=>vL (λhg=>DX<|AU aa hg) R<|vQ R (A3 R<|iR R)<|xO R<|mM R<|vF Fb AJ R R<|AG h8 λr3 ab h9=>vL (λhg=>DX<|AU ab hg) R<|vQ R (A3 R<|iR R)<|xO R<|aZ<|a2 _<|cI R h9 (λq=>?_) λq=>?_
  ·exact zI (l _<|xH j q) R id
  refine Zd<|a1 _<|aT λac=>aT λad=>aG [0,1,2,3,9,10,13,14] [10] ?_
  refine aR<|lF HV A6 R R<|AG q λr4 ae af=>cL (sh<|ae) R<|sQ R (A3 R iL)<|aZ<|ad _<|cI R af (λu=>?_) λu=>?_
  ·exact zI (l _<|xH j u) R id
  refine Zd<|ac _<|aT λag=>aU<|lF Hf BD R R<|AG u λe1 ah ai=>cL (O1<|ah) R<|mA R<|aZ<|aU<|mM R<|xU R<|aZ<|cI R ai (λw=>?_) λw=>?_
  ·refine aT λaj=>aF [11] ?_
   exact aR<|mM R<|mA R<|aZ<|aj _<|Zj<|yI (l _<|xH j w) R
  refine Zd<|ag _<|aT λak=>aT λal=>aG [0,1,2,3,9,10,13,14] [10] ?_
  refine aR<|mM R<|sQ R (A3 R iL)<|mM R<|vQ R (FT R Fc iL R R)<|AG w λr5 an ao=>vL (λhg=>sV<|AU an hg) R<|xN R<|aZ<|al _<|cI R ao (λA=>?_) λA=>?_
  ·exact zI (l _<|xH j A) R id
  refine Zd<|ak _<|aT λaq=>?_
  refine ZA BA (by kernel_rfl) ?_
  refine qP R (AK R iL)<|qP R (A9 R iL iL)<|qP R (AK R iL)<|qO R (fB R GA iL fR R)<|qO R (AZ (a:=rI F.Row) R AJ (iR R) R R)<|qO R (AK R iL)<|qO R (AK R iL)<|AG A λx7 I ar=>qO R (CG R (iR R) iL<|AU I)<|AG ar λx8 J av=>qO R (Az R Cm.slice (iR R) (iR R) (λ_=>R)<|AU J)<|qO R (A4 R GA<|iR R)<|qO R (Bc (d:=.int .i64 x8.Row) R AJ (iR R) R)<|qO R (B5 R (iR R)<|iR R)<|qO R (AK R<|iR R)<|qT R (fB R GA iL fR R)<|qT R (AZ (a:=rI F.Row) R AJ (iR R) R R)<|qT R (AK R iL)<|qT R (AK R iL)<|qT R (CG R (iR R) iL λh=>AU I (yV.1 h).1)<|qT R (Az R Cm.slice (iR R) (iR R) (λ_=>R) λh=>AU J (yV.1 h).1)<|qT R (A4 R GA<|iR R)<|qT R (Bc (d:=.int .i64 x8.Row) R AJ (iR R) R)<|qT R (Am R (iR R)<|iR R)<|qT R (AK R<|iR R)<|qT R (fB R HD iL fR R)<|qT R (AZ (a:=rI F.Col) R AJ (iR R) R R)<|qT R (AK R iL)<|qT R (AK R iL)<|AG av λx9 aw ax=>qT R (CG R (iR R) iL<|AU aw)<|AG ax λay M az=>qT R (Az R Cm.slice (iR R) (iR R) (λ_=>R)<|AU M)<|qT R (A4 R HD<|iR R)<|qT R (Bc (d:=.int .i64 ay.Col) R AJ (iR R) R)<|qT R (FG R (iR R)<|iR R)<|qT R (BI R (iR R)<|iR R)<|qO R (CW R (iR R)<|iR R)<|qP R (BI R iL<|iR R)<|AQ.nil<|aq _<|cI R az (λB=>?_) λB=>?_
  ·exact zI (l _<|xH j B) R id
  refine Zd<|c7 _<|aF [0,1,2,3,13,14] ?_
  exact aR<|AG B λb1 O b0=>xA R O<|mM R<|Zh<|Zx b0 (AH [((T 0)+1)]) wk
 exact Zn<|U _ _ wk<|J1 _ (AH [(T 0)])<|xH j Z
theorem Wm{j a c r}(h:KZ j a c=some r):AS prog 115 [.agg<|BR j,rI a,rI c] (rB r):=by
 unfold KZ at h
 exact mF func115 ntmps115 R λY=>aU<|sS R (A2 (cs:=(BR j)) 3 R iL R R)<|mA R<|aZ<|aT λF=>aR<|lF EC AJ R R<|mM R<|AG h λZ l I=>sQ R (CG R iL iL λ_=>l)<|AG I λr2 q J=>cL (DX<|q) R<|mM R<|vF Eg AJ R R<|vM R<|AG J λx2 u M=>vQ R (CG R (iR R) iL<|AU u)<|AG M λr3 w O=>vL (λhg=>DX<|AU w hg) R<|xN R<|mM R<|vF HP AJ R R<|vM R<|vF EC AJ R R<|AG O λx3 A T=>vQ R (CG R (iR R) (iR R)<|AU A)<|AG T λr4 B U=>vL (λhg=>DX<|AU B hg) R<|xN R<|mM R<|vF Hj AJ R R<|vM R<|vF Eg AJ R R<|AG U λx4 C V=>vQ R (CG R (iR R) (iR R)<|AU C)<|AG V λr5 E X=>vL (λhg=>DX<|AU E hg) R<|xN R<|mA R<|aZ<|F _<|Zj<|yB X R
theorem uK{j l r}(h:ON j l=some r):AS prog 152 [.agg<|BR j,.agg<|BR l] (rB r):=by
 unfold ON at h
 refine mF func152 ntmps152 R λM=>aU<|sS R (A2 (cs:=(BR j)) 2 R iL R R)<|sS R (A2 (cs:=(BR l)) 3 R iL R R)<|mA R<|aZ<|aT λB=>?_
 refine ZA BA (by kernel_rfl) ?_
 refine qP R (fB R EC iL fR R)<|qP R (AZ (a:=rI j.Row) R AJ iL R R)<|qP R (fB R EC iL fR R)<|qP R (AZ (a:=rI l.Row) R AJ iL R R)<|qP R (Wz R iL iL)<|qP R (fB R Eg iL fR R)<|qP R (AZ (a:=rI j.Col) R AJ iL R R)<|qP R (fB R Eg iL fR R)<|qP R (AZ (a:=rI l.Col) R AJ iL R R)<|qP R (Wz R iL iL)<|qP R (Dj R iL)<|qP R (Dj R iL)<|AQ.nil<|B _<|aT λC=>aG [2,3,5,6] [2,3] ?_
 exact aR<|mM R<|lF EC AJ R R<|lF HP AJ R R<|AG h λO q E=>xA R q<|lF EC AJ R R<|lF HP AJ R R<|AG E λT u F=>xA R u<|sQ R (LS R iL iL)<|xS R<|mM R<|vM R<|vF Eg AJ R R<|vF Hj AJ R R<|AG F λU w I=>vQ R (Gh R (iR R) (iR R)<|AU w)<|vF Eg AJ R R<|vF Hj AJ R R<|AG I λV A J=>vQ R (Gh R (iR R) (iR R)<|AU A)<|vQ R (LS R (iR R)<|iR R)<|vQ R (B5 R (iR R)<|iR R)<|xN R<|mA R<|aZ<|C _<|Zj<|yB J R
end Go.Proofs.YtgcalnmhoifpoaaGreatDoor.Al
