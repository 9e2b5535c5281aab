/- Walks, as printed. -/
import Derived.Test.YtdafahjmopdleaaGreatDoorPL2
import Derived.Test.YtdafahjmopdleaaGreatDoorProg
set_option maxHeartbeats 4000000
set_option maxRecDepth 20000
set_option linter.unusedVariables false
namespace Go.Proofs.YtdafahjmopdleaaGreatDoor.Al
open Go.Proofs Go.Proofs.Tryz
theorem A8:prog.follows .mixedOrders=true:=by kernel_rfl
theorem N8:(prog.info? 100).map (λi=>(i.zero,i.size,i.bytes))=some (some<|.agg #[.int .i64 0,.int .i64 0,.slice none 0 0,.slice none 0 0],4,64):=by kernel_rfl
theorem Su:(prog.info? 102).map (λi=>(i.zero,i.size,i.bytes))=some (some<|.agg #[.int .i64 0,.int .i64 0,.slice none 0 0,.slice none 0 0,.int .i64 0,.int .i64 0,.slice none 0 0,.slice none 0 0,.slice none 0 0,.slice none 0 0,.string ⟨#[]⟩],11,192):=by kernel_rfl
theorem UB:(prog.info? 140).map (λi=>(i.zero,i.size,i.bytes))=some (some<|.agg #[.int .i64 0,.int .i64 0,.string ⟨#[]⟩,.int .i64 0,.slice none 0 0],5,64):=by kernel_rfl
theorem Yo:(prog.info? 142).map (λi=>(i.zero,i.size,i.bytes))=some (some<|.agg #[.int .i64 0,.int .i64 0],2,16):=by kernel_rfl
theorem VF:(prog.info? 158).map (λi=>(i.zero,i.size,i.bytes))=some (some<|.agg #[.bool false,.bool false,.bool false,.bool false,.bool false],5,5):=by kernel_rfl
theorem UJ:(prog.info? 176).map (λi=>(i.zero,i.size,i.bytes))=some (some<|.agg #[.int .i64 0,.int .i64 0,.int .i64 0,.int .i64 0,.int .i64 0,.string ⟨#[]⟩,.string ⟨#[]⟩,.string ⟨#[]⟩],8,88):=by kernel_rfl
theorem ma:(prog.info? 193).map (λi=>(i.zero,i.size,i.bytes))=some (some<|.agg #[.slice none 0 0,.slice none 0 0,.int .i64 0],3,56):=by kernel_rfl
theorem j0:(prog.info? 196).map (λi=>(i.zero,i.size,i.bytes))=some (some<|.agg #[.slice none 0 0,.int .i64 0],2,32):=by kernel_rfl
theorem R0:(prog.info? 205).map (λi=>(i.zero,i.size,i.bytes))=some (some<|.agg #[.int .u8 0,.int .u8 0],2,2):=by kernel_rfl
theorem S4:(prog.info? 211).map (λi=>(i.zero,i.size,i.bytes))=some (some<|.agg #[.int .i64 0,.int .i64 0,.int .i64 0,.int .i64 0],4,32):=by kernel_rfl
theorem dH:(prog.info? 22).map (λi=>(i.zero,i.size,i.bytes))=some (some<|.slice none 0 0,1,24):=by kernel_rfl
theorem pI:(prog.info? 24).map (λi=>(i.zero,i.size,i.bytes))=some (some<|.agg #[.slice none 0 0],1,24):=by kernel_rfl
theorem Rk:(prog.info? 26).map (λi=>(i.zero,i.size,i.bytes))=some (some<|.agg #[.int .i64 0,.int .i64 0,.int .i64 0],3,24):=by kernel_rfl
theorem CM:(prog.info? 3).map (λi=>(i.zero,i.size,i.bytes))=some (some<|.int .i64 0,1,8):=by kernel_rfl
theorem MW:(prog.info? 36).map (λi=>(i.zero,i.size,i.bytes))=some (some<|.slice none 0 0,1,24):=by kernel_rfl
theorem Io:(prog.info? 39).map (λi=>(i.zero,i.size,i.bytes))=some (some<|.slice none 0 0,1,24):=by kernel_rfl
theorem Nj:(prog.info? 4).map (λi=>(i.zero,i.size,i.bytes))=some (some<|.bool false,1,1):=by kernel_rfl
theorem Uo:(prog.info? 40).map (λi=>(i.zero,i.size,i.bytes))=some (some<|.slice none 0 0,1,24):=by kernel_rfl
theorem TN:(prog.info? 41).map (λi=>(i.zero,i.size,i.bytes))=some (some<|.slice none 0 0,1,24):=by kernel_rfl
theorem Uw:(prog.info? 43).map (λi=>(i.zero,i.size,i.bytes))=some (some<|.agg #[.int .i64 0,.int .i64 0,.slice none 0 0,.slice none 0 0],4,64):=by kernel_rfl
theorem WK:(prog.info? 44).map (λi=>(i.zero,i.size,i.bytes))=some (some<|.slice none 0 0,1,24):=by kernel_rfl
theorem KH:(prog.info? 46).map (λi=>(i.zero,i.size,i.bytes))=some (some<|.agg #[.int .i64 0,.int .i64 0,.slice none 0 0,.slice none 0 0,.int .i64 0,.int .i64 0,.slice none 0 0,.slice none 0 0,.slice none 0 0],9,152):=by kernel_rfl
theorem Rn:(prog.info? 5).map (λi=>(i.zero,i.size,i.bytes))=some (some<|.int .u8 0,1,1):=by kernel_rfl
theorem NP:(prog.info? 51).map (λi=>(i.zero,i.size,i.bytes))=some (some<|.agg #[.int .i64 0,.int .i64 0,.slice none 0 0],3,40):=by kernel_rfl
theorem Pm:(prog.info? 58).map (λi=>(i.zero,i.size,i.bytes))=some (some<|.agg #[.string ⟨#[]⟩,.string ⟨#[]⟩],2,32):=by kernel_rfl
theorem WU:(prog.info? 63).map (λi=>(i.zero,i.size,i.bytes))=some (some<|.slice none 0 0,1,24):=by kernel_rfl
theorem Xe:(prog.info? 65).map (λi=>(i.zero,i.size,i.bytes))=some (some<|.slice none 0 0,1,24):=by kernel_rfl
theorem Xc:(prog.info? 66).map (λi=>(i.zero,i.size,i.bytes))=some (some<|.slice none 0 0,1,24):=by kernel_rfl
theorem U6:(prog.info? 67).map (λi=>(i.zero,i.size,i.bytes))=some (some<|.slice none 0 0,1,24):=by kernel_rfl
theorem UH:(prog.info? 69).map (λi=>(i.zero,i.size,i.bytes))=some (some<|.agg #[.slice none 0 0,.slice none 0 0,.slice none 0 0],3,72):=by kernel_rfl
theorem QC:(prog.info? 70).map (λi=>(i.zero,i.size,i.bytes))=some (some<|.slice none 0 0,1,24):=by kernel_rfl
theorem Xz:(prog.info? 72).map (λi=>(i.zero,i.size,i.bytes))=some (some<|.slice none 0 0,1,24):=by kernel_rfl
theorem T0:(prog.info? 74).map (λi=>(i.zero,i.size,i.bytes))=some (some<|.agg #[.slice none 0 0,.slice none 0 0,.slice none 0 0,.slice none 0 0,.slice none 0 0],5,120):=by kernel_rfl
theorem VV:(prog.info? 76).map (λi=>(i.zero,i.size,i.bytes))=some (some<|.agg #[.int .i64 0,.int .i64 0,.int .i64 0,.int .i64 0,.slice none 0 0,.slice none 0 0,.int .i64 0,.int .i64 0,.slice none 0 0,.slice none 0 0,.slice none 0 0,.slice none 0 0,.slice none 0 0,.slice none 0 0,.slice none 0 0,.slice none 0 0,.slice none 0 0,.slice none 0 0,.slice none 0 0],19,360):=by kernel_rfl
theorem H6:(prog.info? 9).map (λi=>(i.zero,i.size,i.bytes))=some (some<|.string ⟨#[]⟩,1,16):=by kernel_rfl
theorem E0:B7 prog 100 (.agg #[.int .i64 0,.int .i64 0,.slice none 0 0,.slice none 0 0]):=B7.of N8
theorem SE:B7 prog 102 (.agg #[.int .i64 0,.int .i64 0,.slice none 0 0,.slice none 0 0,.int .i64 0,.int .i64 0,.slice none 0 0,.slice none 0 0,.slice none 0 0,.slice none 0 0,.string ⟨#[]⟩]):=B7.of Su
theorem NC:B7 prog 140 (.agg #[.int .i64 0,.int .i64 0,.string ⟨#[]⟩,.int .i64 0,.slice none 0 0]):=B7.of UB
theorem uS:B7 prog 158 (.agg #[.bool false,.bool false,.bool false,.bool false,.bool false]):=B7.of VF
theorem cW:B7 prog 176 (.agg #[.int .i64 0,.int .i64 0,.int .i64 0,.int .i64 0,.int .i64 0,.string ⟨#[]⟩,.string ⟨#[]⟩,.string ⟨#[]⟩]):=B7.of UJ
theorem Sl:B7 prog 193 (.agg #[.slice none 0 0,.slice none 0 0,.int .i64 0]):=B7.of ma
theorem lG:B7 prog 205 (.agg #[.int .u8 0,.int .u8 0]):=B7.of R0
theorem Ya:B7 prog 211 (.agg #[.int .i64 0,.int .i64 0,.int .i64 0,.int .i64 0]):=B7.of S4
theorem Pe:B7 prog 26 (.agg #[.int .i64 0,.int .i64 0,.int .i64 0]):=B7.of Rk
theorem Xu:B7 prog 39 (.slice none 0 0):=B7.of Io
theorem Ur:B7 prog 46 (.agg #[.int .i64 0,.int .i64 0,.slice none 0 0,.slice none 0 0,.int .i64 0,.int .i64 0,.slice none 0 0,.slice none 0 0,.slice none 0 0]):=B7.of KH
theorem ED:B7 prog 51 (.agg #[.int .i64 0,.int .i64 0,.slice none 0 0]):=B7.of NP
theorem Kf:B7 prog 58 (.agg #[.string ⟨#[]⟩,.string ⟨#[]⟩]):=B7.of Pm
theorem bX:B7 prog 69 (.agg #[.slice none 0 0,.slice none 0 0,.slice none 0 0]):=B7.of UH
theorem nN:B7 prog 74 (.agg #[.slice none 0 0,.slice none 0 0,.slice none 0 0,.slice none 0 0,.slice none 0 0]):=B7.of T0
theorem EI:BW prog 100 4:=BW.of underlying100 rfl N8
theorem KS:BW prog 102 11:=BW.of underlying102 rfl Su
theorem FP:BW prog 140 5:=BW.of underlying140 rfl UB
theorem g8:BW prog 142 2:=BW.of underlying142 rfl Yo
theorem Ic:BW prog 176 8:=BW.of underlying176 rfl UJ
theorem lr:BW prog 205 2:=BW.of underlying205 rfl R0
theorem Ee:BW prog 211 4:=BW.of underlying211 rfl S4
theorem Dk:BW prog 24 1:=BW.of underlying24 rfl pI
theorem Df:BW prog 26 3:=BW.of underlying26 rfl Rk
theorem NF:BW prog 43 4:=BW.of underlying43 rfl Uw
theorem FI:BW prog 46 9:=BW.of underlying46 rfl KH
theorem CK:BW prog 51 3:=BW.of underlying51 rfl NP
theorem By:BW prog 58 2:=BW.of underlying58 rfl Pm
theorem aJ:BW prog 69 3:=BW.of underlying69 rfl UH
theorem S1:BW prog 74 5:=BW.of underlying74 rfl T0
theorem Vi:BW prog 76 19:=BW.of underlying76 rfl VV
theorem rf:Hc 0=some (FH.flatMap<|Ad .u8):=by kernel_rfl
theorem tb:Hc 1=some (O1.flatMap H2.row):=by kernel_rfl
theorem Kn:DE prog 100 [(0,1),(1,1),(2,1),(3,1)] [.int .i64 0,.int .i64 0,.slice none 0 0,.slice none 0 0]:=DE.of underlying100 (λw=>by kernel_rfl) N8
theorem Ng:DE prog 102 [(0,9),(9,1),(10,1)] [.int .i64 0,.int .i64 0,.slice none 0 0,.slice none 0 0,.int .i64 0,.int .i64 0,.slice none 0 0,.slice none 0 0,.slice none 0 0,.slice none 0 0,.string ⟨#[]⟩]:=DE.of underlying102 (λw=>by kernel_rfl) Su
theorem nz:RQ prog 158 [(0,1),(1,1),(2,1),(3,1),(4,1)] [.bool false,.bool false,.bool false,.bool false,.bool false]:=RQ.of (n:=5) (e:=4) underlying158 Nj (rK<|by decide) VF
theorem UD:DE prog 196 [(0,1),(1,1)] [.slice none 0 0,.int .i64 0]:=DE.of underlying196 (λw=>by kernel_rfl) j0
theorem JP:DE prog 26 [(0,1),(1,1),(2,1)] [.int .i64 0,.int .i64 0,.int .i64 0]:=DE.of underlying26 (λw=>by kernel_rfl) Rk
theorem ou:DE prog 43 [(0,1),(1,1),(2,1),(3,1)] [.int .i64 0,.int .i64 0,.slice none 0 0,.slice none 0 0]:=DE.of underlying43 (λw=>by kernel_rfl) Uw
theorem kk:DE prog 46 [(0,1),(1,1),(2,1),(3,1),(4,4),(8,1)] [.int .i64 0,.int .i64 0,.slice none 0 0,.slice none 0 0,.int .i64 0,.int .i64 0,.slice none 0 0,.slice none 0 0,.slice none 0 0]:=DE.of underlying46 (λw=>by kernel_rfl) KH
theorem H3:DE prog 51 [(0,1),(1,1),(2,1)] [.int .i64 0,.int .i64 0,.slice none 0 0]:=DE.of underlying51 (λw=>by kernel_rfl) NP
theorem Fy:DE prog 58 [(0,1),(1,1)] [.string ⟨#[]⟩,.string ⟨#[]⟩]:=DE.of underlying58 (λw=>by kernel_rfl) Pm
theorem l9:DE prog 69 [(0,1),(1,1),(2,1)] [.slice none 0 0,.slice none 0 0,.slice none 0 0]:=DE.of underlying69 (λw=>by kernel_rfl) UH
theorem pg:DE prog 76 [(0,1),(1,1),(2,9),(11,1),(12,1),(13,5),(18,1)] [.int .i64 0,.int .i64 0,.int .i64 0,.int .i64 0,.slice none 0 0,.slice none 0 0,.int .i64 0,.int .i64 0,.slice none 0 0,.slice none 0 0,.slice none 0 0,.slice none 0 0,.slice none 0 0,.slice none 0 0,.slice none 0 0,.slice none 0 0,.slice none 0 0,.slice none 0 0,.slice none 0 0]:=DE.of underlying76 (λw=>by kernel_rfl) VV
theorem tq:Ft prog 100 1 1:=Ft.of underlying100 rfl rfl underlying3 rfl
theorem nw:Ft prog 100 3 3:=Ft.of underlying100 rfl rfl underlying36 rfl
theorem pE:Ft prog 51 0 0:=Ft.of underlying51 rfl rfl underlying3 rfl
theorem jZ:Ft prog 51 2 2:=Ft.of underlying51 rfl rfl underlying39 rfl
theorem kS:ET prog 142 [some<|.int .i64,some<|.int .i64]:=ET.of underlying142 (by kernel_rfl) (by kernel_rfl)<|by exact⟨rfl,rfl,underlying3,rfl,rfl,underlying3,trivial⟩
theorem sq:ET prog 176 [some<|.int .i64,some<|.int .i64,some<|.int .i64,some<|.int .i64,some<|.int .i64,some .string,some .string,some .string]:=ET.of underlying176 (by kernel_rfl) (by kernel_rfl)<|by exact⟨rfl,rfl,underlying3,rfl,rfl,underlying3,rfl,rfl,underlying3,rfl,rfl,underlying3,rfl,rfl,underlying3,rfl,rfl,underlying9,rfl,rfl,underlying9,rfl,rfl,underlying9,trivial⟩
theorem cB:ET prog 211 [some<|.int .i64,some<|.int .i64,some<|.int .i64,some<|.int .i64]:=ET.of underlying211 (by kernel_rfl) (by kernel_rfl)<|by exact⟨rfl,rfl,underlying3,rfl,rfl,underlying3,rfl,rfl,underlying3,rfl,rfl,underlying3,trivial⟩
theorem V4:ET prog 26 [some<|.int .i64,some<|.int .i64,some<|.int .i64]:=ET.of underlying26 (by kernel_rfl) (by kernel_rfl)<|by exact⟨rfl,rfl,underlying3,rfl,rfl,underlying3,rfl,rfl,underlying3,trivial⟩
theorem Yg:ET prog 58 [some .string,some .string]:=ET.of underlying58 (by kernel_rfl) (by kernel_rfl)<|by exact⟨rfl,rfl,underlying9,rfl,rfl,underlying9,trivial⟩
theorem Bt:AU prog 100 0 0:=AU.of underlying100 rfl rfl CM<|by decide
theorem D3:AU prog 100 1 1:=AU.of underlying100 rfl rfl CM<|by decide
theorem DZ:AU prog 100 2 2:=AU.of underlying100 rfl rfl Io<|by decide
theorem Dz:AU prog 100 3 3:=AU.of underlying100 rfl rfl MW<|by decide
theorem Rp:AU prog 102 0 0:=AU.of underlying102 rfl rfl KH<|by decide
theorem Nd:AU prog 102 1 9:=AU.of underlying102 rfl rfl WU<|by decide
theorem dO:AU prog 102 2 10:=AU.of underlying102 rfl rfl H6<|by decide
theorem Fl:AU prog 140 0 0:=AU.of underlying140 rfl rfl CM<|by decide
theorem Gd:AU prog 140 1 1:=AU.of underlying140 rfl rfl CM<|by decide
theorem HN:AU prog 140 2 2:=AU.of underlying140 rfl rfl H6<|by decide
theorem E8:AU prog 140 3 3:=AU.of underlying140 rfl rfl CM<|by decide
theorem HY:AU prog 140 4 4:=AU.of underlying140 rfl rfl Io<|by decide
theorem Ki:AU prog 142 0 0:=AU.of underlying142 rfl rfl CM<|by decide
theorem Wz:AU prog 142 1 1:=AU.of underlying142 rfl rfl CM<|by decide
theorem IJ:AU prog 176 0 0:=AU.of underlying176 rfl rfl CM<|by decide
theorem Kr:AU prog 176 1 1:=AU.of underlying176 rfl rfl CM<|by decide
theorem Gw:AU prog 176 2 2:=AU.of underlying176 rfl rfl CM<|by decide
theorem Vu:AU prog 176 3 3:=AU.of underlying176 rfl rfl CM<|by decide
theorem Qb:AU prog 176 4 4:=AU.of underlying176 rfl rfl CM<|by decide
theorem TQ:AU prog 176 5 5:=AU.of underlying176 rfl rfl H6<|by decide
theorem Tx:AU prog 176 6 6:=AU.of underlying176 rfl rfl H6<|by decide
theorem MQ:AU prog 176 7 7:=AU.of underlying176 rfl rfl H6<|by decide
theorem F2:AU prog 193 0 0:=AU.of underlying193 rfl rfl QC<|by decide
theorem Oy:AU prog 193 1 1:=AU.of underlying193 rfl rfl MW<|by decide
theorem FQ:AU prog 193 2 2:=AU.of underlying193 rfl rfl CM<|by decide
theorem Le:AU prog 196 0 0:=AU.of underlying196 rfl rfl QC<|by decide
theorem Li:AU prog 196 1 1:=AU.of underlying196 rfl rfl CM<|by decide
theorem ke:AU prog 205 0 0:=AU.of underlying205 rfl rfl Rn<|by decide
theorem lP:AU prog 205 1 1:=AU.of underlying205 rfl rfl Rn<|by decide
theorem Dn:AU prog 211 0 0:=AU.of underlying211 rfl rfl CM<|by decide
theorem EU:AU prog 211 1 1:=AU.of underlying211 rfl rfl CM<|by decide
theorem HV:AU prog 211 2 2:=AU.of underlying211 rfl rfl CM<|by decide
theorem HZ:AU prog 211 3 3:=AU.of underlying211 rfl rfl CM<|by decide
theorem Da:AU prog 24 0 0:=AU.of underlying24 rfl rfl dH<|by decide
theorem KJ:AU prog 26 0 0:=AU.of underlying26 rfl rfl CM<|by decide
theorem Gi:AU prog 26 1 1:=AU.of underlying26 rfl rfl CM<|by decide
theorem Jb:AU prog 26 2 2:=AU.of underlying26 rfl rfl CM<|by decide
theorem GR:AU prog 43 0 0:=AU.of underlying43 rfl rfl CM<|by decide
theorem GD:AU prog 43 1 1:=AU.of underlying43 rfl rfl CM<|by decide
theorem Fq:AU prog 43 2 2:=AU.of underlying43 rfl rfl Uo<|by decide
theorem FO:AU prog 43 3 3:=AU.of underlying43 rfl rfl TN<|by decide
theorem Ea:AU prog 46 0 0:=AU.of underlying46 rfl rfl CM<|by decide
theorem Cc:AU prog 46 1 1:=AU.of underlying46 rfl rfl CM<|by decide
theorem R8:AU prog 46 2 2:=AU.of underlying46 rfl rfl Io<|by decide
theorem EW:AU prog 46 3 3:=AU.of underlying46 rfl rfl MW<|by decide
theorem F0:AU prog 46 4 4:=AU.of underlying46 rfl rfl Uw<|by decide
theorem Iw:AU prog 46 5 8:=AU.of underlying46 rfl rfl WK<|by decide
theorem De:AU prog 51 0 0:=AU.of underlying51 rfl rfl CM<|by decide
theorem D2:AU prog 51 1 1:=AU.of underlying51 rfl rfl CM<|by decide
theorem B9:AU prog 51 2 2:=AU.of underlying51 rfl rfl Io<|by decide
theorem B0:AU prog 58 0 0:=AU.of underlying58 rfl rfl H6<|by decide
theorem Hw:AU prog 58 1 1:=AU.of underlying58 rfl rfl H6<|by decide
theorem Ka:AU prog 69 0 0:=AU.of underlying69 rfl rfl Xe<|by decide
theorem XS:AU prog 69 1 1:=AU.of underlying69 rfl rfl Xc<|by decide
theorem Wf:AU prog 69 2 2:=AU.of underlying69 rfl rfl U6<|by decide
theorem S2:AU prog 74 0 0:=AU.of underlying74 rfl rfl Xz<|by decide
theorem TP:AU prog 74 1 1:=AU.of underlying74 rfl rfl Xz<|by decide
theorem Sk:AU prog 74 2 2:=AU.of underlying74 rfl rfl Uo<|by decide
theorem OG:AU prog 74 3 3:=AU.of underlying74 rfl rfl TN<|by decide
theorem KK:AU prog 74 4 4:=AU.of underlying74 rfl rfl TN<|by decide
theorem KN:AU prog 76 0 0:=AU.of underlying76 rfl rfl CM<|by decide
theorem QI:AU prog 76 1 1:=AU.of underlying76 rfl rfl CM<|by decide
theorem SY:AU prog 76 2 2:=AU.of underlying76 rfl rfl KH<|by decide
theorem Sn:AU prog 76 3 11:=AU.of underlying76 rfl rfl Io<|by decide
theorem Nb:AU prog 76 4 12:=AU.of underlying76 rfl rfl QC<|by decide
theorem Sz:AU prog 76 5 13:=AU.of underlying76 rfl rfl T0<|by decide
theorem SB:AU prog 76 6 18:=AU.of underlying76 rfl rfl WK<|by decide
theorem SR:Bg prog 149 9 1 16:=Bg.of underlying149 H6 rfl rfl<|by decide
theorem Co:Bg prog 22 46 9 152:=Bg.of underlying22 KH rfl rfl<|by decide
theorem Fu:Bg prog 30 76 19 360:=Bg.of underlying30 VV rfl rfl<|by decide
theorem Ab:Bg prog 36 51 3 40:=Bg.of underlying36 NP rfl rfl<|by decide
theorem AZ:Bg prog 39 58 2 32:=Bg.of underlying39 Pm rfl rfl<|by decide
theorem CT:Bg prog 40 140 5 64:=Bg.of underlying40 UB rfl rfl<|by decide
theorem CU:Bg prog 41 211 4 32:=Bg.of underlying41 S4 rfl rfl<|by decide
theorem E2:Bg prog 44 176 8 88:=Bg.of underlying44 UJ rfl rfl<|by decide
theorem Bl:Bg prog 63 3 1 8:=Bg.of underlying63 CM rfl rfl<|by decide
theorem I5:Bg prog 65 36 1 24:=Bg.of underlying65 MW rfl rfl<|by decide
theorem Mi:Bg prog 66 4 1 1:=Bg.of underlying66 Nj rfl rfl<|by decide
theorem X7:Bg prog 67 39 1 24:=Bg.of underlying67 Io rfl rfl<|by decide
theorem Bh:Bg prog 70 100 4 64:=Bg.of underlying70 N8 rfl rfl<|by decide
theorem EE:Bg prog 72 142 2 16:=Bg.of underlying72 Yo rfl rfl<|by decide
theorem uM:I7 prog 4 [.bool false]:=I7.of Nj rfl
theorem XV:I7 prog 51 [.int .i64 0,.int .i64 0,.sl []]:=I7.of NP rfl
theorem DY:BV prog 22:=BV.of underlying22 rfl dH
theorem AI:BV prog 3:=BV.of underlying3 rfl CM
theorem Br:BV prog 36:=BV.of underlying36 rfl MW
theorem A1:BV prog 39:=BV.of underlying39 rfl Io
theorem XZ:BV prog 4:=BV.of underlying4 rfl Nj
theorem Eb:BV prog 40:=BV.of underlying40 rfl Uo
theorem Ct:BV prog 41:=BV.of underlying41 rfl TN
theorem Fx:BV prog 44:=BV.of underlying44 rfl WK
theorem WH:BV prog 5:=BV.of underlying5 rfl Rn
theorem Ph:BV prog 63:=BV.of underlying63 rfl WU
theorem Lo:BV prog 65:=BV.of underlying65 rfl Xe
theorem gE:BV prog 66:=BV.of underlying66 rfl Xc
theorem dS:BV prog 67:=BV.of underlying67 rfl U6
theorem Dl:BV prog 70:=BV.of underlying70 rfl QC
theorem JQ:BV prog 72:=BV.of underlying72 rfl Xz
theorem A2:BV prog 9:=BV.of underlying9 rfl H6
theorem uh:PQ prog 158 5 4 1:=⟨underlying158,Cr Nj⟩
theorem mS:PQ prog 203 256 5 1:=⟨underlying203,Cr Rn⟩
theorem kn:PQ prog 206 16 205 2:=⟨underlying206,Cr R0⟩
theorem E3:∃i,prog.info? 100=some i∧i.size=4:=Cr N8
theorem H1:∃i,prog.info? 102=some i∧i.size=11:=Cr Su
theorem MK:∃i,prog.info? 140=some i∧i.size=5:=Cr UB
theorem jz:∃i,prog.info? 158=some i∧i.size=5:=Cr VF
theorem fN:∃i,prog.info? 176=some i∧i.size=8:=Cr UJ
theorem pM:∃i,prog.info? 205=some i∧i.size=2:=Cr R0
theorem fg:∃i,prog.info? 211=some i∧i.size=4:=Cr S4
theorem Hd:∃i,prog.info? 26=some i∧i.size=3:=Cr Rk
theorem Gl:∃i,prog.info? 3=some i∧i.size=1:=Cr CM
theorem T4:∃i,prog.info? 36=some i∧i.size=1:=Cr MW
theorem Fj:∃i,prog.info? 39=some i∧i.size=1:=Cr Io
theorem kE:∃i,prog.info? 4=some i∧i.size=1:=Cr Nj
theorem Vj:∃i,prog.info? 46=some i∧i.size=9:=Cr KH
theorem Cp:∃i,prog.info? 51=some i∧i.size=3:=Cr NP
theorem I6:∃i,prog.info? 58=some i∧i.size=2:=Cr Pm
theorem rt:∃i,prog.info? 63=some i∧i.size=1:=Cr WU
theorem uw:∃i,prog.info? 65=some i∧i.size=1:=Cr Xe
theorem mY:∃i,prog.info? 66=some i∧i.size=1:=Cr Xc
theorem mI:∃i,prog.info? 67=some i∧i.size=1:=Cr U6
theorem fY:∃i,prog.info? 69=some i∧i.size=3:=Cr UH
theorem Rj:∃i,prog.info? 70=some i∧i.size=1:=Cr QC
theorem mQ:∃i,prog.info? 74=some i∧i.size=5:=Cr T0
@[reducible] def qa(l:List AD):AV:=.r<|.sl<|l.map AD.row
@[reducible] def qb(l:List AC):AV:=.r<|.sl<|l.map AC.row
@[reducible] def qc(l:List An):AV:=.r<|.sl<|l.map An.row
@[reducible] def qd(l:List AH):AV:=.r<|.sl<|l.map AH.row
@[reducible] def qe(l:List Aq):AV:=.r<|.sl<|l.map Aq.row
@[reducible] def qf(l:List BB):AV:=.r<|.sl<|l.map BB.row
@[reducible] def qg(l:List Ae):AV:=.r<|.sl<|l.map Ae.row
@[reducible] def qh(l:List Cq):AV:=.r<|.sl<|l.map Cq.row
@[reducible] def qi(l:List A3):AV:=.r<|.sl<|l.map A3.row
set_option linter.defProp false
@[reducible] def sT(x:A3):List AV:=[.agg [rI<|x.Kind,rI<|x.Node,rI<|x.New.ID,rI<|x.New.Kind,qa x.New.Attrs,qb x.New.Flow,rI<|x.New.Grid.Rows,rI<|x.New.Grid.Cols,qe x.New.Grid.Cells,qc x.New.Grid.Merges,qf x.New.Draw,qa x.Attrs,qd x.Steps,qh x.Grid.Rows,qh x.Grid.Cols,qe x.Grid.Cells,qc x.Grid.Split,qc x.Grid.Merge,qf x.Draw]]
@[reducible] def Ds(x:A3):List AV:=[rI<|x.Kind,rI<|x.Node,rI<|x.New.ID,rI<|x.New.Kind,qa x.New.Attrs,qb x.New.Flow,rI<|x.New.Grid.Rows,rI<|x.New.Grid.Cols,qe x.New.Grid.Cells,qc x.New.Grid.Merges,qf x.New.Draw,qa x.Attrs,qd x.Steps,qh x.Grid.Rows,qh x.Grid.Cols,qe x.Grid.Cells,qc x.Grid.Split,qc x.Grid.Merge,qf x.Draw]
@[reducible] def A6(x:B2):List AV:=[rI<|x.node.ID,rI<|x.node.Kind,qa x.node.Attrs,qb x.node.Flow,rI<|x.node.Grid.Rows,rI<|x.node.Grid.Cols,qe x.node.Grid.Cells,qc x.node.Grid.Merges,qf x.node.Draw,.r<|.sl<|x.shown.map<|Ad .i64,.r<|.str x.author]
@[reducible] def FV:List AV:=[rI<|0,rI<|0,.cst<|.slice none 0 0,.cst<|.slice none 0 0,rI<|0,rI<|0,.cst<|.slice none 0 0,.cst<|.slice none 0 0,.cst<|.slice none 0 0,.cst<|.slice none 0 0,.r<|.str []]
@[reducible] def LD:List AV:=[rI<|0,rI<|0,.cst<|.slice none 0 0,.cst<|.slice none 0 0,rI<|0,rI<|0,.cst<|.slice none 0 0,.cst<|.slice none 0 0,.cst<|.slice none 0 0]
@[reducible] def Mm(x:Ae):List AV:=[.agg [rI<|x.ID,rI<|x.Kind,qa x.Attrs,qb x.Flow,rI<|x.Grid.Rows,rI<|x.Grid.Cols,qe x.Grid.Cells,qc x.Grid.Merges,qf x.Draw]]
@[reducible] def lT(x:BB):List AV:=[.agg [rI<|x.Clock,rI<|x.Site,rI<|x.Kind,rI<|x.Item,rI<|x.Parent,.r<|.str x.Place,.r<|.str x.Name,.r<|.str x.Value]]
@[reducible] def BR(x:Ae):List AV:=[rI<|x.ID,rI<|x.Kind,qa x.Attrs,qb x.Flow,rI<|x.Grid.Rows,rI<|x.Grid.Cols,qe x.Grid.Cells,qc x.Grid.Merges,qf x.Draw]
@[reducible] def CN(x:BB):List AV:=[rI<|x.Clock,rI<|x.Site,rI<|x.Kind,rI<|x.Item,rI<|x.Parent,.r<|.str x.Place,.r<|.str x.Name,.r<|.str x.Value]
@[reducible] def Gp(x:BT):List AV:=[.r<|.sl<|x.Adds.map<|Dq AC.row,.r<|.sl<|x.Cuts.map EH,.r<|.sl<|x.Attrs.map<|Dq AD.row]
@[reducible] def VS(x:AD):List AV:=[.agg [.r<|.str x.Name,.r<|.str x.Value],.agg [.r<|.str [],.r<|.str []]]
@[reducible] def Wr(x:AD):List AV:=[.agg [.r<|.str [],.r<|.str []],.agg [.r<|.str x.Name,.r<|.str x.Value]]
@[reducible] def hM(x:Aq):List AV:=[.agg [rI<|x.Row,rI<|x.Col,.r<|.str x.Text,rI<|x.Ref,qa x.Attrs]]
@[reducible] def IZ:List AV:=[.cst<|.slice none 0 0,.cst<|.slice none 0 0,.cst<|.slice none 0 0]
@[reducible] def Bs(x:Aq):List AV:=[rI<|x.Row,rI<|x.Col,.r<|.str x.Text,rI<|x.Ref,qa x.Attrs]
@[reducible] def Do:List AV:=[rI<|0,rI<|0,.cst<|.slice none 0 0,.cst<|.slice none 0 0]
@[reducible] def Up:List AV:=[rI<|0,rI<|1,.cst<|.slice none 0 0,.cst<|.slice none 0 0]
@[reducible] def NI:List AV:=[rI<|0,rI<|0,.r<|.str [],rI<|0,.cst<|.slice none 0 0]
@[reducible] def YQ:List AV:=[rB<|false,rB<|false,rB<|false,rB<|false,rB<|false]
@[reducible] def X5(x:BI):List AV:=[.agg [rI<|x.Rows,rI<|x.Cols,qe x.Cells,qc x.Merges]]
@[reducible] def DT(x:D4):List AV:=[qh x.Rows,qh x.Cols,qe x.Cells,qc x.Split,qc x.Merge]
@[reducible] def Me:List AV:=[.cst<|.slice none 0 0,.cst<|.slice none 0 0,rI<|0]
@[reducible] def Ox(x:AH):List AV:=[.agg [rI<|x.Kind,rI<|x.N,qa x.Attrs,qb x.Elems]]
@[reducible] def Cz(x:BI):List AV:=[rI<|x.Rows,rI<|x.Cols,qe x.Cells,qc x.Merges]
@[reducible] def BZ(x:AH):List AV:=[rI<|x.Kind,rI<|x.N,qa x.Attrs,qb x.Elems]
@[reducible] def BJ(x:An):List AV:=[rI<|x.Row,rI<|x.Col,rI<|x.H,rI<|x.W]
@[reducible] def gA(x:AC):List AV:=[.agg [rI<|x.Char,rI<|x.Ref,qa x.Attrs]]
@[reducible] def LK:List AV:=[rI<|10,rI<|0,.cst<|.slice none 0 0]
@[reducible] def EC:List AV:=[rI<|0,rI<|0,.cst<|.slice none 0 0]
@[reducible] def Tl:List AV:=[.r<|.str [99,117,116],.r<|.str []]
@[reducible] def A4(x:AD):List AV:=[.r<|.str x.Name,.r<|.str x.Value]
@[reducible] def Aa(x:AC):List AV:=[rI<|x.Char,rI<|x.Ref,qa x.Attrs]
@[reducible] def Aw(x:A9):List AV:=[rI<|x.Node,rI<|x.From,rI<|x.To]
@[reducible] def wN{T r:Int}{x:Exit}{s:St}{j:ResultVar}:=@CX Int prog T r x s j λr=>rI r
@[reducible] def wL{T r:Bool}{x:Exit}{s:St}{j:ResultVar}:=@CX Bool prog T r x s j λr=>rB r
@[reducible] def yI:=@gx prog
@[reducible] def yB:=@iB prog
@[reducible] def Za:=@trivial
@[reducible] def Zb:=@xc
@[reducible] def Zc:=@tI
@[reducible] def Zd:=@AW.skip
@[reducible] def Ze:=@ST
@[reducible] def Zf:=@AW.block
@[reducible] def Zg:=@Xh
@[reducible] def Zh:=@AL.nil
@[reducible] def Zi:=@vC
@[reducible] def Zj:=@AW.ret
@[reducible] def Zk:=@jM
@[reducible] def Zl:=@gF
@[reducible] def Zm:=@Ag.trans
@[reducible] def Zn:=@AW.exit
@[reducible] def Zo:=@vh
@[reducible] def Zp:=@ek
@[reducible] def Zq:=@sr
@[reducible] def Zr:=@fA
@[reducible] def Zs:=@X3
@[reducible] def Zt:=@AT.step
@[reducible] def Zu:=@dT
@[reducible] def Zv:=@qC
@[reducible] def Zw:=@xj
@[reducible] def Zx:=@TW.mk
@[reducible] def Zy:=@Yt
@[reducible] def Zz:=@wC
@[reducible] def ZA:=@jQ
@[reducible] def ZB:=@ZX
@[reducible] def ZC:=@Ag.cv
@[reducible] def ZD:=@fP
@[reducible] def ZE:=@np
@[reducible] def ZF:=@gG
@[reducible] def ZG:=@Ly
@[reducible] def ZH:=@R2.mk
@[reducible] def ZI:=@f8
@[reducible] def ZJ:=@eQ
@[reducible] def ZK:=@kc
@[reducible] def ZL:=@vi
@[reducible] def ZM:=@OK.mk
@[reducible] def ZN:=@gj
@[reducible] def ZO:=@gR
@[reducible] def ZP:=@rp
@[reducible] def ZQ:=@iF
@[reducible] def ZR:=@vt
@[reducible] def R:=@rfl
set_option maxHeartbeats 4000000 in
set_option maxRecDepth 100000 in
theorem jH{r}(h:bP=some r):AM prog 94 [] (rB r):=by
 unfold bP at h
 cases h
 exact AM.runX [] (λp hp=>by cases hp) [] [] 40 1000000 A8 func94 R R R<|by kernel_rfl
set_option maxHeartbeats 4000000 in
set_option maxRecDepth 100000 in
theorem ux{r}(h:fW=some r):AM prog 46 [] (rB r):=by
 unfold fW at h
 cases h
 exact AM.runX [(94,true)] (λp hp=>by simp only[wo,zV,zy] at hp;subst hp;exact jH rfl) [] [139,49] 40 1000000 A8 func46 rfl rfl rfl<|by kernel_rfl
set_option maxHeartbeats 4000000 in
set_option maxRecDepth 100000 in
theorem mu{r}(h:P7=some r):AM prog 8 [] (rB r):=by
 unfold P7 at h
 cases h
 exact AM.runX [(94,true),(46,true)] (λp hp=>by simp only[wo,zV,zy] at hp;rcases hp with rfl | rfl<;>first | exact jH rfl | exact ux rfl) [44,11,106,120,107,108,102,47,52] [139,49,66] 40 1000000 A8 func8 rfl rfl rfl<|by kernel_rfl
theorem dX{j r}(h:Mq j=some r):AM prog 164 [rS j] (rB r):=by
 unfold Mq at h
 refine mF func164 ntmps164 R λn0=>aU<|mA R<|aZ<|aT λC2=>aU<|mM R<|sQ R (ZI R iL iL)<|mM R<|vM R<|vQ R (ZO R underlying9<|iR R)<|vQ R (Zy R (iR R) iL)<|xO R<|mM R<|vM R<|Zc h λa0 l h1=>vQ R (ZP R underlying9 (iR R) iL<|AN l)<|vQ R (Bp R (iR R) iL)<|xO R<|mM R<|vM R<|Zc h1 λa1 q h2=>vQ R (ZP R underlying9 (iR R) iL<|AN q)<|vQ R (Zy R (iR R) iL)<|xO R<|aZ<|cI R h2 (λB=>?_) λB=>?_
 ·exact zB B R id
 refine Zd<|C2 _<|aS λK5 C5 C=>aT λC6=>aF [0] ?_
 refine aR<|mM R<|sQ R (ZO R underlying9 iL)<|mM R<|aZ<|C6 _<|Zf<|A5 B λo1 u E F=>?_
 have J1:∀(X:Unit) (Y:NN),o1=.nrm X→K5 ⟨[],[],(Y 0),53⟩:=by
  intro X Y e
  have h4:=E _ e
  exact C5 _<|zB h4 R id
 refine Zz (λ(I:Int) A=>⟨[(0,rS j),(23,rL j),(24,rI I)],[],(A 0),53⟩) (AG [n0]) u wk ?_
 intro I A v1 J w
 have Z:NO j I=some v1:=J;unfold NO at Z
 refine aU<|xS R<|aZ<|aT λC9=>cI R Z (λM=>?_) λM=>?_
 ·refine Zd<|C9 _<|aT λO=>Zf<|aU<|mM R<|mA R<|aZ<|aU<|mM R<|mM R<|Zc M λc1 T h7=>sQ R (ZP R underlying9 iL iL λ_=>T)<|mA R<|aZ<|aU<|mM R<|xS R<|mM R<|vM R<|vQ R (Zy R (iR R) iL)<|xO R<|mM R<|vM R<|vQ R (Bp R (iR R) iL)<|vQ R (Ze R<|iR R)<|wQ R (Ze R iL)<|wQ R (Zy R (iR R) iL)<|vQ R (B1 R (iR R)<|iR R)<|xN R<|mM R<|vM R<|vQ R (CP R (iR R) iL)<|xN R<|mM R<|vM R<|vQ R (CP R (iR R) iL)<|xN R<|aZ<|cI R h7 (λU=>?_) λU=>?_
  ·exact zB (F _<|xH w U) R id
  refine Zd<|O _<|aF [0,23,24] ?_
  exact aR<|Zc U λx4 V h9=>xA R V<|mM R<|Zh<|Zx h9 (AG [(A 0)]) wk
 exact Zn<|C _ _ wk<|J1 _ (AG [(A 0)])<|xH w M
theorem Wm{l r}(h:Iq l=some r):AM prog 98 [rS l] (rB r):=by
 unfold Iq at h
 refine mF func98 ntmps98 R λY=>aU<|mA R<|aZ<|aT λZ=>aU<|mM R<|sQ R (ZI R iL iL)<|mM R<|vM R<|vQ R (ZO R underlying9<|iR R)<|vQ R (Zy R (iR R) iL)<|xO R<|aZ<|cI R h (λA=>?_) λA=>?_
 ·exact zB A R id
 refine Zd<|Z _<|aS λK5 c5 B=>aU<|mM R<|sQ R (ZO R underlying9 iL)<|mM R<|aZ<|Zf<|A5 A λo1 q C E=>?_
 have J1:∀(U:Unit) (V:NN),o1=.nrm U→K5 ⟨[],[],(V 0),27⟩:=by
  intro U V e
  have h2:=C _ e
  exact c5 _<|zB h2 R id
 refine Zz (λ(F:Int) w=>⟨[(0,rS l),(12,rL l),(13,rI F)],[],(w 0),27⟩) (AG [Y]) q wk ?_
 intro F w v1 I u
 have X:RP l F=some v1:=I;unfold RP at X
 refine aU<|xS R<|aZ<|aT λc9=>cI R X (λJ=>?_) λJ=>?_
 ·refine Zd<|c9 _<|aT λM=>Zf<|aU<|mM R<|mA R<|aZ<|aU<|mM R<|mM R<|Zc J λa0 j h5=>sQ R (ZP R underlying9 iL iL λ_=>j)<|xS R<|mM R<|vM R<|vM R<|vQ R (ZP R underlying9 (iR R) (iR R) λ_=>j)<|vQ R (Zy R (iR R) iL)<|xO R<|aZ<|cI R h5 (λO=>?_) λO=>?_
  ·exact zB (E _<|xH u O) R id
  refine Zd<|M _<|aF [0,12,13] ?_
  exact aR<|Zc O λx4 T h7=>xA R T<|mM R<|Zh<|Zx h7 (AG [(w 0)]) wk
 exact Zn<|B _ _ wk<|J1 _ (AG [(w 0)])<|xH u J
theorem jB{u b r}(h:MP u b=some r):AM prog 119 [qa u,rB b] (rI r):=by
 unfold MP at h
 refine mF func119 ntmps119 R λn0=>aU<|mA R<|aZ<|aS λK2 c2 C=>aU<|mM R<|xL AZ R<|mM R<|aZ<|Zf<|A5 h λo1 w E l=>?_
 have J1:∀(u2:Unit) (i5:NN),o1=.nrm u2→K2 ⟨[],[],(i5 0),48⟩:=by
  intro u2 i5 e
  have h1:=E _ e
  exact c2 _<|zI h1 R id
 refine Zz (λ(F:Int) A=>⟨[(0,qa u),(1,rB b),(7,qa u),(8,rL u),(9,rI F)],[],(A 0),48⟩) (AG [n0]) w wk ?_
 intro F A v1 I j
 have h2:Lx u b F=some v1:=I;unfold Lx at h2
 refine aU<|xS R<|aZ<|aT λc6=>cI R h2 (λJ=>?_) λJ=>?_
 ·refine Zd<|c6 _<|aT λc7=>Zf<|aU<|mM R<|Zc J λB M h4=>xI AZ R M<|xB ((A4 B)) By R<|sS R (Zq (cs:=[.r<|.str [],.r<|.str []]) 6 R Kf R R)<|mA R<|Zk R R (Zi (ds:=(A4 B)) R I6 iL R iL R R R R)<|aZ<|Zf<|aU<|lF B0 A2 R R<|Zc h4 λr1 O h5=>cL (dX<|O) R<|sQ R (Zu R iL)<|mA R<|aZ<|cI R h5 (λT=>?_) λT=>?_
  ·exact zI (l _<|xH j T) R id
  refine aT λU=>aG [0,1,5,6,7,8,9] [6] ?_
  refine aR<|lF Hw A2 R R<|Zc T λr2 V h7=>cL (Wm<|V) R<|sQ R (Zu R iL)<|mM R<|vM R<|vQ R (Ze R<|iR R)<|wQ R (fB R Hw iL fR R)<|wQ R (Zg (a:=rS B.Value) R A2 (iR R) R R)<|wQ R (ZI R (iR R) iL)<|vQ R (ZG R (iR R)<|iR R)<|vQ R (Zu R<|iR R)<|xN R<|mA R<|aZ<|U _<|cI R h7 (λX=>?_) λX=>?_
  ·exact zI (l _<|xH j X) R id
  refine aT λY=>?_
  refine ZA A8 (by kernel_rfl) ?_
  refine qP R (Ze R iL)<|qP R (Zy R iL iL)<|qP R (Ze R iL)<|qO R (fB R B0 iL fR R)<|qO R (Zg (a:=rS B.Name) R A2 (iR R) R R)<|qO R (Ze R iL)<|qO R (Ze R iL)<|Zc X λx5 Z h9=>qO R (Bu R (iR R) iL<|AN Z)<|Zc h9 λx6 a0 a1=>qO R (Zr R AZ.slice (iR R) (iR R) (λ_=>R)<|AN a0)<|qO R (Zl R B0<|iR R)<|qO R (ZB (d:=.str x6.Name) R A2 (iR R) R)<|qO R (ey R (iR R)<|iR R)<|qP R (ZG R iL<|iR R)<|qP R (DQ R iL)<|AQ.nil<|Y _<|cI R a1 (λq=>?_) λq=>?_
  ·exact zI (l _<|xH j q) R id
  refine Zd<|c7 _<|aF [0,1,7,8,9] ?_
  exact aR<|Zc q λx7 a2 a6=>xA R a2<|mM R<|Zh<|Zx a6 (AG [((A 0)+1)]) wk
 exact Zn<|C _ _ wk<|J1 _ (AG [(A 0)])<|xH j J
theorem PR{l r}(h:Hx l=some r):AM prog 85 [qa l] (rI r):=by
 unfold Hx at h
 exact mF func85 ntmps85 R λu=>aU<|mA R<|aZ<|aU<|mM R<|Zc h λw j q=>cL (jB<|j) R<|mA R<|aZ<|Zj<|yI q R
theorem YA{k r}(h:G7 k=some r):AM prog 96 [rI k] (rB r):=by
 unfold G7 at h
 exact mF func96 ntmps96 R λj=>aU<|mA R<|aZ<|aU<|mM R<|xQ R<|mM R<|vM R<|vQ R (Zs R (iR R) iL)<|xO R<|mM R<|vM R<|vQ R (Zs R (iR R) iL)<|xO R<|mM R<|vM R<|vQ R (Zs R (iR R) iL)<|xO R<|mA R<|aZ<|Zj<|yB h R
theorem sb{k r}(h:MS k=some r):AM prog 167 [rI k] (rB r):=by
 unfold MS at h
 exact mF func167 ntmps167 R λj=>aU<|mA R<|aZ<|aU<|mM R<|xQ R<|mM R<|vM R<|vQ R (Zs R (iR R) iL)<|xO R<|mA R<|aZ<|Zj<|yB h R
theorem tx{k r}(h:Ln k=some r):AM prog 135 [rI k] (rB r):=by
 unfold Ln at h
 exact mF func135 ntmps135 R λj=>aU<|mA R<|aZ<|aU<|mM R<|xQ R<|mM R<|vM R<|vQ R (Zs R (iR R) iL)<|xO R<|mA R<|aZ<|Zj<|yB h R
theorem pv{s a r}(h:Pp s a=some r):AM prog 192 [qc s,qc a] (rB r):=by
 unfold Pp at h
 refine mF func192 ntmps192 R λZ=>aU<|mA R<|aZ<|aT λc2=>aU<|mM R<|xL CU R<|mM R<|xL CU R<|xU R<|aZ<|cI R h (λu=>?_) λu=>?_
 ·exact zB u R id
 refine Zd<|c2 _<|aS λK5 c5 w=>aU<|mM R<|xL CU R<|mM R<|aZ<|Zf<|A5 u λo1 j A B=>?_
 have J1:∀(V:Unit) (X:NN),o1=.nrm V→K5 ⟨[],[],(X 0),26⟩:=by
  intro V X e
  have h2:=A _ e
  exact c5 _<|zB h2 R id
 refine Zz (λ(C:Int) q=>⟨[(0,qc s),(1,qc a),(12,rL s),(13,rI C)],[],(q 0),26⟩) (AG [Z]) j wk ?_
 intro C q v1 E l
 have Y:N5 s a C=some v1:=E;unfold N5 at Y
 refine aU<|xS R<|aZ<|aT λc9=>cI R Y (λF=>?_) λF=>?_
 ·refine Zd<|c9 _<|aT λI=>Zf<|aU<|mM R<|mA R<|aZ<|aT λJ=>?_
  refine ZA A8 (by kernel_rfl) ?_
  refine qP R (Ze R iL)<|qP R (Ze R iL)<|Zc F λx4 M h5=>qP R (Zr R CU.slice iL iL (λ_=>R) λ_=>M)<|qP R (ZN (cs:=(BJ x4)) R Ee iL R R)<|qP R (Ze R iL)<|qP R (Ze R iL)<|Zc h5 λx5 O h6=>qP R (Zr R CU.slice iL iL (λ_=>R) λ_=>O)<|qP R (ZN (cs:=(BJ x5)) R Ee iL R R)<|qP R (Jo R cB iL iL R)<|AQ.nil<|J _<|cI R h6 (λT=>?_) λT=>?_
  ·exact zB (B _<|xH l T) R id
  refine Zd<|I _<|aF [0,1,12,13] ?_
  exact aR<|Zc T λx6 U h8=>xA R U<|mM R<|Zh<|Zx h8 (AG [(q 0)]) wk
 exact Zn<|w _ _ wk<|J1 _ (AG [(q 0)])<|xH l F
theorem UZ{j u r}(h:Gb j u=some r):AM prog 185 [qa j,qa u] (rB r):=by
 unfold Gb at h
 refine mF func185 ntmps185 R λn0=>aU<|mA R<|aZ<|aT λc2=>aU<|mM R<|xL AZ R<|mM R<|xL AZ R<|xU R<|aZ<|cI R h (λA=>?_) λA=>?_
 ·exact zB A R id
 refine Zd<|c2 _<|aS λK5 c5 B=>aU<|mM R<|xL AZ R<|mM R<|aZ<|Zf<|A5 A λo1 l C E=>?_
 have J1:∀(Y:Unit) (Z:NN),o1=.nrm Y→K5 ⟨[],[],(Z 0),26⟩:=by
  intro Y Z e
  have h2:=C _ e
  exact c5 _<|zB h2 R id
 refine Zz (λ(F:Int) w=>⟨[(0,qa j),(1,qa u),(12,rL j),(13,rI F)],[],(w 0),26⟩) (AG [n0]) l wk ?_
 intro F w v1 I q
 have h3:RM j u F=some v1:=I;unfold RM at h3
 refine aU<|xS R<|aZ<|aT λc9=>cI R h3 (λJ=>?_) λJ=>?_
 ·refine Zd<|c9 _<|aT λM=>Zf<|aU<|mM R<|mA R<|aZ<|aT λO=>?_
  refine ZA A8 (by kernel_rfl) ?_
  refine qP R (Ze R iL)<|qP R (Ze R iL)<|Zc J λx4 T h5=>qP R (Zr R AZ.slice iL iL (λ_=>R) λ_=>T)<|qP R (ZN (cs:=(A4 x4)) R By iL R R)<|qP R (Ze R iL)<|qP R (Ze R iL)<|Zc h5 λx5 U h6=>qP R (Zr R AZ.slice iL iL (λ_=>R) λ_=>U)<|qP R (ZN (cs:=(A4 x5)) R By iL R R)<|qP R (Jo R Yg iL iL R)<|AQ.nil<|O _<|cI R h6 (λV=>?_) λV=>?_
  ·exact zB (E _<|xH q V) R id
  refine Zd<|M _<|aF [0,1,12,13] ?_
  exact aR<|Zc V λx6 X h8=>xA R X<|mM R<|Zh<|Zx h8 (AG [(w 0)]) wk
 exact Zn<|B _ _ wk<|J1 _ (AG [(w 0)])<|xH q J
theorem ox{j l r}(h:QZ j l=some r):AM prog 194 [.agg<|Bs j,.agg<|Bs l] (rB r):=by
 unfold QZ at h
 exact mF func194 ntmps194 R λA=>aU<|sS R (Zv (cs:=(Bs j)) 2 R iL R R)<|sS R (Zv (cs:=(Bs l)) 3 R iL R R)<|mA R<|aZ<|aT λu=>aR<|lF Fl AI R R<|lF Fl AI R R<|xQ R<|mM R<|vF Gd AI R R<|vF Gd AI R R<|vQ R (Zs R (iR R)<|iR R)<|xN R<|mM R<|vF HN A2 R R<|vF HN A2 R R<|vQ R (ZI R (iR R)<|iR R)<|xN R<|mM R<|vF E8 AI R R<|vF E8 AI R R<|vQ R (Zs R (iR R)<|iR R)<|xN R<|mM R<|vF HY A1 R R<|vF HY A1 R R<|Zc h λB q w=>vL (λhg=>UZ<|AN q hg) R<|xN R<|mA R<|aZ<|u _<|Zj<|yB w R
theorem vY{s a r}(h:Qd s a=some r):AM prog 193 [qe s,qe a,.fn 194 []] (rB r):=by
 unfold Qd at h
 refine mF func193 ntmps193 R λn0=>aU<|mA R<|aZ<|aT λc2=>aU<|mM R<|xL CT R<|mM R<|xL CT R<|xU R<|aZ<|cI R h (λu=>?_) λu=>?_
 ·exact zB u R id
 refine Zd<|c2 _<|aS λK5 c5 w=>aU<|mM R<|xL CT R<|mM R<|aZ<|Zf<|A5 u λo1 j A B=>?_
 have J1:∀(X:Unit) (Y:NN),o1=.nrm X→K5 ⟨[],[],(Y 0),32⟩:=by
  intro X Y e
  have h2:=A _ e
  exact c5 _<|zB h2 R id
 refine Zz (λ(C:Int) q=>⟨[(1,qe a),(2,.fn 194 []),(15,qe s),(16,rL s),(17,rI C)],[],(q 0),32⟩) (AG [n0]) j wk ?_
 intro C q v1 E l
 have Z:Pz s a C=some v1:=E;unfold Pz at Z
 refine aU<|xS R<|aZ<|aT λc9=>cI R Z (λF=>?_) λF=>?_
 ·refine Zd<|c9 _<|aT λI=>Zf<|aU<|mM R<|Zc F λx4 J h5=>xI CT R J<|xB ((Bs x4)) FP R<|sS R (Zq (cs:=NI) 8 R NC R R)<|mA R<|Zk R R (Zi (ds:=(Bs x4)) R MK iL R iL R R R R)<|aZ<|aU<|mM R<|mM R<|Zc h5 λx5 M h6=>xI CT R M<|xB ((Bs x5)) FP R<|sS R (Zq (cs:=NI) 9 R NC R R)<|Zk R R (Zi (ds:=(Bs x5)) R MK iL R iL R R R R)<|aZ<|aT λO=>aG [1,2,8,9,15,16,17] [8,9] ?_
  refine aR<|mM R<|xC FP R<|xC FP R<|Zc h6 λr1 T h7=>cL (ox<|T) R<|sQ R (Zu R iL)<|aZ<|O _<|cI R h7 (λU=>?_) λU=>?_
  ·exact zB (B _<|xH l U) R id
  exact Zd<|I _<|aR<|Zc U λx6 V h9=>xA R V<|mM R<|Zh<|Zx h9 (AG [((q 0)+2)]) wk
 exact Zn<|w _ _ wk<|J1 _ (AG [(q 0)])<|xH l F
theorem nQ{j l r}(h:LE j l=some r):AM prog 168 [.agg<|Cz j,.agg<|Cz l] (rB r):=by
 unfold LE at h
 exact mF func168 ntmps168 R λC=>aU<|sS R (Zv (cs:=(Cz j)) 2 R iL R R)<|sS R (Zv (cs:=(Cz l)) 3 R iL R R)<|mA R<|aZ<|aU<|lF GR AI R R<|lF GR AI R R<|xQ R<|mM R<|vF GD AI R R<|vF GD AI R R<|vQ R (Zs R (iR R)<|iR R)<|xN R<|mM R<|vF FO Ct R R<|vF FO Ct R R<|Zc h λE q w=>vL (λhg=>pv<|AN q hg) R<|xN R<|mM R<|vF Fq Eb R R<|vF Fq Eb R R<|Zc w λA u B=>AL.stepW (.one R R R) R R (Du (r:=rB A) (caps:=[]) (bs:=[qe j.Cells,qe l.Cells,.fn 194 []]) R iL R ⟨⟨_,(iR R),.d R⟩,⟨_,(iR R),.d R⟩,⟨_,iL,.one<|.closed (.fn 194 []) R⟩,Za⟩ (λhg=>vY<|AN u hg) R)<|xN R<|mA R<|aZ<|Zj<|yB B R
theorem V6{k r}(h:JN k=some r):AM prog 169 [rI k] (rB r):=by
 unfold JN at h
 exact mF func169 ntmps169 R λj=>aU<|mA R<|aZ<|aU<|mM R<|xQ R<|mM R<|vM R<|vQ R (Zs R (iR R) iL)<|xO R<|mM R<|vM R<|vQ R (Zs R (iR R) iL)<|xO R<|mA R<|aZ<|Zj<|yB h R
theorem Rb{j r}(h:Jh j=some r):AM prog 99 [rI j] (rB r):=by
 unfold Jh at h
 exact mF func99 ntmps99 R λl=>aU<|mA R<|aZ<|aU<|mM R<|xQ R<|mM R<|vM R<|vQ R (Zs R (iR R) iL)<|xO R<|mM R<|vM R<|vQ R (Ca R (iR R) iL)<|vQ R (Ze R<|iR R)<|wQ R (Ze R iL)<|wQ R (Bp R (iR R) iL)<|vQ R (ZG R (iR R)<|iR R)<|xO R<|mM R<|vM R<|vQ R (Ca R (iR R) iL)<|vQ R (Ze R<|iR R)<|wQ R (Ze R iL)<|wQ R (Bp R (iR R) iL)<|vQ R (ZG R (iR R)<|iR R)<|xO R<|mM R<|vM R<|vQ R (Zy R (iR R) iL)<|vQ R (Ze R<|iR R)<|wQ R (Ze R iL)<|wQ R (Ez R (iR R) iL)<|vQ R (ZG R (iR R)<|iR R)<|xO R<|mA R<|aZ<|Zj<|yB h R
theorem eO{l r}(h:L6 l=some r):AM prog 117 (gA l) (rI r):=by
 unfold L6 at h
 refine mF func117 ntmps117 R λw=>aU<|sS R (Zv (cs:=(Aa l)) 1 R iL R R)<|mA R<|aZ<|aT λT=>Zf<|aU<|lF De AI R R<|xU R<|lF D2 AI R R<|xU R<|sQ R (eR R underlying4 iL iL)<|mA R<|aZ<|cI R h (λA=>?_) λA=>?_
 ·exact zI A R id
 refine aS λU V q=>aT λX=>aG [1] [1] ?_
 refine aR<|lF D2 AI R R<|xQ R<|mM R<|vF De AI R R<|Zc A λr1 B Y=>vL (λhg=>Rb<|AN B hg) R<|vQ R (Zu R<|iR R)<|xN R<|mA R<|aZ<|X _<|Ar Y λZ u C=>?_
 have M:∀(E:Bool) (O:NN),Z=E→U ⟨[(1,.ptr 1 w 0 0),(11,rB E)],[(1,some<|.box w 51<|Aa l)],(O 0),37⟩:=by
  intro E O e
  have h3:=C _ e
  refine V _<|cI R h3 (λF=>?_) λF=>?_
  ·exact zI F R id
  exact Zd<|T _<|aU<|lF B9 A1 R R<|Zc F λr2 I h5=>cL (PR<|I) R<|mA R<|aZ<|Zj<|yI h5 R
 refine aC R (λj=>?_) λj=>?_
 ·have J:=Ba j u
  exact Zd<|q _ _ wk<|M _ (AG [(w+1)]) (Zb J).symm
 ·have J:=Be j u
  refine aG [1] [1] ?_
  exact aR<|lF D2 AI R R<|xU R<|mM R<|vF D2 AI R R<|vQ R (Bp R (iR R) iL)<|vQ R (Ze R<|iR R)<|wQ R (fB R D2 iL fR R)<|wQ R (Zg (a:=rI l.Ref) R AI (iR R) R R)<|wQ R (Zy R (iR R) iL)<|vQ R (B1 R (iR R)<|iR R)<|xN R<|mA R<|Zh<|q _ _ wk<|M _ (AG [(w+1)]) (Zb J).symm
theorem jV{f1 a r}(h:Hb f1 a=some r):AM prog 170 [qb f1,rB a] (rI r):=by
 unfold Hb at h
 refine mF func170 ntmps170 R λn0=>aU<|mA R<|aZ<|aS λK2 c2 A=>aU<|mM R<|xL Ab R<|mM R<|aZ<|Zf<|A5 h λo1 q B u=>?_
 have J1:∀(u2:Unit) (i5:NN),o1=.nrm u2→K2 ⟨[(0,qb f1),(1,rB a)],[],(i5 0),43⟩:=by
  intro u2 i5 e
  have h1:=B _ e
  refine c2 _<|aT λc4=>aU<|mM R<|mM R<|vM R<|vQ R (Bd R Ab.slice<|iR R)<|vQ R (Zs R (iR R) iL)<|vQ R (Ze R<|iR R)<|wQ R (Ze R iL)<|wQ R (Ze R iL)<|wQ R (Bd R Ab.slice<|iR R)<|Zc h1 λx4 C h2=>wQ R (Bu R (iR R) iL<|AN C)<|Zc h2 λx5 E h3=>wQ R (Zr R Ab.slice (iR R) (iR R) (λ_=>R)<|AN E)<|wQ R (Zl R De<|iR R)<|wQ R (ZB (d:=.int .i64 x5.Char) R AI (iR R) R)<|wQ R (CP R (iR R) iL)<|vQ R (B1 R (iR R)<|iR R)<|xN R<|aZ<|cI R h3 (λF=>?_) λF=>?_
  ·exact zI F R id
  exact Zd<|c4 _<|zI F R id
 refine Zz (λ(I:Int) w=>⟨[(0,qb f1),(1,rB a),(8,qb f1),(9,rL f1),(10,rI I)],[],(w 0),43⟩) (AG [n0]) q wk ?_
 intro I w v1 J j
 have h5:LH f1 a I=some v1:=J;unfold LH at h5
 refine aU<|xS R<|aZ<|aT λc9=>cI R h5 (λM=>?_) λM=>?_
 ·refine Zd<|c9 _<|aT λO=>Zf<|aU<|Zc M λx6 T h7=>xI Ab R T<|xB ((Aa x6)) CK R<|sS R (Zq (cs:=EC) 6 R ED R R)<|Zk R R (Zi (ds:=(Aa x6)) R Cp iL R iL R R R R)<|aZ<|aT λU=>aU<|xC CK R<|Zc h7 λe1 V h8=>cL (eO<|V) R<|mA R<|aZ<|aU<|mM R<|xU R<|aZ<|cI R h8 (λX=>?_) λX=>?_
  ·refine aT λY=>aF [7] ?_
   exact aR<|mM R<|mA R<|aZ<|Y _<|Zj<|yI (u _<|xH j X) R
  refine Zd<|U _<|aU<|mM R<|sQ R (Zu R iL)<|mM R<|vF D2 AI R R<|vQ R (Zs R (iR R) iL)<|xN R<|aZ<|cI R X (λl=>?_) λl=>?_
  ·exact zI (u _<|xH j l) R id
  refine Zd<|O _<|aF [0,1,8,9,10] ?_
  exact aR<|Zc l λx7 Z a0=>xA R Z<|mM R<|Zh<|Zx a0 (AG [((w 0)+1)]) wk
 exact Zn<|A _ _ wk<|J1 _ (AG [(w 0)])<|xH j M
theorem mW{s1 r}(h:J0 s1=some r):AM prog 109 [rS s1] (.tup [.r<|.int .i32 r.1,rI r.2]):=by
 unfold J0 at h
 refine mF func109 ntmps109 R λn0=>aU<|mA R<|mA R<|aZ<|aU<|mM R<|sQ R (ZO R underlying9 iL)<|mA R<|aZ<|aT λc3=>aU<|mM R<|xS R<|aZ<|cI R h (λE=>?_) λE=>?_
 ·exact aU<|mA R<|mA R<|aZ<|Zj<|CB (P:=prog) (λ(r:Int × Int)=>.r<|.int .i32 r.1) (λ(r:Int × Int)=>rI r.2) E iL (.t<|.d R)<|.t<|.d R
 refine Zd<|c3 _<|aU<|mM R<|Zc E λaf j h2=>sQ R (ZP R underlying9 iL iL λ_=>j)<|mA R<|aZ<|aT λc7=>aR<|mM R<|Zc h2 λx1 F h3=>?_
 refine sQ R (ZT (f:=(Ad .u8)) (l:=FH) R mS rf (by kernel_rfl) iL (λ_=>R) (by decide) λ_=>F) ?_
 refine xV (.int .u8 x1) WH R<|mA R<|aZ<|c7 _<|aT λc8=>aT λc9=>aF [0,4,5,6] ?_
 refine aR<|mM R<|sQ R (Ca R iL iL)<|aZ<|c9 _<|cI R h3 (λI=>?_) λI=>?_
 ·refine aU<|mM R<|sQ R (ZF R underlying5 underlying21 iL)<|sQ R (JA (b:=31) R iL iL)<|sQ R (Ri (b:=31) R iL iL)<|mA R<|aZ<|aT λJ=>aF [0,7] ?_
  exact aR<|mM R<|sQ R (ZP R underlying9 iL iL λ_=>j)<|sQ R (ZF R underlying5 underlying21 iL)<|mM R<|sQ R (ZS R iL iL)<|mM R<|sQ R (GU R iL iL)<|sQ R (JO R iL iL)<|mA R<|mA R<|aZ<|J _<|Zj<|CB (P:=prog) (λ(r:Int × Int)=>.r<|.int .i32 r.1) (λ(r:Int × Int)=>rI r.2) I iL (.t<|.d R)<|.t<|.d R
 refine Zd<|c8 _<|aU<|mM R<|sQ R (GU R iL iL)<|sQ R (ZF R underlying5 underlying3 iL)<|mA R<|aZ<|aT λM=>aR<|mM R<|sQ R (Ri (b:=4) R iL iL)<|Zc I λC O h5=>?_
 refine sQ R (ZT (f:=H2.row) (l:=O1) R kn tb (by kernel_rfl) iL (λ_=>R) (by decide) λ_=>O) ?_
 refine xB ([.r<|.int .u8 C.lo,.r<|.int .u8 C.hi]) lr R<|sS R (Zq (cs:=[.r<|.int .u8 0,.r<|.int .u8 0]) 9 R lG R R)<|Zk R R (Zi (ds:=[.r<|.int .u8 C.lo,.r<|.int .u8 C.hi]) R pM iL R iL R R R R)<|aZ<|M _<|aT λT=>aT λU=>aG [0,4,5,8,9] [9] ?_
 refine aR<|mM R<|mM R<|xS R<|aZ<|U _<|cI R h5 (λV=>?_) λV=>?_
 ·exact aU<|mA R<|mA R<|aZ<|Zj<|CB (P:=prog) (λ(r:Int × Int)=>.r<|.int .i32 r.1) (λ(r:Int × Int)=>rI r.2) V iL (.t<|.d R)<|.t<|.d R
 refine Zd<|T _<|aU<|mM R<|Zc V λag w h7=>sQ R (ZP R underlying9 iL iL λ_=>w)<|mA R<|aZ<|aT λX=>aU<|mM R<|lF ke WH R R<|xS R<|mM R<|vF lP WH R R<|vM R<|vQ R (Bp R (iR R)<|iR R)<|xO R<|aZ<|cI R h7 (λY=>?_) λY=>?_
 ·refine aT λZ=>aF [] ?_
  exact aR<|mA R<|mA R<|aZ<|Z _<|Zj<|CB (P:=prog) (λ(r:Int × Int)=>.r<|.int .i32 r.1) (λ(r:Int × Int)=>rI r.2) Y iL (.t<|.d R)<|.t<|.d R
 refine Zd<|X _<|aT λa0=>aT λa1=>aF [0,5,8,10] ?_
 refine aR<|mM R<|sQ R (Ez R iL iL)<|aZ<|a1 _<|cI R Y (λh9=>?_) λh9=>?_
 ·exact aU<|mM R<|sQ R (GU R iL iL)<|sQ R (ZF R underlying5 underlying21 iL)<|sQ R (JA (b:=6) R iL iL)<|mM R<|sQ R (GU R iL iL)<|sQ R (ZF R underlying5 underlying21 iL)<|sQ R (JO R iL iL)<|mA R<|mA R<|aZ<|Zj<|CB (P:=prog) (λ(r:Int × Int)=>.r<|.int .i32 r.1) (λ(r:Int × Int)=>rI r.2) h9 iL (.t<|.d R)<|.t<|.d R
 refine Zd<|a0 _<|aU<|mM R<|Zc h9 λah A a2=>sQ R (ZP R underlying9 iL iL λ_=>A)<|mA R<|aZ<|aT λa6=>aU<|mM R<|xS R<|mM R<|vM R<|vQ R (Bp R iL<|iR R)<|xO R<|aZ<|cI R a2 (λl=>?_) λl=>?_
 ·refine aT λa7=>aF [] ?_
  exact aR<|mA R<|mA R<|aZ<|a7 _<|Zj<|CB (P:=prog) (λ(r:Int × Int)=>.r<|.int .i32 r.1) (λ(r:Int × Int)=>rI r.2) l iL (.t<|.d R)<|.t<|.d R
 refine Zd<|a6 _<|aT λa8=>aT λaa=>aF [0,5,8,10,11] ?_
 refine aR<|mM R<|sQ R (Ez R iL iL)<|aZ<|aa _<|cI R l (λq=>?_) λq=>?_
 ·exact aU<|mM R<|sQ R (GU R iL iL)<|sQ R (ZF R underlying5 underlying21 iL)<|sQ R (JA (b:=12) R iL iL)<|mM R<|sQ R (GU R iL iL)<|sQ R (ZF R underlying5 underlying21 iL)<|sQ R (JA (b:=6) R iL iL)<|sQ R (JO R iL iL)<|mM R<|sQ R (GU R iL iL)<|sQ R (ZF R underlying5 underlying21 iL)<|sQ R (JO R iL iL)<|mA R<|mA R<|aZ<|Zj<|CB (P:=prog) (λ(r:Int × Int)=>.r<|.int .i32 r.1) (λ(r:Int × Int)=>rI r.2) q iL (.t<|.d R)<|.t<|.d R
 refine Zd<|a8 _<|aU<|mM R<|Zc q λai B ab=>sQ R (ZP R underlying9 iL iL λ_=>B)<|mA R<|aZ<|aT λac=>aU<|mM R<|xS R<|mM R<|vM R<|vQ R (Bp R iL<|iR R)<|xO R<|aZ<|cI R ab (λu=>?_) λu=>?_
 ·refine aT λad=>aF [] ?_
  exact aR<|mA R<|mA R<|aZ<|ad _<|Zj<|CB (P:=prog) (λ(r:Int × Int)=>.r<|.int .i32 r.1) (λ(r:Int × Int)=>rI r.2) u iL (.t<|.d R)<|.t<|.d R
 refine Zd<|ac _<|aT λae=>aF [5,10,11,12] ?_
 exact aR<|mM R<|sQ R (GU R iL iL)<|sQ R (ZF R underlying5 underlying21 iL)<|sQ R (JA (b:=18) R iL iL)<|mM R<|sQ R (GU R iL iL)<|sQ R (ZF R underlying5 underlying21 iL)<|sQ R (JA (b:=12) R iL iL)<|sQ R (JO R iL iL)<|mM R<|sQ R (GU R iL iL)<|sQ R (ZF R underlying5 underlying21 iL)<|sQ R (JA (b:=6) R iL iL)<|sQ R (JO R iL iL)<|mM R<|sQ R (GU R iL iL)<|sQ R (ZF R underlying5 underlying21 iL)<|sQ R (JO R iL iL)<|mA R<|mA R<|aZ<|ae _<|Zj<|CB (P:=prog) (λ(r:Int × Int)=>.r<|.int .i32 r.1) (λ(r:Int × Int)=>rI r.2) u iL (.t<|.d R)<|.t<|.d R
theorem RO{w r}(h:GZ w=some r):AM prog 54 [rS w] (.tup [.r<|.int .i32 r.1,rI r.2]):=by
 unfold GZ at h
 refine mF func54 ntmps54 R λM=>aU<|mA R<|mA R<|aZ<|aT λA=>aU<|mM R<|sQ R (DH R iL iL)<|mM R<|vM R<|Zc h λB j C=>vQ R (ZP R underlying9 (iR R) iL<|AN j)<|vQ R (Bp R (iR R) iL)<|xN R<|aZ<|cI R C (λq=>?_) λq=>?_
 ·refine aT λE=>aF [0] ?_
  exact aR<|mM R<|Zc q λF l I=>sQ R (ZP R underlying9 iL iL λ_=>l)<|sQ R (ZF R underlying5 underlying21 iL)<|mA R<|mA R<|aZ<|E _<|Zj<|CB (P:=prog) (λ(r:Int × Int)=>.r<|.int .i32 r.1) (λ(r:Int × Int)=>rI r.2) I iL (.t<|.d R)<|.t<|.d R
 refine aF [0] ?_
 exact aR<|mM R<|Ch q λO T u J=>cL (mW<|u) R<|mM R<|xX R<|xX R<|mA R<|mA R<|aZ<|A _<|Zj<|CB (P:=prog) (λ(r:Int × Int)=>.r<|.int .i32 r.1) (λ(r:Int × Int)=>rI r.2) J iL (.t<|.d R)<|.t<|.d R
theorem om{O r}(h:QW O=some r):AM prog 216 [rS O] (rB r):=by
 unfold QW at h
 refine mF func216 ntmps216 R λX=>aU<|mA R<|aZ<|aS λY Z u=>Zf<|A5 h λo1 j w A=>?_
 have J1:∀(T:Unit) (U:NN),o1=.nrm T→Y ⟨[],[],(U 0),31⟩:=by
  intro T U e
  have h1:=w _ e
  exact Z _<|zB h1 R id
 refine Zz (λ(B:List UInt8) q=>⟨[(0,rS B)],[],(q 0),31⟩) (AG [X]) j wk ?_
 intro B q v1 C l
 have V:Fa B=some v1:=C;unfold Fa at V
 refine aT λc4=>aU<|mM R<|sQ R (DH R iL iL)<|aZ<|cI R V (λE=>?_) λE=>?_
 ·refine Zd<|c4 _<|Zf<|aU<|mM R<|Ch E λr1 r2 F h4=>cL (RO<|F) R<|mM R<|xX R<|xX R<|mA R<|mA R<|aZ<|aT λc7=>aU<|mM R<|xQ R<|mM R<|vM R<|vQ R (Zs R (iR R) iL)<|xN R<|mM R<|vM R<|vQ R (Zs R (iR R) iL)<|xO R<|mM R<|vM R<|vQ R (ZF R underlying21 underlying3<|iR R)<|Zc h4 λr3 I h5=>vL (λhg=>Rb<|AN I hg) R<|vQ R (Zu R<|iR R)<|xO R<|aZ<|cI R h5 (λJ=>?_) λJ=>?_
  ·exact zB (A _<|xH l J) R id
  refine Zd<|c7 _<|aF [0,4] ?_
  refine aR<|mM R<|mM R<|Zc J λs5 M h7=>?_
  refine sQ R (IY R underlying9 iL (by exact⟨_,iL⟩) (by exact R) λ_=>M) ?_
  exact mA R<|Zh<|Zx h7 (AG [(q 0)]) wk
 exact Zn<|u _ _ wk<|J1 _ (AG [(q 0)])<|xH l E
theorem pX{j r}(h:QG j=some r):AM prog 217 (hM j) (rB r):=by
 unfold QG at h
 exact mF func217 ntmps217 R λl=>aU<|sS R (Zv (cs:=(Bs j)) 1 R iL R R)<|mA R<|aZ<|aU<|lF HN A2 R R<|sQ R (ZI R iL iL)<|mM R<|vF E8 AI R R<|vQ R (Zs R (iR R) iL)<|xN R<|mM R<|vF HY A1 R R<|vQ R (Bd R AZ.slice<|iR R)<|vQ R (Zs R (iR R) iL)<|xN R<|mA R<|aZ<|Zj<|yB h R
theorem aL{j r}(h:RJ j=some r):AM prog 243 [rI j] (rB r):=by
 unfold RJ at h
 exact mF func243 ntmps243 R λl=>aU<|mA R<|aZ<|aU<|mM R<|mM R<|xU R<|mA R<|aZ<|Zj<|yB h R
theorem Tz{O T r}(h:Ix O T=some r):AM prog 222 [rI O,rI T] (rI r):=by
 unfold Ix at h
 refine mF func222 ntmps222 R λn0=>aU<|mA R<|aZ<|aU<|mM R<|Zc h λq j U=>cL (aL<|j) R<|mA R<|aZ<|aU<|mM R<|Zc U λu l V=>cL (aL<|l) R<|mA R<|aZ<|aT λX=>aU<|mM R<|aZ<|cI R V (λw=>?_) λw=>?_
 ·refine aT λY=>aT λZ=>aF [6] ?_
  refine aR<|mM R<|aZ<|Z _<|cI R w (λA=>?_) λA=>?_
  ·exact zI A R id
  exact Zd<|Y _<|zI A R id
 refine Zd<|X _<|aT λB=>aU<|mM R<|aZ<|cI R w (λC=>?_) λC=>?_
 ·exact zI C R id
 refine Zd<|B _<|aT λE=>aT λF=>aF [0,1] ?_
 refine aR<|mM R<|mM R<|xS R<|aZ<|F _<|cI R C (λI=>?_) λI=>?_
 ·exact zI I R id
 refine Zd<|E _<|aT λJ=>aU<|mM R<|mM R<|sQ R (Zy R iL iL)<|aZ<|cI R I (λM=>?_) λM=>?_
 ·exact zI M R id
 exact Zd<|J _<|zI M R id
theorem ZZ{v r}(h:NK v=some r):AM prog 221 [.r<|.sl<|v.map<|Ad .i64] (rI r):=by
 unfold NK at h
 refine mF func221 ntmps221 R λV=>aU<|mA R<|aZ<|aU<|mA R<|aZ<|aS λX Y u=>aU<|mM R<|xL Bl R<|mM R<|aZ<|Zf<|A5 h λZ j w A=>?_
 have J1:∀(O:Unit) (T:NN),Z=.nrm O→X ⟨[(3,rI 0)],[],(T 0),18⟩:=by
  intro O T e
  have h1:=w _ e
  exact Y _<|aU<|mM R<|mA R<|aZ<|Zj<|yI h1 R
 refine Zz (λ(B:Int) q=>⟨[(3,rI 0),(6,.r<|.sl<|v.map<|Ad .i64),(7,rL v),(8,rI B)],[],(q 0),18⟩) (AG [V]) j wk ?_
 intro B q v1 C l
 have U:EN v B=some v1:=C;unfold EN at U
 refine aU<|xS R<|aZ<|aT λc7=>cI R U (λE=>?_) λE=>?_
 ·refine Zd<|c7 _<|aT λc8=>Zf<|aU<|Zc E λx4 F h4=>xI Bl R F<|xV (.int .i64 x4) AI R<|mA R<|aZ<|aU<|mM R<|mM R<|xU R<|aZ<|cI R h4 (λI=>?_) λI=>?_
  ·refine aT λJ=>aF [5] ?_
   exact aR<|mM R<|mA R<|aZ<|J _<|Zj<|yI (A _<|xH l I) R
  exact Zd<|c8 _<|aR<|Zc I λx5 M h6=>xA R M<|mM R<|Zh<|Zx h6 (AG [(q 0)]) wk
 exact Zn<|u _ _ wk<|J1 _ (AG [(q 0)])<|xH l E
theorem lN{l q r}(h:M5 l q=some r):AM prog 218 [.agg<|Bs l,.agg<|Bs q] (rI r):=by
 unfold M5 at h
 refine mF func218 ntmps218 R λj=>aU<|sS R (Zv (cs:=(Bs l)) 2 R iL R R)<|sS R (Zv (cs:=(Bs q)) 3 R iL R R)<|mA R<|aZ<|aT λC=>Zc h λu w E=>?_
 refine rP 9 [pO 5<|.ptr 2 j 0 0,pO 6<|rI l.Row,pO 7<|.ptr 3 (j+1) 0 0,pO 8<|rI q.Row,pO 9<|rI u,pO 10<|.ptr 2 j 0 1,pO 11<|rI l.Col,pO 12<|.ptr 3 (j+1) 0 1,pO 13<|rI q.Col] A8 R (by exact⟨oB [(2,.ptr 2 j 0 0)] [(2,some<|.box j 140<|Bs l)]<|fB R Fl (.inl R) (λ_=>R) R,oB [(5,.ptr 2 j 0 0)] [(2,some<|.box j 140<|Bs l)]<|Zg (a:=rI l.Row) R AI (.inl R) R R,oB [(3,.ptr 3 (j+1) 0 0)] [(3,some<|.box (j+1) 140<|Bs q)]<|fB R Fl (.inl R) (λ_=>R) R,oB [(7,.ptr 3 (j+1) 0 0)] [(3,some<|.box (j+1) 140<|Bs q)]<|Zg (a:=rI q.Row) R AI (.inl R) R R,oD (λ_=>[(6,rI l.Row),(8,rI q.Row)]) (λ_=>[]) λF e O n=>Du (r:=rI u) (caps:=[]) (bs:=[rI l.Row,rI q.Row]) R (.inl R) R ⟨⟨_,(.inl R),.d R⟩,⟨_,(.inl R),.d R⟩,Za⟩ (λ_=>Tz<|w) R,oB [(2,.ptr 2 j 0 0)] [(2,some<|.box j 140<|Bs l)]<|fB R Gd (.inl R) (λ_=>R) R,oB [(10,.ptr 2 j 0 1)] [(2,some<|.box j 140<|Bs l)]<|Zg (a:=rI l.Col) R AI (.inl R) R R,oB [(3,.ptr 3 (j+1) 0 0)] [(3,some<|.box (j+1) 140<|Bs q)]<|fB R Gd (.inl R) (λ_=>R) R,oB [(12,.ptr 3 (j+1) 0 1)] [(3,some<|.box (j+1) 140<|Bs q)]<|Zg (a:=rI q.Col) R AI (.inl R) R R,Za⟩) λF T=>?_
 refine Ay [0,1,2,3,4,5,6,7,8,9,10,11,12,13] [2,3] ?_
 exact Zc E λI A J=>cL (Tz<|A) R<|sS R (ZK 15 R Bl (f:=(Ad .i64)) (l:=([u,I]:List Int)) ⟨R,⟨_,iL,R⟩,R,⟨_,iL,R⟩,Za⟩ R (λ_=>R) R)<|Zc J λU B M=>cL (ZZ<|B) R<|mA R<|aZ<|C _<|Zj<|yI M R
theorem ld{C a c n r}(h:Od C a c n=some r):AM prog 195 [qe C,rI a,rI c,rB n] (rI r):=by
 unfold Od at h
 refine mF func195 ntmps195 R λn0=>aU<|mA R<|aZ<|aS λK2 c2 I=>aU<|mM R<|xL CT R<|mM R<|aZ<|Zf<|A5 h λo1 E J l=>?_
 have J1:∀(u2:Unit) (i5:NN),o1=.nrm u2→K2 ⟨[],[],(i5 0),79⟩:=by
  intro u2 i5 e
  have h1:=J _ e
  exact c2 _<|zI h1 R id
 refine Zz (λ(M:Int) F=>⟨[(0,qe C),(1,rI a),(2,rI c),(3,rB n),(12,qe C),(13,rL C),(14,rI M)],[],(F 0),79⟩) (AG [n0]) E wk ?_
 intro M F v1 O j
 have h2:P2 C a c n M=some v1:=O;unfold P2 at h2
 refine aU<|xS R<|aZ<|aT λc6=>cI R h2 (λT=>?_) λT=>?_
 ·refine Zd<|c6 _<|aT λc7=>Zf<|aU<|mM R<|Zc T λq U h4=>xI CT R U<|xB ((Bs q)) FP R<|sS R (Zq (cs:=NI) 10 R NC R R)<|mA R<|Zk R R (Zi (ds:=(Bs q)) R MK iL R iL R R R R)<|aZ<|aT λc9=>Zf<|aU<|lF Fl AI R R<|xS R<|mM R<|vF Fl AI R R<|vM R<|vQ R (Ca R (iR R)<|iR R)<|xO R<|mM R<|vF Gd AI R R<|vQ R (Bp R (iR R) iL)<|xO R<|mM R<|vF Gd AI R R<|vM R<|vQ R (Ca R (iR R)<|iR R)<|xO R<|mA R<|aZ<|cI R h4 (λV=>?_) λV=>?_
  ·exact zI (l _<|xH j V) R id
  refine aT λX=>aG [0,1,2,3,9,10,12,13,14] [10] ?_
  refine aR<|lF E8 AI R R<|xS R<|mM R<|vF E8 AI R R<|vQ R (Zy R (iR R) iL)<|xO R<|mA R<|aZ<|X _<|cI R V (λY=>?_) λY=>?_
  ·exact zI (l _<|xH j Y) R id
  refine aU<|lF HN A2 R R<|Zc Y λr1 Z h7=>cL (om<|Z) R<|sQ R (Zu R iL)<|mA R<|aZ<|cI R h7 (λh8=>?_) λh8=>?_
  ·exact zI (l _<|xH j h8) R id
  refine Zd<|c9 _<|aT λa0=>aT λa1=>aG [0,1,2,3,9,10,12,13,14] [10] ?_
  refine aR<|lF HY A1 R R<|Zc h8 λe1 a2 h9=>cL (PR<|a2) R<|mA R<|aZ<|a1 _<|aU<|mM R<|xU R<|aZ<|cI R h9 (λu=>?_) λu=>?_
  ·refine aT λa6=>aF [11] ?_
   exact aR<|mM R<|mA R<|aZ<|a6 _<|Zj<|yI (l _<|xH j u) R
  refine Zd<|a0 _<|aT λa7=>aU<|xC FP R<|Zc u λr2 a8 aa=>cL (pX<|a8) R<|mM R<|vM R<|vQ R (Zu R<|iR R)<|xN R<|aZ<|cI R aa (λw=>?_) λw=>?_
  ·exact zI (l _<|xH j w) R id
  refine Zd<|a7 _<|aT λab=>aG [0,1,2,3,9,10,12,13,14] [10] ?_
  refine ZA A8 (by kernel_rfl) ?_
  refine qP R (Ze R iL)<|qP R (Zy R iL iL)<|qP R (Ze R iL)<|qO R (Ze R iL)<|qO R (Ze R iL)<|Zc w λx5 ac ad=>qO R (Bu R (iR R) iL<|AN ac)<|Zc ad λA ae af=>qO R (Zr R CT.slice (iR R) (iR R) (λ_=>R)<|AN ae)<|qO R (ZN (cs:=(Bs A)) R FP (iR R) R R)<|qO R (ZQ R FP iL R R)<|Zc af λr3 ag ah=>G0 (.one R R R) R R (r:=rI r3) (caps:=[]) (bs:=[.agg<|Bs A,.agg<|Bs q]) R iL R ⟨⟨_,(iR R),.g (cs:=[.int .i64 A.Row,.int .i64 A.Col,.str A.Text,.int .i64 A.Ref,.sl<|A.Attrs.map AD.row]) R R⟩,⟨_,(iR R),.g (cs:=[.int .i64 q.Row,.int .i64 q.Col,.str q.Text,.int .i64 q.Ref,.sl<|q.Attrs.map AD.row]) R R⟩,Za⟩ (λhg=>lN<|AN ag hg) R<|qO R (Ca R (iR R) iL)<|qP R (ZG R iL<|iR R)<|AQ.nil<|ab _<|cI R ah (λB=>?_) λB=>?_
  ·exact zI (l _<|xH j B) R id
  exact Zd<|c7 _<|aR<|Zc B λx7 ai aj=>xA R ai<|mM R<|Zh<|Zx aj (AG [((F 0)+1)]) wk
 exact Zn<|I _ _ wk<|J1 _ (AG [(F 0)])<|xH j T
theorem uW{j a c r}(h:N3 j a c=some r):AM prog 196 [.agg<|BJ j,rI a,rI c] (rB r):=by
 unfold N3 at h
 refine mF func196 ntmps196 R λA=>aU<|sS R (Zv (cs:=(BJ j)) 3 R iL R R)<|mA R<|aZ<|aU<|lF Dn AI R R<|sQ R (Ca R iL iL)<|mM R<|vF EU AI R R<|vQ R (Ca R (iR R) iL)<|xN R<|mM R<|vF HV AI R R<|vQ R (Ca R (iR R) iL)<|xN R<|mM R<|vF HZ AI R R<|vQ R (Ca R (iR R) iL)<|xN R<|mM R<|vF Dn AI R R<|vM R<|vQ R (Bp R (iR R)<|iR R)<|xN R<|mM R<|vF EU AI R R<|vM R<|vQ R (Bp R (iR R)<|iR R)<|xN R<|mM R<|vF HV AI R R<|vM R<|vF Dn AI R R<|Zc h λB l u=>vQ R (Bu R (iR R) (iR R)<|AN l)<|vQ R (Ez R (iR R)<|iR R)<|xN R<|mM R<|vF HZ AI R R<|vM R<|vF EU AI R R<|Zc u λC q w=>vQ R (Bu R (iR R) (iR R)<|AN q)<|vQ R (Ez R (iR R)<|iR R)<|xN R<|mA R<|aZ ?_
 exact Zj<|yB w R
theorem pV{j l r}(h:Pr j l=some r):AM prog 197 [.agg<|BJ j,.agg<|BJ l] (rB r):=by
 unfold Pr at h
 exact mF func197 ntmps197 R λq=>aU<|sS R (Zv (cs:=(BJ j)) 2 R iL R R)<|sS R (Zv (cs:=(BJ l)) 3 R iL R R)<|mA R<|aZ<|aU<|lF Dn AI R R<|lF Dn AI R R<|xS R<|mM R<|vF Dn AI R R<|vF Dn AI R R<|vQ R (Zs R (iR R)<|iR R)<|vQ R (Ze R<|iR R)<|wQ R (fB R EU iL fR R)<|wQ R (Zg (a:=rI j.Col) R AI (iR R) R R)<|wQ R (fB R EU iL fR R)<|wQ R (Zg (a:=rI l.Col) R AI (iR R) R R)<|wQ R (Bp R (iR R)<|iR R)<|vQ R (ZG R (iR R)<|iR R)<|xO R<|mA R<|aZ<|Zj<|yB h R
theorem kz{j l r}(h:PD j l=some r):AM prog 200 [.agg<|BJ j,.agg<|BJ l] (rB r):=by
 unfold PD at h
 exact mF func200 ntmps200 R λI=>aU<|sS R (Zv (cs:=(BJ j)) 2 R iL R R)<|sS R (Zv (cs:=(BJ l)) 3 R iL R R)<|mA R<|aZ<|aU<|lF Dn AI R R<|lF Dn AI R R<|lF HV AI R R<|Zc h λJ q B=>xA R q<|xS R<|mM R<|vF Dn AI R R<|vF Dn AI R R<|vF HV AI R R<|Zc B λM u C=>vQ R (Ga R (iR R) (iR R)<|AN u)<|vQ R (Bp R (iR R)<|iR R)<|xN R<|mM R<|vF EU AI R R<|vF EU AI R R<|vF HZ AI R R<|Zc C λO w E=>vQ R (Ga R (iR R) (iR R)<|AN w)<|vQ R (Bp R (iR R)<|iR R)<|xN R<|mM R<|vF EU AI R R<|vF EU AI R R<|vF HZ AI R R<|Zc E λT A F=>vQ R (Ga R (iR R) (iR R)<|AN A)<|vQ R (Bp R (iR R)<|iR R)<|xN R<|mA R<|aZ<|Zj<|yB F R
theorem tQ{l:An}{q:An}{r:Bool}{j:Nat}(h:SG l q=some r):BL prog 199 1 [.agg<|BJ q,.ptr 1000 j 0 0] [(1000,some<|.box j 211<|BJ l)] (λu h'=>∃(i:Nat→Nat),u=rB r∧h'=[(1000,some<|.box j 211<|BJ l)]):=by
 unfold SG at h
 refine DU func199 R R ntmps199 (Zw R) λB=>aU<|sS R (Zv (cs:=(BJ q)) 2 R iL R R)<|mA R<|aZ<|aU<|xC Ee R<|xC Ee R<|Zc h λA w C=>cL (kz<|w) R<|mA R<|aZ ?_
 exact Zj<|ZM (s':=⟨[(3,rB A)],[(1000,some<|.box j 211<|BJ l)],(B+1),7⟩) wk<|ZE (λ(r:Bool) u h'=>∃(i:Nat→Nat),u=rB r∧h'=[(1000,some<|.box j 211<|BJ l)]) C<|by exact⟨rB A,[(1000,some<|.box j 211<|BJ l)],R,⟨.inr R,Za⟩,R,R,AG [],R,R⟩
theorem kX{l:An}{q:List An}{r:Int}{j:Nat}(h:TF l q=some r):BL prog 219 1 [qc q,.fn 199 [.ptr 1000 j 0 0]] [(1000,some<|.box j 211<|BJ l)] (λu h'=>∃(i:Nat→Nat),u=rI r∧h'=[(1000,some<|.box j 211<|BJ l)]):=by
 unfold TF at h
 refine DU func219 R R ntmps219 (Zw R) λn0=>aU<|mA R<|aZ<|aS λK2 c2 C=>aU<|mM R<|xL CU R<|mM R<|aZ<|Zf<|A5 h λo1 w E F=>?_
 have J1:∀(Z:Unit) (I:NN),o1=.nrm Z→K2 ⟨[],[(1000,some<|.box j 211<|BJ l)],(I 0),19⟩:=by
  intro Z I e
  have h1:=E _ e
  refine c2 _<|aU<|mA R<|aZ ?_
  exact Zj<|ZM (s':=⟨[(4,rI<|(-1))],[(1000,some<|.box j 211<|BJ l)],(I 0),19⟩) wk<|ZE (λ(r:Int) u h'=>∃(i:Nat→Nat),u=rI r∧h'=[(1000,some<|.box j 211<|BJ l)]) h1<|by exact⟨rI<|(-1),[(1000,some<|.box j 211<|BJ l)],R,⟨.inr R,Za⟩,R,R,AG [],R,R⟩
 refine Zz (λ(A:Int) J=>⟨[(0,qc q),(1,.fn 199 [.ptr 1000 j 0 0]),(7,rL q),(8,rI A)],[(1000,some<|.box j 211<|BJ l)],(J 0),19⟩) (AG [n0]) w wk ?_
 intro A J v1 M B
 have h2:Q7 l q A=some v1:=M;unfold Q7 at h2
 refine aU<|xS R<|aZ<|aT λc6=>cI R h2 (λO=>?_) λO=>?_
 ·refine Zd<|c6 _<|aT λc7=>Zf<|aU<|mM R<|mA R<|aZ<|aT λc9=>aR<|mM R<|mM R<|mM R<|Zc O λx4 T h4=>xI CU R T<|xB ((BJ x4)) Ee R<|Zc h4 λr1 U h5=>?_
  refine Zo [1000] (hc:=[(1000,some<|.box j 211<|BJ l)]) (bs:=[.agg<|BJ x4]) (caps:=[.ptr 1000 j 0 0]) R R R R iL R ⟨.inl ⟨iL,R⟩,Za⟩ ⟨R,R,R,Za⟩ (by decide) (tQ U) ?_
  intro i6 n1
  refine Ay [0,1,5,7,8,9,10,11,12,13,14,15,16] [1000] ?_
  refine aZ<|c9 _<|cI R h5 (λV=>?_) λV=>?_
  ·refine aT λX=>aG [5] [1000] ?_
   refine aR<|mM R<|mA R<|oZ X ?_
   exact Zj<|ZM (s':=⟨[(4,rI A)],[(1000,some<|.box j 211<|BJ l)],n1,19⟩) wk<|ZE (λ(r:Int) u h'=>∃(i:Nat→Nat),u=rI r∧h'=[(1000,some<|.box j 211<|BJ l)]) (F _<|xH B V)<|by exact⟨rI A,[(1000,some<|.box j 211<|BJ l)],R,⟨.inr R,Za⟩,R,R,AG [],R,R⟩
  refine Zd<|c7 _<|aG [0,1,7,8] [1000] ?_
  exact aR<|Zc V λx5 Y h7=>xA R Y<|mM R<|Zh<|Zx h7 (AG [n1]) wk
 exact Zn<|C _ _ wk<|J1 _ (AG [(J 0)])<|xH B O
theorem kj{l:An}{q:List An}{r:Bool}{j:Nat}(h:Mn l q=some r):BL prog 198 1 [qc q,.fn 199 [.ptr 1000 j 0 0]] [(1000,some<|.box j 211<|BJ l)] (λu h'=>∃(i:Nat→Nat),u=rB r∧h'=[(1000,some<|.box j 211<|BJ l)]):=by
 unfold Mn at h
 refine DU func198 R R ntmps198 (Zw R) λF=>aU<|mA R<|aZ<|aT λB=>aR<|mM R<|mM R<|Zc h λA w C=>?_
 refine Zo [1000] (hc:=[(1000,some<|.box j 211<|BJ l)]) (bs:=[qc q,.fn 199 [.ptr 1000 j 0 0]]) (caps:=[]) R R R R iL R ⟨.inl ⟨iL,R⟩,.inl ⟨iL,R⟩,Za⟩ ⟨R,R,R,Za⟩ (by decide) (kX w) ?_
 intro I E
 refine Ay [0,1,4,5,6,7] [1000] ?_
 refine sQ R (Ca R iL iL)<|mA R<|oZ B ?_
 exact Zj<|ZM (s':=⟨[(4,rB<|(decide<|0≤A))],[(1000,some<|.box j 211<|BJ l)],E,9⟩) wk<|ZE (λ(r:Bool) u h'=>∃(i:Nat→Nat),u=rB r∧h'=[(1000,some<|.box j 211<|BJ l)]) C<|by exact⟨rB<|(decide<|0≤A),[(1000,some<|.box j 211<|BJ l)],R,⟨.inr R,Za⟩,R,R,AG [],R,R⟩
theorem na{q r}(h:Oo q=some r):AM prog 171 (X5 q) (rI r):=by
 unfold Oo at h
 refine mF func171 ntmps171 R λI=>aU<|sS R (Zv (cs:=(Cz q)) 1 R iL R R)<|mA R<|aZ<|aT λc2=>aU<|lF GR AI R R<|xS R<|mM R<|vF GR AI R R<|vQ R (Zy R (iR R) iL)<|xO R<|mM R<|vF GD AI R R<|vQ R (Bp R (iR R) iL)<|xO R<|mM R<|vF GD AI R R<|vQ R (Zy R (iR R) iL)<|xO R<|aZ<|cI R h (λJ=>?_) λJ=>?_
 ·exact zI J R id
 refine Zd<|c2 _<|aT λc5=>aT λc6=>aG [1] [1] ?_
 refine aR<|lF Fq Eb R R<|lF GR AI R R<|lF GD AI R R<|Zc J λe1 M h2=>cL (ld<|M) R<|mA R<|aZ<|c6 _<|aU<|mM R<|xU R<|aZ<|cI R h2 (λO=>?_) λO=>?_
 ·refine aT λc8=>aF [3] ?_
  exact aR<|mM R<|mA R<|aZ<|c8 _<|Zj<|yI O R
 refine Zd<|c5 _<|aS λK9 c9 T=>aT λU=>aG [1] [1] ?_
 refine aR<|lF FO Ct R R<|xL CU R<|mM R<|aZ<|U _<|Zf<|A5 O λo1 F V l=>?_
 have J1:∀(u2:Unit) (i5:NN),o1=.nrm u2→K9 ⟨[],[],(i5 0),81⟩:=by
  intro u2 i5 e
  have h4:=V _ e
  exact c9 _<|zI h4 R id
 refine Zz (λ(X:Int) C=>⟨[(1,.ptr 1 I 0 0),(35,qc q.Merges),(36,rL q.Merges),(37,rI X)],[(1,some<|.box I 43<|Cz q)],(C 0),81⟩) (AG [(I+1)]) F wk ?_
 intro X C v1 Y j
 have h5:OJ q X=some v1:=Y;unfold OJ at h5
 refine aU<|xS R<|aZ<|aT λZ=>cI R h5 (λh6=>?_) λh6=>?_
 ·refine Zd<|Z _<|aT λa0=>Zf<|aU<|mM R<|Zc h6 λu a1 h7=>xI CU R a1<|xB ((BJ u)) Ee R<|sS R (Zq (cs:=[rI 0,rI 0,rI 0,rI 0]) 5 R Ya R R)<|mA R<|Zk R R (Zi (ds:=(BJ u)) R fg iL R iL R R R R)<|aZ<|Zf<|aU<|xC Ee R<|lF GR AI R R<|lF GD AI R R<|Zc h7 λr1 a2 h8=>cL (uW<|a2) R<|sQ R (Zu R iL)<|mA R<|aZ<|cI R h8 (λh9=>?_) λh9=>?_
  ·exact zI (l _<|xH j h9) R id
  refine aT λa6=>aG [1,4,5,35,36,37] [1,5] ?_
  refine aR<|lF HV AI R R<|xQ R<|mM R<|vF HZ AI R R<|vQ R (Zs R (iR R) iL)<|xN R<|mA R<|aZ<|a6 _<|cI R h9 (λw=>?_) λw=>?_
  ·exact zI (l _<|xH j w) R id
  refine aT λa7=>?_
  refine ZA A8 (by kernel_rfl) ?_
  refine qP R (Ze R iL)<|qP R (Zy R iL iL)<|qP R (Ze R iL)<|qO R (fB R FO iL fR R)<|qO R (Zg (a:=qc q.Merges) R Ct (iR R) R R)<|qO R (Ze R iL)<|Zc w λx5 a8 aa=>qO R (Bu R (iR R) iL<|AN a8)<|Zc aa λE ab ac=>qO R (Zr R CU.slice (iR R) (iR R) (λ_=>R)<|AN ab)<|qO R (ZN (cs:=(BJ E)) R Ee (iR R) R R)<|qO R (ZQ R Ee iL R R)<|Zc ac λr2 ad ae=>G0 (.one R R R) R R (r:=rB r2) (caps:=[]) (bs:=[.agg<|BJ E,.agg<|BJ u]) R iL R ⟨⟨_,(iR R),.g (cs:=[.int .i64 E.Row,.int .i64 E.Col,.int .i64 E.H,.int .i64 E.W]) R R⟩,⟨_,(iR R),.g (cs:=[.int .i64 u.Row,.int .i64 u.Col,.int .i64 u.H,.int .i64 u.W]) R R⟩,Za⟩ (λhg=>pV<|AN ad hg) R<|qO R (Zu R<|iR R)<|qP R (ZG R iL<|iR R)<|qP R (DQ R iL)<|AQ.nil<|a7 _<|cI R ae (λA=>?_) λA=>?_
  ·exact zI (l _<|xH j A) R id
  refine aT λaf=>aG [1,4,5,35,36,37] [1,5] ?_
  refine aR<|lF FO Ct R R<|mM R<|Zc A λl1 ag ah=>?_
  refine sQ R (R7 R CU.slice iL (by exact R) (by exact⟨_,iL⟩) (λ_=>R) λ_=>ag) ?_
  refine sQ R (N9 (bs:=[.ptr 5 (C 0) 0 0]) R<|by exact⟨iL,Za⟩) ?_
  refine Zc ah λr3 ai aj=>?_
  refine Zo [5] (hc:=[(1000,some<|.box (C 0) 211<|BJ u)]) (bs:=[qc l1,.fn 199 [.ptr 1000 (C 0) 0 0]]) (caps:=[]) R R R R iL R ⟨.inl ⟨iL,R⟩,.inl ⟨iL,R⟩,Za⟩ ⟨R,R,R,Za⟩ (by decide) (kj ai) ?_
  intro i6 n1
  refine Ay [1,4,5,35,36,37,74,75,76,77,78,79] [1,5] ?_
  refine mA R<|aZ<|af _<|cI R aj (λB=>?_) λB=>?_
  ·exact zI (l _<|xH j B) R id
  refine Zd<|a0 _<|aG [1,35,36,37] [1] ?_
  exact aR<|Zc B λx7 ak al=>xA R ak<|mM R<|Zh<|Zx al (AG [n1]) wk
 exact Zn<|T _ _ wk<|J1 _ (AG [(C 0)])<|xH j h6
theorem rX{k j r}(h:RA k j=some r):AM prog 172 [rI k,qe j] (rI r):=by
 unfold RA at h
 refine mF func172 ntmps172 R λX=>aU<|mA R<|aZ<|aS λY Z A=>aU<|mM R<|xL CT R<|mM R<|aZ<|Zf<|A5 h λo1 l B C=>?_
 have J1:∀(T:Unit) (U:NN),o1=.nrm T→Y ⟨[],[],(U 0),36⟩:=by
  intro T U e
  have h1:=B _ e
  exact Z _<|zI h1 R id
 refine Zz (λ(E:Int) u=>⟨[(0,rI k),(7,qe j),(8,rL j),(9,rI E)],[],(u 0),36⟩) (AG [X]) l wk ?_
 intro E u v1 F q
 have V:RB k j E=some v1:=F;unfold RB at V
 refine aU<|xS R<|aZ<|aT λc6=>cI R V (λI=>?_) λI=>?_
 ·refine Zd<|c6 _<|aT λc7=>Zf<|aU<|Zc I λw J h4=>xI CT R J<|xB ((Bs w)) FP R<|sS R (Zq (cs:=NI) 6 R NC R R)<|Zk R R (Zi (ds:=(Bs w)) R MK iL R iL R R R R)<|aZ<|aU<|mM R<|xQ R<|mM R<|vF HN A2 R R<|vQ R (DH R (iR R) iL)<|vQ R (Ze R<|iR R)<|wQ R (fB R HY iL fR R)<|wQ R (Zg (a:=qa w.Attrs) R A1 (iR R) R R)<|wQ R (Bd R AZ.slice<|iR R)<|wQ R (Zy R (iR R) iL)<|vQ R (B1 R (iR R)<|iR R)<|xN R<|mM R<|vM R<|vQ R (Zs R (iR R) iL)<|vQ R (Ze R<|iR R)<|wQ R (fB R E8 iL fR R)<|wQ R (Zg (a:=rI w.Ref) R AI (iR R) R R)<|wQ R (CP R (iR R) iL)<|vQ R (ZG R (iR R)<|iR R)<|xO R<|aZ<|cI R h4 (λM=>?_) λM=>?_
  ·exact zI (C _<|xH q M) R id
  refine Zd<|c7 _<|aF [0,7,8,9] ?_
  exact aR<|Zc M λx5 O h6=>xA R O<|mM R<|Zh<|Zx h6 (AG [((u 0)+1)]) wk
 exact Zn<|A _ _ wk<|J1 _ (AG [(u 0)])<|xH q I
theorem oF{l r}(h:Qx l=some r):AM prog 220 [rS l] (rB r):=by
 unfold Qx at h
 refine mF func220 ntmps220 R λn0=>aU<|mA R<|aZ<|aT λc2=>aU<|mM R<|sQ R (ZI R iL iL)<|mM R<|vM R<|vQ R (ZO R underlying9<|iR R)<|vQ R (Zy R (iR R) iL)<|xO R<|mM R<|vM R<|vM R<|vQ R (ZO R underlying9<|iR R)<|Zc h λx1 B h1=>vQ R (Bu R (iR R) iL<|AN B)<|Zc h1 λa0 q h2=>vQ R (ZP R underlying9 (iR R) (iR R)<|AN q)<|vQ R (Zs R (iR R) iL)<|xO R<|aZ<|cI R h2 (λC=>?_) λC=>?_
 ·exact zB C R id
 refine Zd<|c2 _<|aS λK5 c5 E=>aT λc6=>aF [0] ?_
 refine aR<|mM R<|sQ R (ZO R underlying9 iL)<|mM R<|aZ<|c6 _<|Zf<|A5 C λo1 u F I=>?_
 have J1:∀(X:Unit) (Y:NN),o1=.nrm X→K5 ⟨[],[],(Y 0),35⟩:=by
  intro X Y e
  have h4:=F _ e
  exact c5 _<|zB h4 R id
 refine Zz (λ(J:Int) A=>⟨[(0,rS l),(20,rL l),(21,rI J)],[],(A 0),35⟩) (AG [n0]) u wk ?_
 intro J A v1 M w
 have Z:RW l J=some v1:=M;unfold RW at Z
 refine aU<|xS R<|aZ<|aT λc9=>cI R Z (λO=>?_) λO=>?_
 ·refine Zd<|c9 _<|aT λT=>Zf<|aU<|mM R<|mA R<|aZ<|aU<|mM R<|mM R<|Zc O λa1 j h7=>sQ R (ZP R underlying9 iL iL λ_=>j)<|xS R<|mM R<|vM R<|vM R<|vQ R (ZP R underlying9 (iR R) (iR R) λ_=>j)<|vQ R (Zy R (iR R) iL)<|xO R<|aZ<|cI R h7 (λU=>?_) λU=>?_
  ·exact zB (I _<|xH w U) R id
  refine Zd<|T _<|aF [0,20,21] ?_
  exact aR<|Zc U λx5 V h9=>xA R V<|mM R<|Zh<|Zx h9 (AG [(A 0)]) wk
 exact Zn<|E _ _ wk<|J1 _ (AG [(A 0)])<|xH w O
theorem pN{j r}(h:QP j=some r):AM prog 201 (lT j) (rI r):=by
 unfold QP at h
 refine mF func201 ntmps201 R λC=>aU<|sS R (Zv (cs:=(CN j)) 1 R iL R R)<|mA R<|aZ<|aT λc2=>Zf<|aU<|lF Gw AI R R<|xU R<|mM R<|vF Gw AI R R<|vQ R (CP R (iR R) iL)<|xN R<|mA R<|aZ<|cI R h (λM=>?_) λM=>?_
 ·exact zI M R id
 refine aT λc5=>aG [1] [1] ?_
 refine aR<|lF IJ AI R R<|xS R<|mM R<|vF IJ AI R R<|vQ R (Zy R (iR R) iL)<|xO R<|mM R<|vF Kr AI R R<|vQ R (Bp R (iR R) iL)<|xO R<|mM R<|vF Kr AI R R<|vQ R (Zy R (iR R) iL)<|xO R<|mM R<|vF Vu AI R R<|vQ R (Bp R (iR R) iL)<|xO R<|mM R<|vF Vu AI R R<|vQ R (Zy R (iR R) iL)<|xO R<|mA R<|aZ<|c5 _<|cI R M (λO=>?_) λO=>?_
 ·exact zI O R id
 refine aS λK7 c7 E=>aT λc8=>aG [1] [1] ?_
 refine aR<|lF Gw AI R R<|xQ R<|mM R<|vF Tx A2 R R<|vQ R (DH R (iR R) iL)<|vQ R (Ze R<|iR R)<|wQ R (fB R MQ iL fR R)<|wQ R (Zg (a:=rS j.Value) R A2 (iR R) R R)<|wQ R (DH R (iR R) iL)<|vQ R (B1 R (iR R)<|iR R)<|xN R<|mA R<|aZ<|c8 _<|Ar O λp1 F T=>?_
 have J1:∀(U:Bool) (J:NN),p1=U→K7 ⟨[(1,.ptr 1 C 0 0),(41,rB U)],[(1,some<|.box C 176<|CN j)],(J 0),116⟩:=by
  intro U J e
  have h3:=T _ e
  refine c7 _<|cI R h3 (λV=>?_) λV=>?_
  ·exact zI V R id
  refine aU<|lF Gw AI R R<|xQ R<|mM R<|vF Qb AI R R<|vQ R (Bp R (iR R) iL)<|vQ R (Ze R<|iR R)<|wQ R (fB R Qb iL fR R)<|wQ R (Zg (a:=rI j.Parent) R AI (iR R) R R)<|wQ R (Zy R (iR R) iL)<|vQ R (B1 R (iR R)<|iR R)<|xN R<|mA R<|aZ<|cI R V (λX=>?_) λX=>?_
  ·exact zI X R id
  refine aS λY Z l=>aT λa0=>aG [1] [1] ?_
  refine aR<|lF Gw AI R R<|xQ R<|mM R<|vF TQ A2 R R<|Zc X λr1 a1 h6=>vL (λhg=>oF<|AN a1 hg) R<|vQ R (Zu R<|iR R)<|xN R<|mA R<|aZ<|a0 _<|Ar h6 λp2 I a2=>?_
  have J2:∀(x2:Bool) (i2:NN),p2=x2→Y ⟨[(1,.ptr 1 C 0 0),(82,rB x2)],[(1,some<|.box C 176<|CN j)],(i2 0),116⟩:=by
   intro x2 i2 e
   have h7:=a2 _ e
   refine Z _<|cI R h7 (λh8=>?_) λh8=>?_
   ·exact zI h8 R id
   refine aU<|lF Gw AI R R<|xQ R<|mM R<|vF MQ A2 R R<|vQ R (DH R (iR R) iL)<|xN R<|mM R<|vF MQ A2 R R<|Zc h8 λr2 a6 h9=>vL (λhg=>Wm<|AN a6 hg) R<|vQ R (Zu R<|iR R)<|xN R<|mA R<|aZ<|cI R h9 (λq=>?_) λq=>?_
   ·exact zI q R id
   exact Zd<|c2 _<|zI q R id
  refine aC R (λu=>?_) λu=>?_
  ·have w:=Ba u I
   exact Zd<|l _ _ wk<|J2 _ (AG [(J 0)]) (Zb w).symm
  ·have w:=Be u I
   refine aG [1] [1] ?_
   exact aR<|lF Gw AI R R<|xQ R<|mM R<|vF Tx A2 R R<|Zc w λr3 a7 a8=>vL (λhg=>dX<|AN a7 hg) R<|vQ R (Zu R<|iR R)<|xN R<|mA R<|Zh<|l _ _ wk<|J2 _ (AG [(J 0)]) (Zb a8).symm
 refine aC R (λA=>?_) λA=>?_
 ·have B:=Ba A F
  exact Zd<|E _ _ wk<|J1 _ (AG [(C+1)]) (Zb B).symm
 ·have B:=Be A F
  refine aG [1] [1] ?_
  exact aR<|lF Gw AI R R<|xQ R<|mM R<|vF Qb AI R R<|vQ R (CP R (iR R) iL)<|vQ R (Ze R<|iR R)<|wQ R (fB R TQ iL fR R)<|wQ R (Zg (a:=rS j.Place) R A2 (iR R) R R)<|wQ R (DH R (iR R) iL)<|vQ R (B1 R (iR R)<|iR R)<|xN R<|mA R<|Zh<|E _ _ wk<|J1 _ (AG [(C+1)]) (Zb B).symm
theorem kt{l q r}(h:OV l q=some r):AM prog 202 [.agg<|CN l,.agg<|CN q] (rI r):=by
 unfold OV at h
 refine mF func202 ntmps202 R λj=>aU<|sS R (Zv (cs:=(CN l)) 2 R iL R R)<|sS R (Zv (cs:=(CN q)) 3 R iL R R)<|mA R<|aZ<|aT λC=>Zc h λu w E=>?_
 refine rP 9 [pO 5<|.ptr 2 j 0 0,pO 6<|rI l.Clock,pO 7<|.ptr 3 (j+1) 0 0,pO 8<|rI q.Clock,pO 9<|rI u,pO 10<|.ptr 2 j 0 1,pO 11<|rI l.Site,pO 12<|.ptr 3 (j+1) 0 1,pO 13<|rI q.Site] A8 R (by exact⟨oB [(2,.ptr 2 j 0 0)] [(2,some<|.box j 176<|CN l)]<|fB R IJ (.inl R) (λ_=>R) R,oB [(5,.ptr 2 j 0 0)] [(2,some<|.box j 176<|CN l)]<|Zg (a:=rI l.Clock) R AI (.inl R) R R,oB [(3,.ptr 3 (j+1) 0 0)] [(3,some<|.box (j+1) 176<|CN q)]<|fB R IJ (.inl R) (λ_=>R) R,oB [(7,.ptr 3 (j+1) 0 0)] [(3,some<|.box (j+1) 176<|CN q)]<|Zg (a:=rI q.Clock) R AI (.inl R) R R,oD (λ_=>[(6,rI l.Clock),(8,rI q.Clock)]) (λ_=>[]) λF e O n=>Du (r:=rI u) (caps:=[]) (bs:=[rI l.Clock,rI q.Clock]) R (.inl R) R ⟨⟨_,(.inl R),.d R⟩,⟨_,(.inl R),.d R⟩,Za⟩ (λ_=>Tz<|w) R,oB [(2,.ptr 2 j 0 0)] [(2,some<|.box j 176<|CN l)]<|fB R Kr (.inl R) (λ_=>R) R,oB [(10,.ptr 2 j 0 1)] [(2,some<|.box j 176<|CN l)]<|Zg (a:=rI l.Site) R AI (.inl R) R R,oB [(3,.ptr 3 (j+1) 0 0)] [(3,some<|.box (j+1) 176<|CN q)]<|fB R Kr (.inl R) (λ_=>R) R,oB [(12,.ptr 3 (j+1) 0 1)] [(3,some<|.box (j+1) 176<|CN q)]<|Zg (a:=rI q.Site) R AI (.inl R) R R,Za⟩) λF T=>?_
 refine Ay [0,1,2,3,4,5,6,7,8,9,10,11,12,13] [2,3] ?_
 exact Zc E λI A J=>cL (Tz<|A) R<|sS R (ZK 15 R Bl (f:=(Ad .i64)) (l:=([u,I]:List Int)) ⟨R,⟨_,iL,R⟩,R,⟨_,iL,R⟩,Za⟩ R (λ_=>R) R)<|Zc J λU B M=>cL (ZZ<|B) R<|mA R<|aZ<|C _<|Zj<|yI M R
theorem mt{w r}(h:N2 w=some r):AM prog 173 [qf w] (rI r):=by
 unfold N2 at h
 refine mF func173 ntmps173 R λn0=>aU<|mA R<|aZ<|aS λK2 c2 E=>aU<|mM R<|xL E2 R<|mM R<|aZ<|Zf<|A5 h λo1 A F B=>?_
 have J1:∀(u2:Unit) (i5:NN),o1=.nrm u2→K2 ⟨[],[],(i5 0),31⟩:=by
  intro u2 i5 e
  have h1:=F _ e
  exact c2 _<|zI h1 R id
 refine Zz (λ(I:Int) C=>⟨[(0,qf w),(6,qf w),(7,rL w),(8,rI I)],[],(C 0),31⟩) (AG [n0]) A wk ?_
 intro I C v1 J q
 have h2:Qj w I=some v1:=J;unfold Qj at h2
 refine aU<|xS R<|aZ<|aT λc6=>cI R h2 (λM=>?_) λM=>?_
 ·refine Zd<|c6 _<|aT λc7=>Zf<|aU<|mM R<|Zc M λj O h4=>xI E2 R O<|xB ((CN j)) Ic R<|sS R (Zq (cs:=[rI 0,rI 0,rI 0,rI 0,rI 0,.r<|.str [],.r<|.str [],.r<|.str []]) 4 R cW R R)<|mA R<|Zk R R (Zi (ds:=(CN j)) R fN iL R iL R R R R)<|aZ<|aT λc9=>aU<|xC Ic R<|Zc h4 λe1 T h5=>cL (pN<|T) R<|mA R<|aZ<|aU<|mM R<|xU R<|aZ<|cI R h5 (λU=>?_) λU=>?_
  ·refine aT λV=>aF [5] ?_
   exact aR<|mM R<|mA R<|aZ<|V _<|Zj<|yI (B _<|xH q U) R
  refine Zd<|c9 _<|aT λX=>aG [0,3,4,6,7,8] [4] ?_
  refine ZA A8 (by kernel_rfl) ?_
  refine qP R (Ze R iL)<|qP R (Zy R iL iL)<|qP R (Ze R iL)<|qO R (Ze R iL)<|qO R (Ze R iL)<|Zc U λx5 Y h7=>qO R (Bu R (iR R) iL<|AN Y)<|Zc h7 λl Z h8=>qO R (Zr R E2.slice (iR R) (iR R) (λ_=>R)<|AN Z)<|qO R (ZN (cs:=(CN l)) R Ic (iR R) R R)<|qO R (ZQ R Ic iL R R)<|Zc h8 λr1 a0 h9=>G0 (.one R R R) R R (r:=rI r1) (caps:=[]) (bs:=[.agg<|CN l,.agg<|CN j]) R iL R ⟨⟨_,(iR R),.g (cs:=[.int .i64 l.Clock,.int .i64 l.Site,.int .i64 l.Kind,.int .i64 l.Item,.int .i64 l.Parent,.str l.Place,.str l.Name,.str l.Value]) R R⟩,⟨_,(iR R),.g (cs:=[.int .i64 j.Clock,.int .i64 j.Site,.int .i64 j.Kind,.int .i64 j.Item,.int .i64 j.Parent,.str j.Place,.str j.Name,.str j.Value]) R R⟩,Za⟩ (λhg=>kt<|AN a0 hg) R<|qO R (Ca R (iR R) iL)<|qP R (ZG R iL<|iR R)<|AQ.nil<|X _<|cI R h9 (λu=>?_) λu=>?_
  ·exact zI (B _<|xH q u) R id
  exact Zd<|c7 _<|aR<|Zc u λx7 a1 a2=>xA R a1<|mM R<|Zh<|Zx a2 (AG [((C 0)+1)]) wk
 exact Zn<|E _ _ wk<|J1 _ (AG [(C 0)])<|xH q M
theorem pc{n1 r}(h:E9 n1=some r):AM prog 127 (Mm n1) (rI r):=by
 unfold E9 at h
 refine mF func127 ntmps127 R λA=>aU<|sS R (Zv (cs:=(BR n1)) 1 R iL R R)<|mA R<|aZ<|aT λc2=>Zf<|aU<|lF Ea AI R R<|xS R<|mM R<|vF Ea AI R R<|vQ R (Zy R (iR R) iL)<|xO R<|mA R<|aZ<|cI R h (λV=>?_) λV=>?_
 ·exact zI V R id
 refine aT λc5=>aG [1] [1] ?_
 refine aR<|lF Cc AI R R<|xS R<|mM R<|vF Cc AI R R<|vQ R (Ca R (iR R) iL)<|xO R<|mM R<|vF Ea AI R R<|vQ R (Zs R (iR R) iL)<|vF Cc AI R R<|vQ R (Zs R (iR R) iL)<|vQ R (iV R underlying4 (iR R)<|iR R)<|xO R<|mA R<|aZ<|c5 _<|cI R V (λX=>?_) λX=>?_
 ·exact zI X R id
 refine Zd<|c2 _<|aT λc7=>aT λc8=>aG [1] [1] ?_
 refine aR<|lF R8 A1 R R<|Zc X λe1 Y h3=>cL (PR<|Y) R<|mA R<|aZ<|c8 _<|aU<|mM R<|xU R<|aZ<|cI R h3 (λZ=>?_) λZ=>?_
 ·exact aU<|mM R<|mA R<|aZ<|Zj<|yI Z R
 refine Zd<|c7 _<|aT λa0=>?_
 refine ZA A8 (by kernel_rfl) ?_
 refine qP R (fB R Cc iL fR R)<|qP R (Zg (a:=rI n1.Kind) R AI iL R R)<|Zc Z λl O h5=>EQ R R R (r:=rB l) (caps:=[]) (bs:=[rI n1.Kind]) R iL R ⟨⟨_,iL,.d R⟩,Za⟩ (λ_=>YA<|O) R<|qP R (Ze R iL)<|qO R (fB R Cc iL fR R)<|qO R (Zg (a:=rI n1.Kind) R AI (iR R) R R)<|Zc h5 λq a1 h6=>G0 (.one R R R) R R (r:=rB q) (caps:=[]) (bs:=[rI n1.Kind]) R iL R ⟨⟨_,(iR R),.d R⟩,Za⟩ (λhg=>sb<|AN a1 hg) R<|qP R (B1 R iL<|iR R)<|qP R (fB R Cc iL fR R)<|qP R (Zg (a:=rI n1.Kind) R AI iL R R)<|Zc h6 λj B h7=>EQ R R R (r:=rB j) (caps:=[]) (bs:=[rI n1.Kind]) R iL R ⟨⟨_,iL,.d R⟩,Za⟩ (λ_=>tx<|B) R<|qP R (DQ R iL)<|qP R (DQ R iL)<|AQ.nil<|a0 _<|aT λa2=>aS λa6 a7 C=>aG [1,4,5] [1] ?_
 refine aR<|mM R<|sQ R (Zu R iL)<|mM R<|vF EW Br R R<|vQ R (Bd R Ab.slice<|iR R)<|vQ R (Zy R (iR R) iL)<|xN R<|mM R<|vM R<|vQ R (Zu R<|iR R)<|vQ R (Ze R<|iR R)<|wQ R (fB R F0 iL fR R)<|wQ R (FR (ds:=(Cz n1.Grid)) R NF (iR R) R R R) ?_
 refine wQ R (ZD R ou (q:=[]) (by exact Za) (cs:=Do)<|by rfl) ?_
 refine Ar h7 λp1 T a8=>?_
 have J1:∀(x1:Bool) (i1:NN),p1=x1→a6 ⟨[(1,.ptr 1 A 0 0),(4,rB<|(l||q)),(5,rB j),(81,rB x1)],[(1,some<|.box A 46<|BR n1)],(i1 0),107⟩:=by
  intro x1 i1 e
  have h8:=a8 _ e
  refine a7 _<|cI R h8 (λh9=>?_) λh9=>?_
  ·exact zI h9 R id
  refine Zd<|a2 _<|aT λaa=>Zf<|aU<|mM R<|mA R<|aZ<|cI R h9 (λF=>?_) λF=>?_
  ·refine aT λab=>?_
   refine ZA A8 (by kernel_rfl) ?_
   exact qP R (fB R EW iL fR R)<|qP R (Zg (a:=qb n1.Flow) R Br iL R R)<|qP R (fB R Cc iL fR R)<|qP R (Zg (a:=rI n1.Kind) R AI iL R R)<|EQ R R R (r:=rB l) (caps:=[]) (bs:=[rI n1.Kind]) R iL R ⟨⟨_,iL,.d R⟩,Za⟩ (λ_=>YA<|O) R<|Zc F λr4 ac ad=>EQ R R R (r:=rI r4) (caps:=[]) (bs:=[qb n1.Flow,rB l]) R iL R ⟨⟨_,iL,.d R⟩,⟨_,iL,.d R⟩,Za⟩ (λ_=>jV<|ac) R<|qP R (DQ R iL)<|AQ.nil<|ab _<|Zj<|yI ad R
  refine aU<|mM R<|mA R<|aZ<|cI R F (λI=>?_) λI=>?_
  ·refine aT λae=>aU<|sQ R (fB R F0 iL fR R)<|sQ R (FR (ds:=(Cz n1.Grid)) R NF iL R R R)<|Zc I λe2 af ag=>cL (na<|af) R<|mA R<|aZ<|aT λah=>aG [1,6] [1] ?_
   refine aR<|mM R<|xU R<|aZ<|ah _<|cI R ag (λJ=>?_) λJ=>?_
   ·exact aU<|mM R<|mA R<|aZ<|Zj<|yI J R
   exact Zd<|ae _<|aU<|lF Cc AI R R<|sQ R (fB R F0 iL fR R)<|lF Fq Eb R R<|Zc J λr5 ai aj=>cL (rX<|ai) R<|mA R<|aZ<|Zj<|yI aj R
  exact Zd<|aa _<|aU<|lF Iw Fx R R<|Zc I λr6 ak al=>cL (mt<|ak) R<|mA R<|aZ<|Zj<|yI al R
 refine AL.split (((!(l||q))&&(0<(n1.Flow.length:Int)))==false) (λu=>?_) λu=>?_
 ·have E:=Ba u T
  refine AL.weak (by exact RS (e':=[(1,.ptr 1 A 0 0),(4,rB<|(l||q)),(5,rB j),(51,rB<|(l||q)),(52,rB<|(!(l||q))),(53,rB<|(!(l||q))),(58,rB<|((!(l||q))&&(0<(n1.Flow.length:Int)))),(59,rB<|((!(l||q))&&(0<(n1.Flow.length:Int)))),(60,rB j),(61,rB<|(!j)),(62,rB<|(!j)),(63,.whn ((!j)==true)<|.ptr 1 A 0 4),(64,.whn ((!j)==true)<|.agg<|Cz n1.Grid),(65,.whn ((!j)==true)<|.agg Do)]) u ⟨.inl R,.inl R,.inl R,.inl R,.inl R,.inl R,.inl R,.inl R,.inr iL,.inr iL,.inr iL,.inr<|.inr<|.inl ⟨_,_,R,R⟩,.inr<|.inr<|.inl ⟨_,_,R,R⟩,.inr<|.inr<|.inl ⟨_,_,R,R⟩,Za⟩) ?_
  refine AL.split ((!j)==true) (λw=>?_) λw=>?_
  ·have M:=Ba w E
   refine AL.weak (by exact RS (e':=[(1,.ptr 1 A 0 0),(4,rB<|(l||q)),(5,rB j),(51,rB<|(l||q)),(52,rB<|(!(l||q))),(53,rB<|(!(l||q))),(58,rB<|((!(l||q))&&(0<(n1.Flow.length:Int)))),(59,rB<|((!(l||q))&&(0<(n1.Flow.length:Int)))),(60,rB j),(61,rB<|(!j)),(62,rB<|(!j)),(63,.ptr 1 A 0 4),(64,.agg<|Cz n1.Grid),(65,.agg Do)]) w ⟨.inl R,.inl R,.inl R,.inl R,.inl R,.inl R,.inl R,.inl R,.inl R,.inl R,.inl R,.inr iL,.inr iL,.inr iL,Za⟩) ?_
   refine AL.weak (by exact ZC (e':=[(1,.ptr 1 A 0 0),(4,rB<|(l||q)),(5,rB j),(51,rB<|(l||q)),(52,rB<|(!(l||q))),(53,rB<|(!(l||q))),(58,rB<|((!(l||q))&&(0<(n1.Flow.length:Int)))),(59,rB<|((!(l||q))&&(0<(n1.Flow.length:Int)))),(60,rB j),(61,rB<|(!j)),(62,rB<|(!j)),(63,.ptr 1 A 0 4),(64,.agg<|Cz n1.Grid),(65,.agg [rI 0,rI 0,.r<|.sl [],.r<|.sl []])]) (h':=[(1,some<|.box A 46<|BR n1)]) ⟨jL,jL,jL,jL,jL,jL,jL,jL,jL,jL,jL,jL,jL,.inr ⟨_,_,R,R,⟨.inl R,.inl R,.inr<|.inr ⟨R,R⟩,.inr<|.inr ⟨R,R⟩,Za⟩⟩,Za⟩ ⟨.inl R,Za⟩ nL) ?_
   exact Zc M λr7 an ao=>Hz (.one R R R) w R R (Du (r:=rB r7) (caps:=[]) (bs:=[.agg<|Cz n1.Grid,.agg [rI 0,rI 0,.r<|.sl [],.r<|.sl []]]) R (.inl R) R ⟨⟨_,(.inl R),.g (cs:=[.int .i64 n1.Grid.Rows,.int .i64 n1.Grid.Cols,.sl<|n1.Grid.Cells.map Aq.row,.sl<|n1.Grid.Merges.map An.row]) R R⟩,⟨_,(.inl R),.g (cs:=[.int .i64 0,.int .i64 0,.sl<|[].map Aq.row,.sl<|[].map An.row]) R R⟩,Za⟩ (λ_=>nQ<|an) R)<|Hz (.one R R R) w R R (AP.spec (Zu R<|.inl R) _)<|Hz (.one R R R) u R R (AP.spec (ZG R (.inl R)<|.inl R) _)<|sQ R (B1 R iL iL)<|mM R<|vF Cc AI R R<|Zc ao λr8 aq ar=>vL (λhg=>V6<|AN aq hg) R<|vQ R (Zu R<|iR R)<|vQ R (Ze R<|iR R)<|wQ R (fB R Iw iL fR R)<|wQ R (Zg (a:=qf n1.Draw) R Fx (iR R) R R)<|wQ R (Bd R E2.slice<|iR R)<|wQ R (Zy R (iR R) iL)<|vQ R (ZG R (iR R)<|iR R)<|xO R<|Zh<|C _ _ wk<|J1 _ (AG [(A+1)]) (Zb ar).symm
  ·have M:=Be w E
   exact Fv (.one R R R) w R R<|Fv (.one R R R) w R R<|Hz (.one R R R) u R R (AP.spec (ZG R (.inl R)<|iR R) _)<|sQ R (B1 R iL iL)<|mM R<|vF Cc AI R R<|Zc M λr9 av aw=>vL (λhg=>V6<|AN av hg) R<|vQ R (Zu R<|iR R)<|vQ R (Ze R<|iR R)<|wQ R (fB R Iw iL fR R)<|wQ R (Zg (a:=qf n1.Draw) R Fx (iR R) R R)<|wQ R (Bd R E2.slice<|iR R)<|wQ R (Zy R (iR R) iL)<|vQ R (ZG R (iR R)<|iR R)<|xO R<|Zh<|C _ _ wk<|J1 _ (AG [(A+1)]) (Zb aw).symm
 ·have E:=Be u T
  exact Fv (.two R R R) (Yp u) R R<|Fv (.two R R R) (Yp u) R R<|Fv (.one R R R) u R R<|xO R<|mM R<|vF Cc AI R R<|Zc E λay U ax=>vL (λhg=>V6<|AN U hg) R<|vQ R (Zu R<|iR R)<|vQ R (Ze R<|iR R)<|wQ R (fB R Iw iL fR R)<|wQ R (Zg (a:=qf n1.Draw) R Fx (iR R) R R)<|wQ R (Bd R E2.slice<|iR R)<|wQ R (Zy R (iR R) iL)<|vQ R (ZG R (iR R)<|iR R)<|xO R<|Zh<|C _ _ wk<|J1 _ (AG [(A+1)]) (Zb ax).symm
theorem wK{f1 r}(h:bM f1=some r):AM prog 174 [qb f1] (.r<|.sl<|r.map<|Ad .i64):=by
 unfold bM at h
 refine mF func174 ntmps174 R λE=>aU<|mA R<|aZ<|aU<|mA R<|aZ<|aS λK3 c3 J=>aU<|mM R<|xL Ab R<|mM R<|aZ<|Zf<|Ar h λo1 B M=>?_
 have J1:∀(j:List Int) (F:NN),o1=j→K3 ⟨[(3,.own 5003<|F 0)],[(5003,some<|.arr (F 0) 3 1<|j.map<|Ad .i64)],(F 1),22⟩:=by
  intro j F e
  have h1:=M _ e
  exact c3 _<|aU<|mM R<|mA R<|aZ<|Zj<|CX (P:=prog) (λ(r:(List Int))=>.r<|.sl<|r.map<|Ad .i64) h1 iL<|.t<|.one<|.own R
 refine ZL (λ(I:Int) (l:List Int) u=>⟨[(3,.own 5003<|u 0),(6,qb f1),(7,rL f1),(8,rI I)],[(5003,some<|.arr (u 0) 3 1<|l.map<|Ad .i64)],(u 1),22⟩) (AG [E,(E+1)]) B (Zm (Zm (ZR 3 5003 3 1 (by decide) R)<|by exact ZC (e':=[(0,qb f1),(2,cZ),(3,.own 5003 E),(6,qb f1),(7,rL f1),(8,rI 0)]) (h':=[(5003,some<|.arr E 3 1<|([]:List Int).map<|Ad .i64)]) ⟨jL,jL,jL,jL,jL,jL,Za⟩ ⟨.inl R,Za⟩ nL) wk) ?_
 intro I l u v1 O T
 have h2:JR f1 I l=some v1:=O;unfold JR at h2
 refine aU<|xS R<|aZ<|aT λc7=>cI R h2 (λU=>?_) λU=>?_
 ·refine Zd<|c7 _<|aS λK8 c8 C=>Zf<|Ar U λp1 V X=>?_
  have J2:∀(q:List Int) (A:NN),p1=q→K8 ⟨[(3,.own 5003<|A 0),(6,qb f1),(7,rL f1),(8,rI I)],[(5003,some<|.arr (A 0) 3 1<|q.map<|Ad .i64)],(A 1),22⟩:=by
   intro q A e
   have h4:=X _ e
   exact c8 _<|aR<|Zc h4 λx4 Y h5=>xA R Y<|mM R<|Zh<|ZH h5 (AG [(A 0),(A 1)]) wk
  refine aU<|Zc V λZ a0 h6=>xI Ab R a0<|xB ((Aa Z)) CK R<|sS R (Zq (cs:=EC) 5 R ED R R)<|Zk R R (Zi (ds:=(Aa Z)) R Cp iL R iL R R R R)<|aZ<|aU<|lF D2 AI R R<|xU R<|aZ<|cI R h6 (λh7=>?_) λh7=>?_
  ·exact aR<|mM R<|lF D2 AI R R<|sS R (ZK 18 R Bl (f:=(Ad .i64)) (l:=([Z.Ref]:List Int)) ⟨R,⟨_,iL,R⟩,Za⟩ R (λ_=>R) R)<|Zc h7 λa1 w h8=>sS R (B6 R Bl iL R (.inr<|.inl ⟨_,_,iL,R⟩) w)<|mA R<|Zh<|C _ _ wk<|J2 _ (AG [((u 1)+2),((u 1)+3)]) (Zb h8).symm
  exact Zd<|C _ _ wk<|J2 _ (AG [(u 0),((u 1)+1)]) (Zb h7).symm
 exact Zn<|J _ _ wk<|J1 _ (AG [(u 0),(u 1)])<|xH T U
theorem rl{f1 r}(h:Q9 f1=some r):BL prog 174 1 [qb f1] [] (λJ h'=>∃(i:Nat→Nat),J=.own 1000 (i 0)∧h'=[(1000,some<|.arr (i 0) 3 1<|r.map<|Ad .i64)]):=by
 unfold Q9 at h
 refine DU func174 R R ntmps174 (Zw R) λF=>aU<|mA R<|aZ<|aU<|mA R<|aZ<|aS λK3 c3 M=>aU<|mM R<|xL Ab R<|mM R<|aZ<|Zf<|Ar h λo1 C O=>?_
 have J1:∀(j:List Int) (l:NN),o1=j→K3 ⟨[(3,.own 5003<|l 0)],[(5003,some<|.arr (l 0) 3 1<|j.map<|Ad .i64)],(l 1),22⟩:=by
  intro j l e
  have h1:=O _ e
  refine c3 _<|aU<|mM R<|mA R<|aZ ?_
  exact Zj<|ZM (s':=⟨[(2,.own 1000<|l 1)],[(1000,some<|.arr (l 1) 3 1<|j.map<|Ad .i64)],((l 1)+1),22⟩) (Zm (Zm (Ag.ren 2 5003 1000 R R R)<|by exact ZC (e':=[(2,.own 1000<|l 1)]) (h':=[(1000,some<|.arr (l 1) 3 1<|j.map<|Ad .i64)]) ⟨jL,Za⟩ ⟨.inl R,Za⟩ nL) wk)<|ZE (λ(r:(List Int)) J h'=>∃(i:Nat→Nat),J=.own 1000 (i 0)∧h'=[(1000,some<|.arr (i 0) 3 1<|r.map<|Ad .i64)]) h1<|by exact⟨.own 1000<|l 1,[(1000,some<|.arr (l 1) 3 1<|j.map<|Ad .i64)],R,⟨.inr R,Za⟩,R,R,AG [(l 1)],R,R⟩
 refine ZL (λ(I:Int) (q:List Int) w=>⟨[(3,.own 5003<|w 0),(6,qb f1),(7,rL f1),(8,rI I)],[(5003,some<|.arr (w 0) 3 1<|q.map<|Ad .i64)],(w 1),22⟩) (AG [F,(F+1)]) C (Zm (Zm (ZR 3 5003 3 1 (by decide) R)<|by exact ZC (e':=[(0,qb f1),(2,cZ),(3,.own 5003 F),(6,qb f1),(7,rL f1),(8,rI 0)]) (h':=[(5003,some<|.arr F 3 1<|([]:List Int).map<|Ad .i64)]) ⟨jL,jL,jL,jL,jL,jL,Za⟩ ⟨.inl R,Za⟩ nL) wk) ?_
 intro I q w v1 T U
 have h2:Hm f1 I q=some v1:=T;unfold Hm at h2
 refine aU<|xS R<|aZ<|aT λc7=>cI R h2 (λV=>?_) λV=>?_
 ·refine Zd<|c7 _<|aS λK8 c8 E=>Zf<|Ar V λp1 X Y=>?_
  have J2:∀(u:List Int) (B:NN),p1=u→K8 ⟨[(3,.own 5003<|B 0),(6,qb f1),(7,rL f1),(8,rI I)],[(5003,some<|.arr (B 0) 3 1<|u.map<|Ad .i64)],(B 1),22⟩:=by
   intro u B e
   have h4:=Y _ e
   exact c8 _<|aR<|Zc h4 λx4 Z h5=>xA R Z<|mM R<|Zh<|ZH h5 (AG [(B 0),(B 1)]) wk
  refine aU<|Zc X λx5 a0 h6=>xI Ab R a0<|xB ((Aa x5)) CK R<|sS R (Zq (cs:=EC) 5 R ED R R)<|Zk R R (Zi (ds:=(Aa x5)) R Cp iL R iL R R R R)<|aZ<|aU<|lF D2 AI R R<|xU R<|aZ<|cI R h6 (λh7=>?_) λh7=>?_
  ·exact aR<|mM R<|lF D2 AI R R<|sS R (ZK 18 R Bl (f:=(Ad .i64)) (l:=([x5.Ref]:List Int)) ⟨R,⟨_,iL,R⟩,Za⟩ R (λ_=>R) R)<|Zc h7 λa1 A h8=>sS R (B6 R Bl iL R (.inr<|.inl ⟨_,_,iL,R⟩) A)<|mA R<|Zh<|E _ _ wk<|J2 _ (AG [((w 1)+2),((w 1)+3)]) (Zb h8).symm
  exact Zd<|E _ _ wk<|J2 _ (AG [(w 0),((w 1)+1)]) (Zb h7).symm
 exact Zn<|M _ _ wk<|J1 _ (AG [(w 0),(w 1)])<|xH U V
theorem kG{n1 r}(h:LC n1=some r):AM prog 129 (Mm n1) (.r<|.sl<|r.map<|Ad .i64):=by
 unfold LC at h
 refine mF func129 ntmps129 R λn0=>aU<|sS R (Zv (cs:=(BR n1)) 1 R iL R R)<|mA R<|aZ<|aT λc2=>aR<|lF EW Br R R<|Zc h λw1 I h1=>?_
 refine Zo [8] (hc:=[]) (bs:=[qb n1.Flow]) (caps:=[]) R R R R iL R ⟨.inl ⟨iL,R⟩,Za⟩ Za (by decide) (rl I) ?_
 intro i1 n2
 refine Ay [0,1,2,6,7,8] [1,8] ?_
 refine mA R<|aZ<|c2 _<|aS λK3 c3 J=>aU<|sQ R (fB R F0 iL fR R)<|lF Fq Eb R R<|xL CT R<|mM R<|aZ<|Zf<|Ar h1 λo1 B M=>?_
 have J1:∀(j:List Int) (E:NN),o1=j→K3 ⟨[(3,.own 8<|E 0)],[(8,some<|.arr (E 0) 3 1<|j.map<|Ad .i64)],(E 1),27⟩:=by
  intro j E e
  have h2:=M _ e
  exact c3 _<|aU<|mM R<|mA R<|aZ<|Zj<|CX (P:=prog) (λ(r:(List Int))=>.r<|.sl<|r.map<|Ad .i64) h2 iL<|.t<|.one<|.own R
 refine ZL (λ(F:Int) (l:List Int) u=>⟨[(3,.own 8<|u 0),(11,qe n1.Grid.Cells),(12,rL n1.Grid.Cells),(13,rI F)],[(8,some<|.arr (u 0) 3 1<|l.map<|Ad .i64)],(u 1),27⟩) (AG [(i1 0),n2]) B wk ?_
 intro F l u v1 O T
 have h3:HW n1 F l=some v1:=O;unfold HW at h3
 refine aU<|xS R<|aZ<|aT λc7=>cI R h3 (λU=>?_) λU=>?_
 ·refine Zd<|c7 _<|aS λK8 c8 C=>Zf<|Ar U λp1 V X=>?_
  have J2:∀(q:List Int) (A:NN),p1=q→K8 ⟨[(3,.own 8<|A 0),(11,qe n1.Grid.Cells),(12,rL n1.Grid.Cells),(13,rI F)],[(8,some<|.arr (A 0) 3 1<|q.map<|Ad .i64)],(A 1),27⟩:=by
   intro q A e
   have h5:=X _ e
   exact c8 _<|aR<|Zc h5 λx4 Y h6=>xA R Y<|mM R<|Zh<|ZH h6 (AG [(A 0),(A 1)]) wk
  refine aU<|Zc V λZ a0 h7=>xI CT R a0<|xB ((Bs Z)) FP R<|sS R (Zq (cs:=NI) 5 R NC R R)<|Zk R R (Zi (ds:=(Bs Z)) R MK iL R iL R R R R)<|aZ<|aU<|lF E8 AI R R<|xU R<|aZ<|cI R h7 (λh8=>?_) λh8=>?_
  ·exact aR<|mM R<|lF E8 AI R R<|sS R (ZK 23 R Bl (f:=(Ad .i64)) (l:=([Z.Ref]:List Int)) ⟨R,⟨_,iL,R⟩,Za⟩ R (λ_=>R) R)<|Zc h8 λa1 w h9=>sS R (B6 R Bl iL R (.inr<|.inl ⟨_,_,iL,R⟩) w)<|mA R<|Zh<|C _ _ wk<|J2 _ (AG [((u 1)+2),((u 1)+3)]) (Zb h9).symm
  exact Zd<|C _ _ wk<|J2 _ (AG [(u 0),((u 1)+1)]) (Zb h8).symm
 exact Zn<|J _ _ wk<|J1 _ (AG [(u 0),(u 1)])<|xH T U
theorem iP{n1 i r}(h:My n1 i=some r):AM prog 184 [.agg<|BR n1,rI i] (rI r):=by
 unfold My at h
 refine mF func184 ntmps184 R λu=>aU<|sS R (Zv (cs:=(BR n1)) 2 R iL R R)<|mA R<|aZ<|aT λq=>Zf<|aU<|lF Ea AI R R<|mM R<|xS R<|mA R<|aZ<|cI R h (λj=>?_) λj=>?_
 ·exact zI j R id
 refine aU<|lF Ea AI R R<|mM R<|sQ R (Zy R iL iL)<|mA R<|aZ<|cI R j (λl=>?_) λl=>?_
 ·exact zI l R id
 exact Zd<|q _<|zI l R id
theorem tp{l a r}(h:Rs l a=some r):AM prog 183 [qg l,rI a,.fn 184 []] (.tup [rI r.1,rB r.2]):=by
 unfold Rs at h
 refine mF func183 ntmps183 R λn0=>aU<|mA R<|mA R<|aZ<|aU<|mM R<|xL Co R<|mA R<|aZ<|aU<|mM R<|mA R<|mA R<|aZ<|aS λK4 c4 A=>Zf<|Ar h λo1 q B=>?_
 have J1:∀(i8:Int) (Z:NN),o1=i8→K4 ⟨[(0,qg l),(1,rI a),(2,.fn 184 []),(8,rL l),(9,rI i8)],[],(Z 0),49⟩:=by
  intro i8 Z e
  have h1:=B _ e
  exact c4 _<|aU<|mM R<|mM R<|mM R<|xS R<|mM R<|vM R<|vM R<|vM R<|Zc h1 λj C h2=>vQ R (Zr R Co.slice (iR R) (iR R) (λ_=>R)<|AN C)<|vQ R (ZN (cs:=(BR j)) R FI (iR R) R R)<|vM R<|Zc h2 λr1 E h3=>AL.stepW (.one R R R) R R (Du (r:=rI r1) (caps:=[]) (bs:=[.agg<|BR j,rI a]) R (iR R) R ⟨⟨_,(iR R),.g (cs:=[.int .i64 j.ID,.int .i64 j.Kind,.sl<|j.Attrs.map AD.row,.sl<|j.Flow.map AC.row,.int .i64 j.Grid.Rows,.int .i64 j.Grid.Cols,.sl<|j.Grid.Cells.map Aq.row,.sl<|j.Grid.Merges.map An.row,.sl<|j.Draw.map BB.row]) R R⟩,⟨_,(iR R),.d R⟩,Za⟩ (λhg=>iP<|AN E hg) R)<|vQ R (Zs R (iR R) iL)<|xN R<|mA R<|mA R<|aZ<|Zj<|CB (P:=prog) (λ(r:Int × Bool)=>rI r.1) (λ(r:Int × Bool)=>rB r.2) h3 iL (.t<|.d R)<|.t<|.d R
 refine ZL (λ(F:Int) (I:Int) u=>⟨[(0,qg l),(1,rI a),(2,.fn 184 []),(8,rL l),(9,rI F),(10,rI I)],[],(u 0),49⟩) (AG [n0]) q wk ?_
 intro F I u v1 J M
 have h4:MI l a F I=some v1:=J;unfold MI at h4
 refine aT λc6=>aU<|mM R<|mM R<|xS R<|aZ<|cI R h4 (λO=>?_) λO=>?_
 ·refine Zd<|c6 _<|Zf<|aU<|mM R<|mM R<|Zc O λx3 T h6=>xA R T<|sQ R (ZF R underlying3 underlying128 iL)<|sQ R (Ri (b:=1) R iL iL)<|sQ R (ZF R underlying128 underlying3 iL)<|mA R<|aZ<|aT λc9=>aF [0,1,2,8,9,10,11] ?_
  refine aR<|mM R<|mM R<|mM R<|Zc h6 λx4 U h7=>xI Co R U<|xB ((BR x4)) FI R<|mM R<|Zc h7 λr2 V h8=>cL (iP<|V) R<|xS R<|aZ<|c9 _<|cI R h8 (λX=>?_) λX=>?_
  ·refine aF [0,1,2,8,10,11] ?_
   exact aR<|mM R<|Zc X λa0 w Y=>xA R w<|mA R<|Zh<|ZH Y (AG [(u 0)]) wk
  refine aF [0,1,2,8,9,11] ?_
  exact aR<|mM R<|mA R<|Zh<|ZH X (AG [(u 0)]) wk
 exact Zn<|A _ _ wk<|J1 _ (AG [(u 0)])<|xH M O
theorem gJ{d1 i r}(h:M0 d1 i=some r):AM prog 142 [.agg [qg d1.Nodes],rI i] (.tup [rI r.1,rB r.2]):=by
 unfold M0 at h
 exact mF func142 ntmps142 R λw=>aU<|sS R (Zv (cs:=[qg d1.Nodes]) 2 R iL R R)<|mA R<|mA R<|aZ<|aU<|lF Da DY R R<|mM R<|Ch h λl q j u=>sS R (Du (r:=.tup [rI l,rB q]) (caps:=[]) (bs:=[qg d1.Nodes,rI i,.fn 184 []]) R iL R ⟨⟨_,iL,.d R⟩,⟨_,iL,.d R⟩,⟨_,iL,.one<|.closed (.fn 184 []) R⟩,Za⟩ (λ_=>tp<|j) R)<|xX R<|xX R<|mA R<|mA R<|aZ<|Zj<|CB (P:=prog) (λ(r:Int × Bool)=>rI r.1) (λ(r:Int × Bool)=>rB r.2) u iL (.t<|.d R)<|.t<|.d R
theorem oL{j v1 r}(h:TM j v1=some r):AM prog 203 [.r<|.sl<|j.map<|Ad .i64,rI v1] (rI r):=by
 unfold TM at h
 refine mF func203 ntmps203 R λX=>aU<|mA R<|aZ<|aS λY Z w=>aU<|mM R<|xL Bl R<|mM R<|aZ<|Zf<|A5 h λo1 l A B=>?_
 have J1:∀(T:Unit) (U:NN),o1=.nrm T→Y ⟨[],[],(U 0),19⟩:=by
  intro T U e
  have h1:=A _ e
  exact Z _<|zI h1 R id
 refine Zz (λ(C:Int) u=>⟨[(0,.r<|.sl<|j.map<|Ad .i64),(1,rI v1),(7,rL j),(8,rI C)],[],(u 0),19⟩) (AG [X]) l wk ?_
 intro C u v2 E q
 have V:Qi j v1 C=some v2:=E;unfold Qi at V
 refine aU<|xS R<|aZ<|aT λc6=>cI R V (λF=>?_) λF=>?_
 ·refine Zd<|c6 _<|aT λc7=>Zf<|aU<|mM R<|mA R<|aZ<|aU<|mM R<|mM R<|mM R<|Zc F λx4 I h4=>xI Bl R I<|xV (.int .i64 x4) AI R<|xQ R<|aZ<|cI R h4 (λJ=>?_) λJ=>?_
  ·refine aT λM=>aF [5] ?_
   exact aR<|mM R<|mA R<|aZ<|M _<|Zj<|yI (B _<|xH q J) R
  refine Zd<|c7 _<|aF [0,1,7,8] ?_
  exact aR<|Zc J λx5 O h6=>xA R O<|mM R<|Zh<|Zx h6 (AG [(u 0)]) wk
 exact Zn<|w _ _ wk<|J1 _ (AG [(u 0)])<|xH q F
theorem kV{l v1 r}(h:NR l v1=some r):AM prog 175 [.r<|.sl<|l.map<|Ad .i64,rI v1] (rB r):=by
 unfold NR at h
 exact mF func175 ntmps175 R λu=>aU<|mA R<|aZ<|aU<|mM R<|mM R<|Zc h λw j q=>cL (oL<|j) R<|sQ R (Ca R iL iL)<|mA R<|aZ<|Zj<|yB q R
theorem ml{p k r}(h:PT p k=some r):AM prog 130 [rI p,rI k] (rB r):=by
 unfold PT at h
 refine mF func130 ntmps130 R λC=>aU<|mA R<|aZ<|aU<|mA R<|aZ<|aS λK3 c3 j=>aU<|mM R<|aZ<|Zf<|Ar h λp1 E J=>?_
 have l:∀(M:List Int) (i1:NN),p1=M→K3 ⟨[(1,rI k),(5,.r<|.sl<|M.map<|Ad .i64)],[],(i1 0),29⟩:=by
  intro M i1 e
  have h1:=J _ e
  exact c3 _<|aU<|mM R<|mM R<|Zc h1 λr1 O h2=>cL (kV<|O) R<|mA R<|aZ<|Zj<|yB h2 R
 refine aU<|xQ R<|mA R<|aZ<|aC R (λq=>?_) λq=>?_
 ·have T:=Ba q E
  refine aR<|sS R (ZK 9 R Bl (f:=(Ad .i64)) (l:=([1,6,7,10,11,12]:List Int)) ⟨R,⟨_,iL,R⟩,R,⟨_,iL,R⟩,R,⟨_,iL,R⟩,R,⟨_,iL,R⟩,R,⟨_,iL,R⟩,R,⟨_,iL,R⟩,Za⟩ R (λ_=>R) R)<|mA R<|Zh ?_
  exact j _ _ (Zm (by exact Ag.frz (e':=[(0,rI p),(1,rI k),(4,rB false),(5,.r<|.sl<|[1,6,7,10,11,12].map<|Ad .i64),(6,rI p),(7,rB<|(decide<|p=0)),(8,rB<|(decide<|p=0)),(9,.r<|.sl<|[1,6,7,10,11,12].map<|Ad .i64)]) (h':=[]) 9 R ⟨jL,jL,jL,.inl<|.inr<|.inr ⟨R,R⟩,jL,jL,jL,.inl<|.inr<|.inr ⟨R,R⟩,Za⟩ Za) wk)<|l _ (AG [(C+1)]) (Zb T).symm
 ·have T:=Be q E
  refine aU<|xQ R<|mA R<|aZ<|cI R T (λU=>?_) λU=>?_
  ·refine aR<|sS R (ZK 12 R Bl (f:=(Ad .i64)) (l:=([2,4,5,10]:List Int)) ⟨R,⟨_,iL,R⟩,R,⟨_,iL,R⟩,R,⟨_,iL,R⟩,R,⟨_,iL,R⟩,Za⟩ R (λ_=>R) R)<|mA R<|Zh ?_
   exact j _ _ (Zm (by exact Ag.frz (e':=[(0,rI p),(1,rI k),(4,rB false),(5,.r<|.sl<|[2,4,5,10].map<|Ad .i64),(6,rI p),(7,rB<|(decide<|p=0)),(8,rB<|(decide<|p=0)),(10,rB<|(decide<|p=1)),(11,rB<|(decide<|p=1)),(12,.r<|.sl<|[2,4,5,10].map<|Ad .i64)]) (h':=[]) 12 R ⟨jL,jL,jL,.inl<|.inr<|.inr ⟨R,R⟩,jL,jL,jL,jL,jL,.inl<|.inr<|.inr ⟨R,R⟩,Za⟩ Za) wk)<|l _ (AG [(C+1)]) (Zb U).symm
  refine aU<|xQ R<|mA R<|aZ<|cI R U (λV=>?_) λV=>?_
  ·refine aF [1] ?_
   refine aR<|sS R (ZK 15 R Bl (f:=(Ad .i64)) (l:=([4,5,10]:List Int)) ⟨R,⟨_,iL,R⟩,R,⟨_,iL,R⟩,R,⟨_,iL,R⟩,Za⟩ R (λ_=>R) R)<|mA R<|Zh ?_
   exact j _ _ (Zm (by exact Ag.frz (e':=[(1,rI k),(5,.r<|.sl<|[4,5,10].map<|Ad .i64),(15,.r<|.sl<|[4,5,10].map<|Ad .i64)]) (h':=[]) 15 R ⟨jL,.inl<|.inr<|.inr ⟨R,R⟩,.inl<|.inr<|.inr ⟨R,R⟩,Za⟩ Za) wk)<|l _ (AG [(C+1)]) (Zb V).symm
  refine aS λK9 c9 F=>aU<|xQ R<|mA R<|aZ<|Ar V λp2 I X=>?_
  have J2:∀(A:Bool) (B:NN),p2=A→K9 ⟨[(1,rI k),(5,cZ),(6,rI p),(16,rB A)],[],(B 0),29⟩:=by
   intro A B e
   have h6:=X _ e
   refine c9 _<|cI R h6 (λY=>?_) λY=>?_
   ·refine aR<|sS R (ZK 19 R Bl (f:=(Ad .i64)) (l:=([5]:List Int)) ⟨R,⟨_,iL,R⟩,Za⟩ R (λ_=>R) R)<|mA R<|Zh ?_
    exact j _ _ (Zm (by exact Ag.frz (e':=[(1,rI k),(5,.r<|.sl<|[5].map<|Ad .i64),(6,rI p),(16,rB A),(19,.r<|.sl<|[5].map<|Ad .i64)]) (h':=[]) 19 R ⟨jL,.inl<|.inr<|.inr ⟨R,R⟩,jL,jL,.inl<|.inr<|.inr ⟨R,R⟩,Za⟩ Za) wk)<|l _ (AG [((B 0)+1)]) (Zb Y).symm
   refine aU<|xQ R<|mA R<|aZ<|cI R Y (λZ=>?_) λZ=>?_
   ·refine aR<|sS R (ZK 22 R Bl (f:=(Ad .i64)) (l:=([3]:List Int)) ⟨R,⟨_,iL,R⟩,Za⟩ R (λ_=>R) R)<|mA R<|Zh ?_
    exact j _ _ (Zm (by exact Ag.frz (e':=[(1,rI k),(5,.r<|.sl<|[3].map<|Ad .i64),(6,rI p),(16,rB A),(20,rB<|(decide<|p=2)),(21,rB<|(decide<|p=2)),(22,.r<|.sl<|[3].map<|Ad .i64)]) (h':=[]) 22 R ⟨jL,.inl<|.inr<|.inr ⟨R,R⟩,jL,jL,jL,jL,.inl<|.inr<|.inr ⟨R,R⟩,Za⟩ Za) wk)<|l _ (AG [((B 0)+1)]) (Zb Z).symm
   refine aU<|xQ R<|mA R<|aZ<|cI R Z (λh9=>?_) λh9=>?_
   ·refine aR<|sS R (ZK 25 R Bl (f:=(Ad .i64)) (l:=([8,9]:List Int)) ⟨R,⟨_,iL,R⟩,R,⟨_,iL,R⟩,Za⟩ R (λ_=>R) R)<|mA R<|Zh ?_
    exact j _ _ (Zm (by exact Ag.frz (e':=[(1,rI k),(5,.r<|.sl<|[8,9].map<|Ad .i64),(6,rI p),(16,rB A),(20,rB<|(decide<|p=2)),(21,rB<|(decide<|p=2)),(23,rB<|(decide<|p=7)),(24,rB<|(decide<|p=7)),(25,.r<|.sl<|[8,9].map<|Ad .i64)]) (h':=[]) 25 R ⟨jL,.inl<|.inr<|.inr ⟨R,R⟩,jL,jL,jL,jL,jL,jL,.inl<|.inr<|.inr ⟨R,R⟩,Za⟩ Za) wk)<|l _ (AG [((B 0)+1)]) (Zb h9).symm
   refine Zd ?_
   exact j _ _ ((by exact ZC ⟨jL,.inl<|.inr<|.inr ⟨R,R⟩,Za⟩ Za nL))<|l _ (AG [(B 0)]) (Zb h9).symm
  refine aC R (λu=>?_) λu=>?_
  ·have w:=Ba u I
   exact Zd<|F _ _ wk<|J2 _ (AG [C]) (Zb w).symm
  ·have w:=Be u I
   refine aF [1,5,6] ?_
   exact aR<|xQ R<|mA R<|Zh<|F _ _ wk<|J2 _ (AG [C]) (Zb w).symm
theorem ln{d1 k a r}(h:Pg d1 k a=some r):AM prog 128 [.agg [qg d1.Nodes],rI k,.r<|.sl<|a.map<|Ad .i64] (rI r):=by
 unfold Pg at h
 refine mF func128 ntmps128 R λw=>aU<|sS R (Zv (cs:=[qg d1.Nodes]) 3 R iL R R)<|mA R<|aZ<|aS λK2 c2 A=>aU<|mM R<|xL Bl R<|mM R<|aZ<|Zf<|A5 h λo1 l B q=>?_
 have J1:∀(u2:Unit) (i5:NN),o1=.nrm u2→K2 ⟨[],[],(i5 0),35⟩:=by
  intro u2 i5 e
  have h1:=B _ e
  exact c2 _<|zI h1 R id
 refine Zz (λ(C:Int) u=>⟨[(1,rI k),(3,.ptr 3 w 0 0),(11,.r<|.sl<|a.map<|Ad .i64),(12,rL a),(13,rI C)],[(3,some<|.box w 24 [qg d1.Nodes])],(u 0),35⟩) (AG [(w+1)]) l wk ?_
 intro C u v1 E j
 have h2:L3 d1 k a C=some v1:=E;unfold L3 at h2
 refine aU<|xS R<|aZ<|aT λc6=>cI R h2 (λF=>?_) λF=>?_
 ·refine Zd<|c6 _<|aT λc7=>Zf<|aU<|Zc F λx4 I h4=>xI Bl R I<|xV (.int .i64 x4) AI R<|mA R<|aZ<|aU<|xC Dk R<|mM R<|Ch h4 λr1 r2 J h5=>cL (gJ<|J) R<|mM R<|xX R<|xX R<|mA R<|mA R<|aZ<|aT λM=>aT λO=>aG [1,3,9,10,11,12,13] [3] ?_
  refine aR<|mM R<|sQ R (Zu R iL)<|aZ<|O _<|cI R h5 (λT=>?_) λT=>?_
  ·exact zI (q _<|xH j T) R id
  refine Zd<|M _<|aU<|mM R<|lF Da DY R R<|mM R<|Zc T λx5 U h7=>xI Co R U<|sQ R (Zl R Cc iL)<|xV (.int .i64 x5.Kind) AI R<|Zc h7 λr3 V h8=>cL (ml<|V) R<|sQ R (Zu R iL)<|aZ<|cI R h8 (λX=>?_) λX=>?_
  ·exact zI (q _<|xH j X) R id
  refine Zd<|c7 _<|aG [1,3,11,12,13] [3] ?_
  exact aR<|Zc X λx6 Y Z=>xA R Y<|mM R<|Zh<|Zx Z (AG [(u 0)]) wk
 exact Zn<|A _ _ wk<|J1 _ (AG [(u 0)])<|xH j F
theorem jq{d1 r}(h:I9 d1=some r):AM prog 82 [.agg [qg d1.Nodes]] (rI r):=by
 unfold I9 at h
 refine mF func82 ntmps82 R λl=>aU<|sS R (Zv (cs:=[qg d1.Nodes]) 1 R iL R R)<|mA R<|aZ<|aT λc2=>aU<|lF Da DY R R<|xL Co R<|xQ R<|aZ<|cI R h (λX=>?_) λX=>?_
 ·exact zI X R id
 refine Zd<|c2 _<|aS λK5 c5 Y=>aU<|lF Da DY R R<|xL Co R<|mM R<|aZ<|Zf<|A5 X λo1 B Z C=>?_
 have J1:∀(u2:Unit) (i5:NN),o1=.nrm u2→K5 ⟨[(1,.ptr 1 l 0 0)],[(1,some<|.box l 24 [qg d1.Nodes])],(i5 0),67⟩:=by
  intro u2 i5 e
  have h2:=Z _ e
  refine c5 _<|aS λK7 c7 a0=>aU<|lF Da DY R R<|xL Co R<|mM R<|aZ<|Zf<|A5 h2 λo2 E a1 a2=>?_
  have J2:∀(u4:Unit) (F:NN),o2=.nrm u4→K7 ⟨[],[],(F 0),67⟩:=by
   intro u4 F e
   have h3:=a1 _ e
   exact c7 _<|zI h3 R id
  refine Zz (λ(x5:Int) i8=>⟨[(1,.ptr 1 l 0 0),(51,qg d1.Nodes),(52,rL d1.Nodes),(53,rI x5)],[(1,some<|.box l 24 [qg d1.Nodes])],(i8 0),67⟩) (AG [(i5 0)]) E wk ?_
  intro x5 i8 v1 a6 I
  have h4:KV d1 x5=some v1:=a6;unfold KV at h4
  refine aU<|xS R<|aZ<|aT λa7=>cI R h4 (λh5=>?_) λh5=>?_
  ·refine Zd<|a7 _<|aT λa8=>Zf<|aU<|Zc h5 λj aa h6=>xI Co R aa<|xB ((BR j)) FI R<|sS R (Zq (cs:=LD) 7 R Ur R R)<|Zk R R (Zi (ds:=(BR j)) R Vj iL R iL R R R R)<|aZ<|aT λab=>Zc h6 λr1 ac h7=>?_
   refine rP 5 [pO 57<|.agg [qg d1.Nodes],pO 58<|.ptr 7 (i8 0) 0 1,pO 59<|rI j.Kind,pO 60<|.agg<|BR j,pO 61<|.r<|.sl<|r1.map<|Ad .i64] A8 R (by exact⟨oB [(1,.ptr 1 l 0 0)] [(1,some<|.box l 24 [qg d1.Nodes])]<|ZQ R Dk (.inl R) R R,oB [(7,.ptr 7 (i8 0) 0 0)] [(7,some<|.box (i8 0) 46<|BR j)]<|fB R Cc (.inl R) (λ_=>R) R,oB [(58,.ptr 7 (i8 0) 0 1)] [(7,some<|.box (i8 0) 46<|BR j)]<|Zg (a:=rI j.Kind) R AI (.inl R) R R,oB [(7,.ptr 7 (i8 0) 0 0)] [(7,some<|.box (i8 0) 46<|BR j)]<|ZQ R FI (.inl R) R R,oD (λ_=>[(60,.agg<|BR j)]) (λ_=>[]) λG1 e h' n=>ZJ (r:=.r<|.sl<|r1.map<|Ad .i64) (caps:=[]) (bs:=(Mm j)) R (.inl R) R ⟨.inl ⟨(.inl R),R⟩,Za⟩ λ_=>kG<|ac,Za⟩) λG1 n1=>?_
   refine Ay [1,7,51,52,53,54,55,56,57,58,59,60,61] [1,7] ?_
   refine Zc h7 λe1 ad h8=>cL (ln<|ad) R<|mA R<|aZ<|ab _<|aT λae=>aG [1,8,51,52,53] [1] ?_
   refine aR<|mM R<|xU R<|aZ<|ae _<|cI R h8 (λh9=>?_) λh9=>?_
   ·exact aU<|mM R<|mA R<|aZ<|Zj<|yI (a2 _<|xH I h9) R
   exact Zd<|a8 _<|aR<|Zc h9 λx8 af ag=>xA R af<|mM R<|Zh<|Zx ag (AG [n1]) wk
  exact Zn<|a0 _ _ wk<|J2 _ (AG [(i8 0)])<|xH I h5
 refine Zz (λ(x2:Int) U=>⟨[(1,.ptr 1 l 0 0),(14,qg d1.Nodes),(15,rL d1.Nodes),(16,rI x2)],[(1,some<|.box l 24 [qg d1.Nodes])],(U 0),67⟩) (AG [(l+1)]) B wk ?_
 intro x2 U v2 ah q
 have J:IR d1 x2=some v2:=ah;unfold IR at J
 refine aU<|xS R<|aZ<|aT λai=>cI R J (λu=>?_) λu=>?_
 ·refine Zd<|ai _<|aT λaj=>Zf<|aU<|mM R<|Zc u λV ak al=>xI Co R ak<|xB ((BR V)) FI R<|sS R (Zq (cs:=LD) 4 R Ur R R)<|mA R<|Zk R R (Zi (ds:=(BR V)) R Vj iL R iL R R R R)<|aZ<|aT λan=>aU<|xC FI R<|Zc al λe2 ao aq=>cL (pc<|ao) R<|mA R<|aZ<|aU<|mM R<|xU R<|aZ<|cI R aq (λw=>?_) λw=>?_
  ·refine aT λar=>aF [5] ?_
   exact aR<|mM R<|mA R<|aZ<|ar _<|Zj<|yI (C _<|xH q w) R
  refine Zd<|an _<|aT λav=>aG [1,3,4,14,15,16] [1,4] ?_
  refine ZA A8 (by kernel_rfl) ?_
  refine qP R (Ze R iL)<|qP R (Zs R iL iL)<|qP R (Ze R iL)<|qO R (fB R Ea iL fR R)<|qO R (Zg (a:=rI V.ID) R AI (iR R) R R)<|qO R (CP R (iR R) iL)<|qP R (ZG R iL<|iR R)<|qP R (Ze R iL)<|qO R (Ze R iL)<|qO R (Zy R (iR R) iL)<|qO R (Ze R<|iR R)<|qT R (fB R Ea iL fR R)<|qT R (Zg (a:=rI V.ID) R AI (iR R) R R)<|qT R (fB R Da iL fR R)<|qT R (Zg (a:=qg d1.Nodes) R DY (iR R) R R)<|qT R (Ze R iL)<|Zc w λb0 M aw=>qT R (Bu R (iR R) iL<|AN M)<|Zc aw λax O ay=>qT R (Zr R Co.slice (iR R) (iR R) (λ_=>R)<|AN O)<|qT R (Zl R Ea<|iR R)<|qT R (ZB (d:=.int .i64 ax.ID) R AI (iR R) R)<|qT R (Ez R (iR R)<|iR R)<|qO R (ZG R (iR R)<|iR R)<|qP R (B1 R iL<|iR R)<|AQ.nil<|av _<|cI R ay (λA=>?_) λA=>?_
  ·exact zI (C _<|xH q A) R id
  exact Zd<|aj _<|aR<|Zc A λb1 T az=>xA R T<|mM R<|Zh<|Zx az (AG [((U 0)+1)]) wk
 exact Zn<|Y _ _ wk<|J1 _ (AG [(U 0)])<|xH q u
theorem pH{d1 i r}(h:PW d1 i=some r):AM prog 95 [.agg [qg d1.Nodes],rI i] (rI r):=by
 unfold PW at h
 refine mF func95 ntmps95 R λA=>aU<|sS R (Zv (cs:=[qg d1.Nodes]) 2 R iL R R)<|mA R<|aZ<|aT λq=>aU<|xC Dk R<|mM R<|Ch h λB C j u=>cL (gJ<|j) R<|mM R<|xX R<|xX R<|mA R<|mA R<|aZ<|aT λw=>aF [5,6] ?_
 refine aR<|mM R<|aZ<|w _<|cI R u (λl=>?_) λl=>?_
 ·exact aU<|mM R<|mA R<|aZ<|Zj<|yI l R
 exact Zd<|q _<|zI l R id
theorem Om{j n r}(h:Gs j n=some r):AM prog 101 [qa j,rS n] (rS r):=by
 unfold Gs at h
 refine mF func101 ntmps101 R λY=>aU<|mA R<|aZ<|aS λZ c2 w=>aU<|mM R<|xL AZ R<|mM R<|aZ<|Zf<|A5 h λo1 l A B=>?_
 have J1:∀(T:Unit) (U:NN),o1=.nrm T→Z ⟨[],[],(U 0),20⟩:=by
  intro T U e
  have h1:=A _ e
  exact c2 _<|aU<|mA R<|aZ<|Zj<|CX (P:=prog) (λ(r:(List UInt8))=>rS r) h1 iL<|.t<|.d R
 refine Zz (λ(C:Int) u=>⟨[(1,rS n),(7,qa j),(8,rL j),(9,rI C)],[],(u 0),20⟩) (AG [Y]) l wk ?_
 intro C u v1 E q
 have V:P8 j n C=some v1:=E;unfold P8 at V
 refine aU<|xS R<|aZ<|aT λc6=>cI R V (λF=>?_) λF=>?_
 ·refine Zd<|c6 _<|aT λc7=>Zf<|aU<|Zc F λX I h4=>xI AZ R I<|xB ((A4 X)) By R<|sS R (Zq (cs:=[.r<|.str [],.r<|.str []]) 6 R Kf R R)<|Zk R R (Zi (ds:=(A4 X)) R I6 iL R iL R R R R)<|aZ<|aU<|lF B0 A2 R R<|mM R<|sQ R (ZI R iL iL)<|aZ<|cI R h4 (λJ=>?_) λJ=>?_
  ·refine aT λM=>aG [6] [6] ?_
   exact aR<|lF Hw A2 R R<|mA R<|aZ<|M _<|Zj<|CX (P:=prog) (λ(r:(List UInt8))=>rS r) (B _<|xH q J) iL<|.t<|.d R
  exact Zd<|c7 _<|aR<|Zc J λx5 O h6=>xA R O<|mM R<|Zh<|Zx h6 (AG [((u 0)+1)]) wk
 exact Zn<|w _ _ wk<|J1 _ (AG [(u 0)])<|xH q F
theorem jY{j m r}(h:PB j m=some r):AM prog 143 [.agg<|Aa j,rI m] (rB r):=by
 unfold PB at h
 exact mF func143 ntmps143 R λF=>aU<|sS R (Zv (cs:=(Aa j)) 2 R iL R R)<|mA R<|aZ<|aU<|lF B9 A1 R R<|Zc h λI l w=>cL (Om<|l) R<|sQ R (ZI R iL iL)<|mM R<|vM R<|vQ R (Zs R (iR R) iL)<|vQ R (Ze R<|iR R)<|wQ R (fB R B9 iL fR R)<|wQ R (Zg (a:=qa j.Attrs) R A1 (iR R) R R)<|Zc w λA q B=>AL.stepW (.two R R R) R R (Du (r:=rS A) (caps:=[]) (bs:=[qa j.Attrs,.r<|.str [99,117,116]]) R iL R ⟨⟨_,(iR R),.d R⟩,⟨_,iL,.d R⟩,Za⟩ (λhg=>Om<|AN q hg) R)<|wQ R (DH R (iR R) iL)<|vQ R (ZG R (iR R)<|iR R)<|xO R<|mM R<|vM R<|vQ R (Zs R (iR R) iL)<|vQ R (Ze R<|iR R)<|wQ R (fB R B9 iL fR R)<|wQ R (Zg (a:=qa j.Attrs) R A1 (iR R) R R)<|Zc B λC u E=>AL.stepW (.two R R R) R R (Du (r:=rS C) (caps:=[]) (bs:=[qa j.Attrs,.r<|.str [97,100,100]]) R iL R ⟨⟨_,(iR R),.d R⟩,⟨_,iL,.d R⟩,Za⟩ (λhg=>Om<|AN u hg) R)<|wQ R (DH R (iR R) iL)<|vQ R (ZG R (iR R)<|iR R)<|xO R<|mA R<|aZ<|Zj<|yB E R
theorem mO{f1 m r}(h:Pt f1 m=some r):AM prog 97 [qb f1,rI m] (.r<|.sl<|r.map<|Ad .i64):=by
 unfold Pt at h
 refine mF func97 ntmps97 R λF=>aU<|mA R<|aZ<|aU<|mA R<|aZ<|aS λK3 c3 J=>aU<|mM R<|xL Ab R<|mM R<|aZ<|Zf<|Ar h λo1 B M=>?_
 have J1:∀(j:List Int) (I:NN),o1=j→K3 ⟨[(5,.own 5005<|I 0)],[(5005,some<|.arr (I 0) 3 1<|j.map<|Ad .i64)],(I 1),37⟩:=by
  intro j I e
  have h1:=M _ e
  exact c3 _<|aU<|mM R<|mA R<|aZ<|Zj<|CX (P:=prog) (λ(r:(List Int))=>.r<|.sl<|r.map<|Ad .i64) h1 iL<|.t<|.one<|.own R
 refine ZL (λ(C:Int) (l:List Int) u=>⟨[(0,qb f1),(1,rI m),(5,.own 5005<|u 0),(8,qb f1),(9,rL f1),(10,rI C)],[(5005,some<|.arr (u 0) 3 1<|l.map<|Ad .i64)],(u 1),37⟩) (AG [F,(F+1)]) B (Zm (Zm (ZR 5 5005 3 1 (by decide) R)<|by exact ZC (e':=[(0,qb f1),(1,rI m),(4,cZ),(5,.own 5005 F),(8,qb f1),(9,rL f1),(10,rI 0)]) (h':=[(5005,some<|.arr F 3 1<|([]:List Int).map<|Ad .i64)]) ⟨jL,jL,jL,jL,jL,jL,jL,Za⟩ ⟨.inl R,Za⟩ nL) wk) ?_
 intro C l u v1 O T
 have h2:L4 f1 m C l=some v1:=O;unfold L4 at h2
 refine aU<|xS R<|aZ<|aT λc7=>cI R h2 (λU=>?_) λU=>?_
 ·refine Zd<|c7 _<|aS λK8 c8 E=>Zf<|Ar U λp1 V X=>?_
  have J2:∀(q:List Int) (A:NN),p1=q→K8 ⟨[(0,qb f1),(1,rI m),(5,.own 5005<|A 0),(8,qb f1),(9,rL f1),(10,rI C)],[(5005,some<|.arr (A 0) 3 1<|q.map<|Ad .i64)],(A 1),37⟩:=by
   intro q A e
   have h4:=X _ e
   exact c8 _<|aR<|Zc h4 λx4 Y h5=>xA R Y<|mM R<|Zh<|ZH h5 (AG [(A 0),(A 1)]) wk
  refine aU<|mM R<|Zc V λZ a0 h6=>xI Ab R a0<|xB ((Aa Z)) CK R<|sS R (Zq (cs:=EC) 7 R ED R R)<|mA R<|Zk R R (Zi (ds:=(Aa Z)) R Cp iL R iL R R R R)<|aZ<|aU<|xC CK R<|mM R<|Zc h6 λr1 a1 h7=>cL (jY<|a1) R<|sQ R (Zu R iL)<|mM R<|vM R<|vM R<|vQ R (Bd R Ab.slice<|iR R)<|Zc h7 λx6 a2 h8=>vQ R (Bu R (iR R) iL<|AN a2)<|vQ R (Zs R (iR R)<|iR R)<|vQ R (Ze R<|iR R)<|wQ R (fB R De iL fR R)<|wQ R (Zg (a:=rI Z.Char) R AI (iR R) R R)<|wQ R (Zs R (iR R) iL)<|vQ R (ZG R (iR R)<|iR R)<|xO R<|aZ<|cI R h8 (λh9=>?_) λh9=>?_
  ·refine aG [0,1,5,6,8,9,10] [5005] ?_
   exact aR<|mM R<|mM R<|sS R (ZK 33 R Bl (f:=(Ad .i64)) (l:=([C]:List Int)) ⟨R,⟨_,iL,R⟩,Za⟩ R (λ_=>R) R)<|Zc h9 λa7 w a6=>sS R (B6 R Bl iL R (.inr<|.inl ⟨_,_,iL,R⟩) w)<|mA R<|Zh<|E _ _ wk<|J2 _ (AG [((u 1)+2),((u 1)+3)]) (Zb a6).symm
  exact Zd<|E _ _ wk<|J2 _ (AG [(u 0),((u 1)+1)]) (Zb h9).symm
 exact Zn<|J _ _ wk<|J1 _ (AG [(u 0),(u 1)])<|xH T U
theorem ex{d1 u b r}(h:KY d1 u b=some r):AM prog 47 [.agg [qg d1.Nodes],.agg<|Aw u,rS b] (.tup [.agg<|A6 r.1,rI r.2]):=by
 unfold KY at h
 refine mF func47 ntmps47 R λn0=>aU<|sS R (Zv (cs:=[qg d1.Nodes]) 3 R iL R R)<|sS R (Zv (cs:=(Aw u)) 4 R iL R R)<|sS R (Zq (cs:=FV) 6 R SE R R)<|mA R<|aZ<|aT λc2=>aU<|xC Dk R<|Zc h λe1 w h1=>cL (jq<|w) R<|mA R<|aZ<|aU<|mM R<|xU R<|aZ<|cI R h1 (λA=>?_) λA=>?_
 ·refine aT λc5=>aG [6,8] [6] ?_
  refine aR ?_
  refine sQ R (ZD R Ng (q:=[]) (by exact Za) (cs:=FV)<|by rfl) ?_
  refine mM R<|Zk R R (Zi (ds:=FV) R H1 iL R iL R R R R)<|mA R<|oZ c5 ?_
  exact Zj<|CB (P:=prog) (λ(r:B2 × Int)=>.agg<|A6 r.1) (λ(r:B2 × Int)=>rI r.2) A iL (.a KS R R R<|.agg<|by exact⟨.closed _ R,.closed _ R,.nil,.nil,.closed _ R,.closed _ R,.nil,.nil,.nil,.nil,.closed _ R,Za⟩)<|.t<|.d R
 refine Zd<|c2 _<|aU<|xC Dk R<|lF KJ AI R R<|Zc A λi1 B h3=>cL (pH<|B) R<|mA R<|aZ<|aT λc7=>aT λc8=>aG [2,3,4,6,9] [3,4,6] ?_
 refine aR<|mM R<|xS R<|aZ<|c8 _<|cI R h3 (λC=>?_) λC=>?_
 ·refine aT λc9=>aR ?_
  refine sQ R (ZD R Ng (q:=[]) (by exact Za) (cs:=FV)<|by rfl) ?_
  refine Zk R R (Zi (ds:=FV) R H1 iL R iL R R R R)<|mA R<|oZ c9 ?_
  exact Zj<|CB (P:=prog) (λ(r:B2 × Int)=>.agg<|A6 r.1) (λ(r:B2 × Int)=>rI r.2) C iL (.a KS R R R<|.agg<|by exact⟨.closed _ R,.closed _ R,.nil,.nil,.closed _ R,.closed _ R,.nil,.nil,.nil,.nil,.closed _ R,Za⟩)<|.t<|.d R
 refine Zd<|c7 _<|aT λE=>aR<|lF Da DY R R<|mM R<|Zc C λj F h5=>xI Co R F<|xB ((BR j)) FI R<|mM R ?_
 refine sQ R (ZD R Ng (q:=[(0,_),(10,_)]) (by exact⟨R,R,R,iL,R,R,R,iL,Za⟩) (cs:=[rI j.ID,rI j.Kind,qa j.Attrs,qb j.Flow,rI j.Grid.Rows,rI j.Grid.Cols,qe j.Grid.Cells,qc j.Grid.Merges,qf j.Draw,cZ,rS b])<|by rfl) ?_
 refine sS R (Zq (cs:=FV) 10 R SE R R)<|Zk R R (Zi (ds:=[rI j.ID,rI j.Kind,qa j.Attrs,qb j.Flow,rI j.Grid.Rows,rI j.Grid.Cols,qe j.Grid.Cells,qc j.Grid.Merges,qf j.Draw,cZ,rS b]) R H1 iL R iL R R R R)<|aZ<|E _<|aT λI=>aT λJ=>aG [2,4,6,10] [4,6,10] ?_
 refine aR<|sQ R (fB R Rp iL fR R)<|lF Cc AI R R<|Zc h5 λr1 M h6=>cL (YA<|M) R<|sQ R (Zu R iL)<|aZ<|J _<|cI R h6 (λO=>?_) λO=>?_
 ·refine aT λT=>aR ?_
  refine sQ R (ZD R Ng (q:=[]) (by exact Za) (cs:=FV)<|by rfl) ?_
  refine Zk R R (Zi (ds:=FV) R H1 iL R iL R R R R)<|mA R<|oZ T ?_
  exact Zj<|CB (P:=prog) (λ(r:B2 × Int)=>.agg<|A6 r.1) (λ(r:B2 × Int)=>rI r.2) O iL (.a KS R R R<|.agg<|by exact⟨.closed _ R,.closed _ R,.nil,.nil,.closed _ R,.closed _ R,.nil,.nil,.nil,.nil,.closed _ R,Za⟩)<|.t<|.d R
 refine Zd<|I _<|aU<|sQ R (fB R Rp iL fR R)<|lF EW Br R R<|Zc O λq U h8=>sS R (ZJ (r:=.r<|.sl<|q.map<|Ad .i64) (caps:=[]) (bs:=[qb j.Flow,rI 0]) R iL R ⟨.inl ⟨iL,R⟩,.inl ⟨iL,R⟩,Za⟩ λ_=>mO<|U)<|sQ R (fB R Nd iL fR R)<|Zk R R (Zi (ds:=[rI j.ID,rI j.Kind,qa j.Attrs,qb j.Flow,rI j.Grid.Rows,rI j.Grid.Cols,qe j.Grid.Cells,qc j.Grid.Merges,qf j.Draw,.r<|.sl<|q.map<|Ad .i64,rS b]) R rt iL R iL R R R R)<|aZ<|aT λV=>aT λX=>aG [2,4,6,10] [4,6,10] ?_
 refine aR<|lF Gi AI R R<|xS R<|mM R<|vF Jb AI R R<|vF Gi AI R R<|vQ R (Bp R (iR R)<|iR R)<|xO R<|mM R<|vF Jb AI R R<|vF Nd Ph R R<|vQ R (Bd R Bl.slice<|iR R)<|vQ R (Ca R (iR R)<|iR R)<|xO R<|aZ<|X _<|cI R h8 (λY=>?_) λY=>?_
 ·refine aT λZ=>aG [6] [6] ?_
  refine aR ?_
  refine sQ R (ZD R Ng (q:=[]) (by exact Za) (cs:=FV)<|by rfl) ?_
  refine Zk R R (Zi (ds:=FV) R H1 iL R iL R R R R)<|mA R<|oZ Z ?_
  exact Zj<|CB (P:=prog) (λ(r:B2 × Int)=>.agg<|A6 r.1) (λ(r:B2 × Int)=>rI r.2) Y iL (.a KS R R R<|.agg<|by exact⟨.closed _ R,.closed _ R,.nil,.nil,.closed _ R,.closed _ R,.nil,.nil,.nil,.nil,.closed _ R,Za⟩)<|.t<|.d R
 refine Zd<|V _<|aT λa0=>aT λa1=>aG [2,6,10] [6,10] ?_
 refine aR<|mM R<|sQ R (DH R iL iL)<|mM R<|vM R<|Zc Y λr3 a2 a6=>vL (λhg=>Wm<|AN a2 hg) R<|vQ R (Zu R<|iR R)<|xN R<|aZ<|a1 _<|cI R a6 (λl=>?_) λl=>?_
 ·refine aT λa7=>aG [6] [6] ?_
  refine aR ?_
  refine sQ R (ZD R Ng (q:=[]) (by exact Za) (cs:=FV)<|by rfl) ?_
  refine Zk R R (Zi (ds:=FV) R H1 iL R iL R R R R)<|mA R<|oZ a7 ?_
  exact Zj<|CB (P:=prog) (λ(r:B2 × Int)=>.agg<|A6 r.1) (λ(r:B2 × Int)=>rI r.2) l iL (.a KS R R R<|.agg<|by exact⟨.closed _ R,.closed _ R,.nil,.nil,.closed _ R,.closed _ R,.nil,.nil,.nil,.nil,.closed _ R,Za⟩)<|.t<|.d R
 exact Zd<|a0 _<|aU<|xC KS R<|Zk R R (Zi (ds:=[rI j.ID,rI j.Kind,qa j.Attrs,qb j.Flow,rI j.Grid.Rows,rI j.Grid.Cols,qe j.Grid.Cells,qc j.Grid.Merges,qf j.Draw,.r<|.sl<|q.map<|Ad .i64,rS b]) R H1 iL R iL R R R R)<|mA R<|aZ<|Zj<|CB (P:=prog) (λ(r:B2 × Int)=>.agg<|A6 r.1) (λ(r:B2 × Int)=>rI r.2) l iL (.a KS R R R<|.g (cs:=[.int .i64 j.ID,.int .i64 j.Kind,.sl<|j.Attrs.map AD.row,.sl<|j.Flow.map AC.row,.int .i64 j.Grid.Rows,.int .i64 j.Grid.Cols,.sl<|j.Grid.Cells.map Aq.row,.sl<|j.Grid.Merges.map An.row,.sl<|j.Draw.map BB.row,.sl<|q.map<|Ad .i64,.str b]) R R)<|.t<|.d R
theorem sj{d1 j r}(h:Qu d1 j=some r):AM prog 9 [.agg [qg d1.Nodes],.agg<|Aw j] (rI r):=by
 unfold Qu at h
 refine mF func9 ntmps9 R λB=>aU<|sS R (Zv (cs:=[qg d1.Nodes]) 2 R iL R R)<|sS R (Zv (cs:=(Aw j)) 3 R iL R R)<|mA R<|aZ<|aU<|xC Dk R<|xC Df R<|Ch h λq u l w=>sS R (ZJ (r:=.tup [.agg<|A6 q,rI u]) (caps:=[]) (bs:=[.agg [qg d1.Nodes],.agg<|Aw j,.r<|.str []]) R iL R ⟨.inl ⟨iL,R⟩,.inl ⟨iL,R⟩,.inl ⟨iL,R⟩,Za⟩ λ_=>ex<|l)<|mM R<|xX R<|xX R<|sS R (Zq (cs:=FV) 5 R SE R R)<|Zk R R (Zi (ds:=(A6 q)) R H1 iL R iL R R R R)<|mA R<|aZ<|aT λA=>aF [6] ?_
 exact aR<|mM R<|mA R<|aZ<|A _<|Zj<|yI w R
theorem C3{j l a r}(h:CV j l a=some r):AM prog 32 [rI j,rI l,rI a] (rB r):=by
 unfold CV at h
 exact mF func32 ntmps32 R λq=>aU<|mA R<|aZ<|aU<|mM R<|mM R<|sQ R (Ca R iL iL)<|mM R<|vM R<|vM R<|vQ R (Ez R (iR R)<|iR R)<|xN R<|mA R<|aZ<|Zj<|yB h R
theorem aA{l r}(h:Mt l=some r):AM prog 76 [rS l] (rB r):=by
 unfold Mt at h
 refine mF func76 ntmps76 R λX=>aU<|mA R<|aZ<|aS λY Z A=>aU<|mM R<|sQ R (ZO R underlying9 iL)<|mM R<|aZ<|Zf<|A5 h λo1 q B C=>?_
 have J1:∀(T:Unit) (U:NN),o1=.nrm T→Y ⟨[(0,rS l)],[],(U 0),59⟩:=by
  intro T U e
  have h1:=B _ e
  exact Z _<|aU<|mM R<|sQ R (ZO R underlying9 iL)<|sQ R (Ca R iL iL)<|mM R<|vM R<|vQ R (ZO R underlying9<|iR R)<|vQ R (Ez R (iR R) iL)<|xN R<|mA R<|aZ<|Zj<|yB h1 R
 refine Zz (λ(E:Int) w=>⟨[(0,rS l),(6,rL l),(7,rI E)],[],(w 0),59⟩) (AG [X]) q wk ?_
 intro E w v1 F u
 have V:Ns l E=some v1:=F;unfold Ns at V
 refine aU<|xS R<|aZ<|aT λc6=>cI R V (λI=>?_) λI=>?_
 ·refine Zd<|c6 _<|aT λc7=>Zf<|aU<|mM R<|mA R<|aZ<|aU<|mM R<|mM R<|Zc I λa0 j h4=>sQ R (ZP R underlying9 iL iL λ_=>j)<|sQ R (Ca R iL iL)<|mM R<|vM R<|vM R<|vQ R (ZP R underlying9 (iR R) (iR R) λ_=>j)<|vQ R (Ez R (iR R) iL)<|xN R<|mA R<|aZ<|aT λJ=>aR<|mM R<|sQ R (Zu R iL)<|mM R<|vM R<|vQ R (Zs R (iR R) iL)<|vQ R (Ze R<|iR R)<|wQ R (Ze R iL)<|wQ R (Ze R iL)<|wQ R (ZP R underlying9 (iR R) (iR R) λ_=>j)<|wQ R (CP R (iR R) iL)<|wQ R (Ze R<|iR R)<|wQ R (Ze R iL)<|wQ R (Ze R iL)<|wQ R (ZP R underlying9 (iR R) (iR R) λ_=>j)<|wQ R (CP R (iR R) iL)<|wQ R (ZG R (iR R)<|iR R)<|wQ R (Ze R<|iR R)<|wQ R (Ze R iL)<|wQ R (Ze R iL)<|wQ R (ZP R underlying9 (iR R) (iR R) λ_=>j)<|wQ R (Bp R (iR R) iL)<|wQ R (Ze R<|iR R)<|wQ R (Ze R iL)<|wQ R (Ze R iL)<|wQ R (ZP R underlying9 (iR R) (iR R) λ_=>j)<|wQ R (Zy R (iR R) iL)<|wQ R (B1 R (iR R)<|iR R)<|wQ R (ZG R (iR R)<|iR R)<|vQ R (B1 R (iR R)<|iR R)<|xN R<|aZ<|J _<|cI R h4 (λM=>?_) λM=>?_
  ·exact zB (C _<|xH u M) R id
  refine Zd<|c7 _<|aF [0,6,7] ?_
  exact aR<|Zc M λx4 O h6=>xA R O<|mM R<|Zh<|Zx h6 (AG [(w 0)]) wk
 exact Zn<|A _ _ wk<|J1 _ (AG [(w 0)])<|xH u I
theorem Wd{l r}(h:Kj l=some r):AM prog 53 [rS l] (rB r):=by
 unfold Kj at h
 refine mF func53 ntmps53 R λV=>aU<|mA R<|aZ<|aS λX Y A=>aU<|mM R<|sQ R (ZO R underlying9 iL)<|mM R<|aZ<|Zf<|A5 h λZ q B C=>?_
 have J1:∀(O:Unit) (T:NN),Z=.nrm O→X ⟨[(0,rS l)],[],(T 0),28⟩:=by
  intro O T e
  have h1:=B _ e
  exact Y _<|aU<|mM R<|sQ R (ZO R underlying9 iL)<|sQ R (Ca R iL iL)<|mM R<|vM R<|vQ R (ZO R underlying9<|iR R)<|vQ R (Ez R (iR R) iL)<|xN R<|mA R<|aZ<|Zj<|yB h1 R
 refine Zz (λ(E:Int) w=>⟨[(0,rS l),(5,rL l),(6,rI E)],[],(w 0),28⟩) (AG [V]) q wk ?_
 intro E w v1 F u
 have U:Oe l E=some v1:=F;unfold Oe at U
 refine aU<|xS R<|aZ<|aT λc6=>cI R U (λI=>?_) λI=>?_
 ·refine Zd<|c6 _<|aT λc7=>Zf<|aU<|mM R<|mA R<|aZ<|aU<|mM R<|mM R<|Zc I λa0 j h4=>sQ R (ZP R underlying9 iL iL λ_=>j)<|xS R<|mM R<|vM R<|vM R<|vQ R (ZP R underlying9 (iR R) (iR R) λ_=>j)<|vQ R (Zy R (iR R) iL)<|xO R<|aZ<|cI R h4 (λJ=>?_) λJ=>?_
  ·exact zB (C _<|xH u J) R id
  refine Zd<|c7 _<|aF [0,5,6] ?_
  exact aR<|Zc J λx4 M h6=>xA R M<|mM R<|Zh<|Zx h6 (AG [(w 0)]) wk
 exact Zn<|A _ _ wk<|J1 _ (AG [(w 0)])<|xH u I
theorem KE{w c r}(h:Gn w c=some r):AM prog 26 [qa w,rB c] (rI r):=by
 unfold Gn at h
 refine mF func26 ntmps26 R λn0=>aU<|mA R<|aZ<|aS λK2 c2 E=>aU<|mM R<|xL AZ R<|mM R<|aZ<|Zf<|A5 h λo1 A F q=>?_
 have J1:∀(u2:Unit) (i5:NN),o1=.nrm u2→K2 ⟨[],[],(i5 0),54⟩:=by
  intro u2 i5 e
  have h1:=F _ e
  exact c2 _<|zI h1 R id
 refine Zz (λ(I:Int) B=>⟨[(0,qa w),(1,rB c),(7,rL w),(8,rI I)],[],(B 0),54⟩) (AG [n0]) A wk ?_
 intro I B v1 J j
 have h2:L7 w c I=some v1:=J;unfold L7 at h2
 refine aU<|xS R<|aZ<|aT λc6=>cI R h2 (λM=>?_) λM=>?_
 ·refine Zd<|c6 _<|aT λc7=>Zf<|aU<|mM R<|mA R<|aZ<|aT λc9=>aU<|mM R<|mM R<|Zc M λC l h4=>xI AZ R l<|sQ R (Zl R B0 iL)<|xV (.str C.Name) A2 R<|Zc h4 λr1 O h5=>cL (aA<|O) R<|sQ R (Zu R iL)<|aZ<|cI R h5 (λT=>?_) λT=>?_
  ·exact zI (q _<|xH j T) R id
  refine Zd<|c9 _<|aT λU=>aT λV=>aF [0,1,5,7,8] ?_
  refine aR<|mM R<|mM R<|xI AZ R l<|sQ R (Zl R Hw iL)<|xV (.str C.Value) A2 R<|Zc T λr2 X h7=>cL (Wd<|X) R<|sQ R (Zu R iL)<|mM R<|vM R<|vM R<|vQ R (Zr R AZ.slice (iR R) (iR R) (λ_=>R) λ_=>l)<|vQ R (Zl R Hw<|iR R)<|vQ R (ZB (d:=.str C.Value) R A2 (iR R) R)<|vQ R (DH R (iR R) iL)<|vQ R (Ze R<|iR R)<|wQ R (Ze R iL)<|wQ R (Zu R<|iR R)<|vQ R (B1 R (iR R)<|iR R)<|xN R<|aZ<|V _<|cI R h7 (λY=>?_) λY=>?_
  ·exact zI (q _<|xH j Y) R id
  refine Zd<|U _<|aT λZ=>aF [0,1,5,7,8] ?_
  refine ZA A8 (by kernel_rfl) ?_
  refine qP R (Ze R iL)<|qP R (Zy R iL iL)<|qP R (Ze R iL)<|qO R (Ze R iL)<|qO R (Ze R iL)<|Zc Y λx5 a0 h9=>qO R (Bu R (iR R) iL<|AN a0)<|Zc h9 λx6 a1 a2=>qO R (Zr R AZ.slice (iR R) (iR R) (λ_=>R)<|AN a1)<|qO R (Zl R B0<|iR R)<|qO R (ZB (d:=.str x6.Name) R A2 (iR R) R)<|qO R (Ze R iL)<|qO R (Ze R iL)<|qO R (Zr R AZ.slice (iR R) (iR R) (λ_=>R) λ_=>l)<|qO R (Zl R B0<|iR R)<|qO R (ZB (d:=.str C.Name) R A2 (iR R) R)<|qO R (Wj R (iR R)<|iR R)<|qP R (ZG R iL<|iR R)<|AQ.nil<|Z _<|cI R a2 (λu=>?_) λu=>?_
  ·exact zI (q _<|xH j u) R id
  exact Zd<|c7 _<|aR<|Zc u λx7 a6 a7=>xA R a6<|mM R<|Zh<|Zx a7 (AG [(B 0)]) wk
 exact Zn<|E _ _ wk<|J1 _ (AG [(B 0)])<|xH j M
theorem Ru{k r}(h:KP k=some r):AM prog 48 [rI k] (rB r):=by
 unfold KP at h
 exact mF func48 ntmps48 R λj=>aU<|mA R<|aZ<|aU<|mM R<|xQ R<|mM R<|vM R<|vQ R (Zs R (iR R) iL)<|xO R<|mM R<|vM R<|vQ R (Zs R (iR R) iL)<|xO R<|mM R<|vM R<|vQ R (Zs R (iR R) iL)<|xO R<|mA R<|aZ<|Zj<|yB h R
theorem lV{k r}(h:UP k=some r):AM prog 121 [rI k] (rB r):=by
 unfold UP at h
 exact mF func121 ntmps121 R λj=>aU<|mA R<|aZ<|aU<|mM R<|xQ R<|mM R<|vM R<|vQ R (Zs R (iR R) iL)<|xO R<|mA R<|aZ<|Zj<|yB h R
theorem kY{j r}(h:PZ j=some r):AM prog 122 (X5 j) (rB r):=by
 unfold PZ at h
 exact mF func122 ntmps122 R λl=>aU<|sS R (Zv (cs:=(Cz j)) 1 R iL R R)<|mA R<|aZ<|aU<|lF GR AI R R<|xQ R<|mM R<|vF GD AI R R<|vQ R (Zs R (iR R) iL)<|xN R<|mM R<|vF Fq Eb R R<|vQ R (Bd R CT.slice<|iR R)<|vQ R (Zs R (iR R) iL)<|xN R<|mM R<|vF FO Ct R R<|vQ R (Bd R CU.slice<|iR R)<|vQ R (Zs R (iR R) iL)<|xN R<|mA R<|aZ<|Zj<|yB h R
theorem fw{k r}(h:RF k=some r):AM prog 41 [rI k] (rB r):=by
 unfold RF at h
 exact mF func41 ntmps41 R λj=>aU<|mA R<|aZ<|aU<|mM R<|xQ R<|mM R<|vM R<|vQ R (Zs R (iR R) iL)<|xO R<|mA R<|aZ<|Zj<|yB h R
theorem qK{k r}(h:Tn k=some r):AM prog 123 [rI k] (rB r):=by
 unfold Tn at h
 exact mF func123 ntmps123 R λj=>aU<|mA R<|aZ<|aU<|mM R<|xQ R<|mM R<|vM R<|vQ R (Zs R (iR R) iL)<|xO R<|mM R<|vM R<|vQ R (Zs R (iR R) iL)<|xO R<|mA R<|aZ<|Zj<|yB h R
theorem UI{u r}(h:JU u=some r):AM prog 55 [rI u] (rB r):=by
 unfold JU at h
 exact mF func55 ntmps55 R λC=>aU<|mA R<|aZ<|aU<|mM R<|xQ R<|mM R<|vM R<|vQ R (Zs R (iR R) iL)<|xO R<|mM R<|vM R<|Zc h λE j w=>vL (λhg=>C3<|AN j hg) R<|xO R<|mM R<|vM R<|Zc w λF l A=>vL (λhg=>C3<|AN l hg) R<|xO R<|mM R<|vM R<|Zc A λI q B=>vL (λhg=>C3<|AN q hg) R<|xO R<|mA R<|aZ<|Zj<|yB B R
theorem ed{j r}(h:MZ j=some r):AM prog 70 (gA j) (rI r):=by
 unfold MZ at h
 refine mF func70 ntmps70 R λT=>aU<|sS R (Zv (cs:=(Aa j)) 1 R iL R R)<|mA R<|aZ<|aT λB=>aU<|lF De AI R R<|xQ R<|mM R<|vF D2 AI R R<|vQ R (Zs R (iR R) iL)<|xN R<|mM R<|vF De AI R R<|vQ R (CP R (iR R) iL)<|vQ R (Ze R<|iR R)<|wQ R (fB R D2 iL fR R)<|wQ R (Zg (a:=rI j.Ref) R AI (iR R) R R)<|wQ R (CP R (iR R) iL)<|vQ R (ZG R (iR R)<|iR R)<|xO R<|aZ<|cI R h (λl=>?_) λl=>?_
 ·exact zI l R id
 refine Zd<|B _<|aT λC=>aT λE=>aG [1] [1] ?_
 refine aR<|lF De AI R R<|xU R<|mM R<|vF De AI R R<|Zc l λU q F=>vL (λhg=>UI<|AN q hg) R<|vQ R (Zu R<|iR R)<|xN R<|mM R<|vF D2 AI R R<|vQ R (CP R (iR R) iL)<|vQ R (Ze R<|iR R)<|wQ R (fB R D2 iL fR R)<|wQ R (Zg (a:=rI j.Ref) R AI (iR R) R R)<|Zc F λI u J=>AL.stepW (.two R R R) R R (Du (r:=rB I) (caps:=[]) (bs:=[rI j.Ref,rI 1,rI 1073741824]) R iL R ⟨⟨_,(iR R),.d R⟩,⟨_,iL,.d R⟩,⟨_,iL,.d R⟩,Za⟩ (λhg=>C3<|AN u hg) R)<|wQ R (Zu R<|iR R)<|vQ R (ZG R (iR R)<|iR R)<|xO R<|aZ<|E _<|cI R J (λw=>?_) λw=>?_
 ·exact zI w R id
 refine Zd<|C _<|aT λM=>aG [1] [1] ?_
 exact aR<|lF B9 A1 R R<|Zc w λV A O=>cL (KE<|A) R<|mA R<|aZ<|M _<|Zj<|yI O R
theorem nt{f1 a r}(h:JM f1 a=some r):AM prog 124 [qb f1,rB a] (rI r):=by
 unfold JM at h
 refine mF func124 ntmps124 R λn0=>aU<|mA R<|aZ<|aS λK2 c2 B=>aU<|mM R<|xL Ab R<|mM R<|aZ<|Zf<|A5 h λo1 q C u=>?_
 have J1:∀(u2:Unit) (i5:NN),o1=.nrm u2→K2 ⟨[(0,qb f1),(1,rB a)],[],(i5 0),47⟩:=by
  intro u2 i5 e
  have h1:=C _ e
  refine c2 _<|aT λc4=>aU<|mM R<|mM R<|vM R<|vQ R (Bd R Ab.slice<|iR R)<|vQ R (Zs R (iR R) iL)<|vQ R (Ze R<|iR R)<|wQ R (Ze R iL)<|wQ R (Ze R iL)<|wQ R (Bd R Ab.slice<|iR R)<|Zc h1 λx4 E h2=>wQ R (Bu R (iR R) iL<|AN E)<|Zc h2 λx5 F h3=>wQ R (Zr R Ab.slice (iR R) (iR R) (λ_=>R)<|AN F)<|wQ R (Zl R De<|iR R)<|wQ R (ZB (d:=.int .i64 x5.Char) R AI (iR R) R)<|wQ R (CP R (iR R) iL)<|vQ R (B1 R (iR R)<|iR R)<|xN R<|aZ<|cI R h3 (λI=>?_) λI=>?_
  ·exact zI I R id
  exact Zd<|c4 _<|zI I R id
 refine Zz (λ(J:Int) A=>⟨[(0,qb f1),(1,rB a),(8,rL f1),(9,rI J)],[],(A 0),47⟩) (AG [n0]) q wk ?_
 intro J A v1 M j
 have h5:Kc f1 a J=some v1:=M;unfold Kc at h5
 refine aU<|xS R<|aZ<|aT λc9=>cI R h5 (λO=>?_) λO=>?_
 ·refine Zd<|c9 _<|aT λT=>Zf<|aU<|mM R<|mA R<|aZ<|aT λU=>aU<|mM R<|mM R<|Zc O λx6 w h7=>xI Ab R w<|xB ((Aa x6)) CK R<|Zc h7 λe1 V h8=>cL (ed<|V) R<|mA R<|aZ<|aU<|mM R<|xU R<|aZ<|cI R h8 (λX=>?_) λX=>?_
  ·refine aT λY=>aF [6] ?_
   exact aR<|mM R<|mA R<|aZ<|Y _<|Zj<|yI (u _<|xH j X) R
  refine Zd<|U _<|aT λZ=>aF [0,1,5,8,9] ?_
  refine aR<|mM R<|sQ R (Zu R iL)<|mM R<|vM R<|vM R<|vQ R (Zr R Ab.slice (iR R) (iR R) (λ_=>R) λ_=>w)<|vQ R (Zl R De<|iR R)<|vQ R (ZB (d:=.int .i64 x6.Char) R AI (iR R) R)<|vQ R (CP R (iR R) iL)<|xN R<|aZ<|Z _<|cI R X (λl=>?_) λl=>?_
  ·exact zI (u _<|xH j l) R id
  exact Zd<|T _<|aR<|Zc l λx7 a0 a1=>xA R a0<|mM R<|Zh<|Zx a1 (AG [(A 0)]) wk
 exact Zn<|B _ _ wk<|J1 _ (AG [(A 0)])<|xH j O
theorem tE{j r}(h:Rg j=some r):AM prog 215 [rS j] (rB r):=by
 unfold Rg at h
 exact vm oO R R R ⟨_,func215,R,R⟩ h
theorem jd{l r}(h:QS l=some r):AM prog 190 [rS l] (rB r):=by
 unfold QS at h
 refine mF func190 ntmps190 R λE=>aU<|mA R<|aZ<|aT λc2=>aU<|mM R<|Zc h λr1 F h1=>cL (tE<|F) R<|sQ R (Zu R iL)<|aZ<|cI R h1 (λI=>?_) λI=>?_
 ·exact zB I R id
 refine Zd<|c2 _<|aS λK5 c5 J=>aU<|mM R<|sS R (pm 9 R underlying9 iL)<|aZ<|Zf<|A5 I λo1 q M O=>?_
 have J1:∀(Z:Unit) (i5:NN),o1=.nrm Z→K5 ⟨[],[],(i5 0),21⟩:=by
  intro Z i5 e
  have h3:=M _ e
  exact c5 _<|zB h3 R id
 refine Zz (λ(B:(Nat)) C=>⟨[(9,.ptr 9 E 0 0)],[(9,some<|.it E l B)],(C 0),21⟩) (AG [(E+1)]) q wk ?_
 intro B C v1 T u
 have U:FW l B=some v1:=T;unfold FW at U
 refine aT λc8=>AW.split (decide<|B<l.length) (λj=>?_) λj=>?_
 ·have V:=Ba j U
  refine aR<|sS R (oI R iL R λ_=>j)<|xX R<|aZ<|c8 _<|aT λc9=>aC R (λw=>?_) λw=>by cases w
  refine Zd<|c9 _<|Zf<|aU<|xX R<|mA R<|aZ<|aU<|mM R<|xQ R<|mM R<|vM R<|vQ R (ZF R underlying21 underlying3<|iR R)<|Zc V λr2 X h6=>vL (λhg=>UI<|AN X hg) R<|vQ R (Zu R<|iR R)<|xO R<|aZ<|cI R h6 (λY=>?_) λY=>?_
  ·exact zB (O _<|xH u Y) R id
  exact Zd<|Zx Y (AG [(C 0)]) wk
 ·have V:=Be j U
  exact aR<|sS R (tH R iL R λ_=>j)<|xX R<|aZ<|c8 _<|aT λa0=>aC R (λA=>by cases A) λA=>Zn<|J _ _ wk<|J1 _ (AG [(C 0)])<|xH u V
theorem sO{j r}(h:O0 j=some r):AM prog 191 (hM j) (rB r):=by
 unfold O0 at h
 exact mF func191 ntmps191 R λl=>aU<|sS R (Zv (cs:=(Bs j)) 1 R iL R R)<|mA R<|aZ<|aU<|lF HN A2 R R<|sQ R (ZI R iL iL)<|mM R<|vF E8 AI R R<|vQ R (Zs R (iR R) iL)<|xN R<|mM R<|vF HY A1 R R<|vQ R (Bd R AZ.slice<|iR R)<|vQ R (Zs R (iR R) iL)<|xN R<|mA R<|aZ<|Zj<|yB h R
theorem YO{C b c n r}(h:M8 C b c n=some r):AM prog 160 [qe C,rI b,rI c,rB n] (rI r):=by
 unfold M8 at h
 refine mF func160 ntmps160 R λn0=>aU<|mA R<|aZ<|aS λK2 c2 U=>aU<|mM R<|xL CT R<|mM R<|aZ<|Zf<|A5 h λo1 E V l=>?_
 have J1:∀(u2:Unit) (i5:NN),o1=.nrm u2→K2 ⟨[],[],(i5 0),93⟩:=by
  intro u2 i5 e
  have h1:=V _ e
  exact c2 _<|zI h1 R id
 refine Zz (λ(X:Int) T=>⟨[(0,qe C),(1,rI b),(2,rI c),(3,rB n),(13,rL C),(14,rI X)],[],(T 0),93⟩) (AG [n0]) E wk ?_
 intro X T v1 Y j
 have h2:N7 C b c n X=some v1:=Y;unfold N7 at h2
 refine aU<|xS R<|aZ<|aT λc6=>cI R h2 (λZ=>?_) λZ=>?_
 ·refine Zd<|c6 _<|aT λc7=>Zf<|aU<|mM R<|mA R<|aZ<|aU<|mM R<|mM R<|Zc Z λF a0 h4=>xI CT R a0<|xB ((Bs F)) FP R<|sS R (Zq (cs:=NI) 10 R NC R R)<|Zk R R (Zi (ds:=(Bs F)) R MK iL R iL R R R R)<|aZ<|aT λa1=>aT λa2=>aR<|lF Fl AI R R<|mM R<|Zc h4 λx5 a6 h5=>sQ R (Bu R iL iL λ_=>a6)<|Zc h5 λr1 a7 h6=>cL (C3<|a7) R<|sQ R (Zu R iL)<|mM R<|vF Gd AI R R<|vM R<|Zc h6 λx6 a8 h7=>vQ R (Bu R (iR R) iL<|AN a8)<|Zc h7 λr2 aa h8=>vL (λhg=>C3<|AN aa hg) R<|vQ R (Zu R<|iR R)<|xO R<|mM R<|vF E8 AI R R<|Zc h8 λr3 ab h9=>vL (λhg=>C3<|AN ab hg) R<|vQ R (Zu R<|iR R)<|xO R<|aZ<|a2 _<|cI R h9 (λq=>?_) λq=>?_
  ·exact zI (l _<|xH j q) R id
  refine Zd<|a1 _<|aT λac=>aT λad=>aG [0,1,2,3,9,10,13,14] [10] ?_
  refine aR<|lF HN A2 R R<|Zc q λr4 ae af=>cL (jd<|ae) R<|sQ R (Zu R iL)<|aZ<|ad _<|cI R af (λu=>?_) λu=>?_
  ·exact zI (l _<|xH j u) R id
  refine Zd<|ac _<|aT λag=>aU<|lF HY A1 R R<|Zc u λe1 ah ai=>cL (KE<|ah) R<|mA R<|aZ<|aU<|mM R<|xU R<|aZ<|cI R ai (λw=>?_) λw=>?_
  ·refine aT λaj=>aF [11] ?_
   exact aR<|mM R<|mA R<|aZ<|aj _<|Zj<|yI (l _<|xH j w) R
  refine Zd<|ag _<|aT λak=>aT λal=>aG [0,1,2,3,9,10,13,14] [10] ?_
  refine aR<|mM R<|sQ R (Zu R iL)<|mM R<|vQ R (ZQ R FP iL R R)<|Zc w λr5 an ao=>vL (λhg=>sO<|AN an hg) R<|xN R<|aZ<|al _<|cI R ao (λA=>?_) λA=>?_
  ·exact zI (l _<|xH j A) R id
  refine Zd<|ak _<|aT λaq=>?_
  refine ZA A8 (by kernel_rfl) ?_
  refine qP R (Ze R iL)<|qP R (Zy R iL iL)<|qP R (Ze R iL)<|qO R (fB R Fl iL fR R)<|qO R (Zg (a:=rI F.Row) R AI (iR R) R R)<|qO R (Ze R iL)<|qO R (Ze R iL)<|Zc A λx7 I ar=>qO R (Bu R (iR R) iL<|AN I)<|Zc ar λx8 J av=>qO R (Zr R CT.slice (iR R) (iR R) (λ_=>R)<|AN J)<|qO R (Zl R Fl<|iR R)<|qO R (ZB (d:=.int .i64 x8.Row) R AI (iR R) R)<|qO R (Bp R (iR R)<|iR R)<|qO R (Ze R<|iR R)<|qT R (fB R Fl iL fR R)<|qT R (Zg (a:=rI F.Row) R AI (iR R) R R)<|qT R (Ze R iL)<|qT R (Ze R iL)<|qT R (Bu R (iR R) iL λh=>AN I (zC.1 h).1)<|qT R (Zr R CT.slice (iR R) (iR R) (λ_=>R) λh=>AN J (zC.1 h).1)<|qT R (Zl R Fl<|iR R)<|qT R (ZB (d:=.int .i64 x8.Row) R AI (iR R) R)<|qT R (Zs R (iR R)<|iR R)<|qT R (Ze R<|iR R)<|qT R (fB R Gd iL fR R)<|qT R (Zg (a:=rI F.Col) R AI (iR R) R R)<|qT R (Ze R iL)<|qT R (Ze R iL)<|Zc av λx9 aw ax=>qT R (Bu R (iR R) iL<|AN aw)<|Zc ax λay M az=>qT R (Zr R CT.slice (iR R) (iR R) (λ_=>R)<|AN M)<|qT R (Zl R Gd<|iR R)<|qT R (ZB (d:=.int .i64 ay.Col) R AI (iR R) R)<|qT R (Ez R (iR R)<|iR R)<|qT R (ZG R (iR R)<|iR R)<|qO R (B1 R (iR R)<|iR R)<|qP R (ZG R iL<|iR R)<|AQ.nil<|aq _<|cI R az (λB=>?_) λB=>?_
  ·exact zI (l _<|xH j B) R id
  refine Zd<|c7 _<|aF [0,1,2,3,13,14] ?_
  exact aR<|Zc B λb1 O b0=>xA R O<|mM R<|Zh<|Zx b0 (AG [((T 0)+1)]) wk
 exact Zn<|U _ _ wk<|J1 _ (AG [(T 0)])<|xH j Z
theorem Uh{j a c r}(h:LA j a c=some r):AM prog 161 [.agg<|BJ j,rI a,rI c] (rB r):=by
 unfold LA at h
 exact mF func161 ntmps161 R λY=>aU<|sS R (Zv (cs:=(BJ j)) 3 R iL R R)<|mA R<|aZ<|aT λF=>aR<|lF Dn AI R R<|mM R<|Zc h λZ l I=>sQ R (Bu R iL iL λ_=>l)<|Zc I λr2 q J=>cL (C3<|q) R<|mM R<|vF EU AI R R<|vM R<|Zc J λx2 u M=>vQ R (Bu R (iR R) iL<|AN u)<|Zc M λr3 w O=>vL (λhg=>C3<|AN w hg) R<|xN R<|mM R<|vF HV AI R R<|vM R<|vF Dn AI R R<|Zc O λx3 A T=>vQ R (Bu R (iR R) (iR R)<|AN A)<|Zc T λr4 B U=>vL (λhg=>C3<|AN B hg) R<|xN R<|mM R<|vF HZ AI R R<|vM R<|vF EU AI R R<|Zc U λx4 C V=>vQ R (Bu R (iR R) (iR R)<|AN C)<|Zc V λr5 E X=>vL (λhg=>C3<|AN E hg) R<|xN R<|mA R<|aZ<|F _<|Zj<|yB X R
theorem pb{j l r}(h:Qt j l=some r):AM prog 166 [.agg<|BJ j,.agg<|BJ l] (rB r):=by
 unfold Qt at h
 refine mF func166 ntmps166 R λM=>aU<|sS R (Zv (cs:=(BJ j)) 2 R iL R R)<|sS R (Zv (cs:=(BJ l)) 3 R iL R R)<|mA R<|aZ<|aT λB=>?_
 refine ZA A8 (by kernel_rfl) ?_
 refine qP R (fB R Dn iL fR R)<|qP R (Zg (a:=rI j.Row) R AI iL R R)<|qP R (fB R Dn iL fR R)<|qP R (Zg (a:=rI l.Row) R AI iL R R)<|qP R (XD R iL iL)<|qP R (fB R EU iL fR R)<|qP R (Zg (a:=rI j.Col) R AI iL R R)<|qP R (fB R EU iL fR R)<|qP R (Zg (a:=rI l.Col) R AI iL R R)<|qP R (XD R iL iL)<|qP R (DQ R iL)<|qP R (DQ R iL)<|AQ.nil<|B _<|aT λC=>aG [2,3,5,6] [2,3] ?_
 exact aR<|mM R<|lF Dn AI R R<|lF HV AI R R<|Zc h λO q E=>xA R q<|lF Dn AI R R<|lF HV AI R R<|Zc E λT u F=>xA R u<|sQ R (LS R iL iL)<|xS R<|mM R<|vM R<|vF EU AI R R<|vF HZ AI R R<|Zc F λU w I=>vQ R (Ga R (iR R) (iR R)<|AN w)<|vF EU AI R R<|vF HZ AI R R<|Zc I λV A J=>vQ R (Ga R (iR R) (iR R)<|AN A)<|vQ R (LS R (iR R)<|iR R)<|vQ R (Bp R (iR R)<|iR R)<|xN R<|mA R<|aZ<|C _<|Zj<|yB J R
theorem qp{j r}(h:N4 j=some r):AM prog 125 (X5 j) (rI r):=by
 unfold N4 at h
 refine mF func125 ntmps125 R λA=>aU<|sS R (Zv (cs:=(Cz j)) 1 R iL R R)<|mA R<|aZ<|aT λc2=>aU<|lF GR AI R R<|Zc h λr1 a8 h1=>cL (C3<|a8) R<|sQ R (Zu R iL)<|mM R<|vF GD AI R R<|Zc h1 λr2 aa h2=>vL (λhg=>C3<|AN aa hg) R<|vQ R (Zu R<|iR R)<|xO R<|aZ<|cI R h2 (λh3=>?_) λh3=>?_
 ·exact zI h3 R id
 refine Zd<|c2 _<|aT λc5=>aT λc6=>aG [1] [1] ?_
 refine aR<|lF Fq Eb R R<|lF GR AI R R<|lF GD AI R R<|Zc h3 λe1 ab h4=>cL (YO<|ab) R<|mA R<|aZ<|c6 _<|aU<|mM R<|xU R<|aZ<|cI R h4 (λh5=>?_) λh5=>?_
 ·refine aT λc8=>aF [3] ?_
  exact aR<|mM R<|mA R<|aZ<|c8 _<|Zj<|yI h5 R
 refine Zd<|c5 _<|aS λK9 c9 ac=>aT λad=>aG [1] [1] ?_
 refine aR<|lF FO Ct R R<|xL CU R<|mM R<|aZ<|ad _<|Zf<|A5 h5 λo1 U ae w=>?_
 have J1:∀(u2:Unit) (i5:NN),o1=.nrm u2→K9 ⟨[],[],(i5 0),104⟩:=by
  intro u2 i5 e
  have h6:=ae _ e
  exact c9 _<|zI h6 R id
 refine Zz (λ(B:Int) T=>⟨[(1,.ptr 1 A 0 0),(29,rL j.Merges),(30,rI B)],[(1,some<|.box A 43<|Cz j)],(T 0),104⟩) (AG [(A+1)]) U wk ?_
 intro B T v1 af u
 have h7:Ow j B=some v1:=af;unfold Ow at h7
 refine aU<|xS R<|aZ<|aT λag=>cI R h7 (λh8=>?_) λh8=>?_
 ·refine Zd<|ag _<|aS λah ai V=>Zf<|aU<|mM R<|mA R<|aZ<|aU<|lF FO Ct R R<|mM R<|Zc h8 λq aj h9=>xI CU R aj<|xB ((BJ q)) Ee R<|sS R (Zq (cs:=[rI 0,rI 0,rI 0,rI 0]) 5 R Ya R R)<|Zk R R (Zi (ds:=(BJ q)) R fg iL R iL R R R R)<|aZ<|aT λak=>aU<|xC Ee R<|lF GR AI R R<|lF GD AI R R<|Zc h9 λr3 al an=>cL (Uh<|al) R<|sQ R (Zu R iL)<|aZ<|cI R an (λC=>?_) λC=>?_
  ·exact zI (w _<|xH u C) R id
  refine Zd<|ak _<|aT λao=>aT λaq=>aG [1,4,5,29,30] [1,5] ?_
  refine aR<|lF HV AI R R<|xQ R<|mM R<|vF HZ AI R R<|vQ R (Zs R (iR R) iL)<|xN R<|aZ<|aq _<|cI R C (λE=>?_) λE=>?_
  ·exact zI (w _<|xH u E) R id
  refine Zd<|ao _<|aT λar=>aT λav=>?_
  refine ZA A8 (by kernel_rfl) ?_
  refine qP R (Ze R iL)<|qP R (Zy R iL iL)<|qP R (Ze R iL)<|qO R (fB R Dn iL fR R)<|qO R (Zg (a:=rI q.Row) R AI (iR R) R R)<|qO R (fB R FO iL fR R)<|qO R (Zg (a:=qc j.Merges) R Ct (iR R) R R)<|qO R (Ze R iL)<|Zc E λx5 X aw=>qO R (Bu R (iR R) iL<|AN X)<|Zc aw λx6 Y ax=>qO R (Zr R CU.slice (iR R) (iR R) (λ_=>R)<|AN Y)<|qO R (Zl R Dn<|iR R)<|qO R (ZB (d:=.int .i64 x6.Row) R AI (iR R) R)<|qO R (Bp R (iR R)<|iR R)<|qO R (Ze R<|iR R)<|qT R (fB R Dn iL fR R)<|qT R (Zg (a:=rI q.Row) R AI (iR R) R R)<|qT R (fB R FO iL fR R)<|qT R (Zg (a:=qc j.Merges) R Ct (iR R) R R)<|qT R (Ze R iL)<|qT R (Bu R (iR R) iL λh=>AN X (zC.1 h).1)<|qT R (Zr R CU.slice (iR R) (iR R) (λ_=>R) λh=>AN Y (zC.1 h).1)<|qT R (Zl R Dn<|iR R)<|qT R (ZB (d:=.int .i64 x6.Row) R AI (iR R) R)<|qT R (Zs R (iR R)<|iR R)<|qT R (Ze R<|iR R)<|qT R (fB R EU iL fR R)<|qT R (Zg (a:=rI q.Col) R AI (iR R) R R)<|qT R (fB R FO iL fR R)<|qT R (Zg (a:=qc j.Merges) R Ct (iR R) R R)<|qT R (Ze R iL)<|Zc ax λx7 ay az=>qT R (Bu R (iR R) iL<|AN ay)<|Zc az λx8 b0 b1=>qT R (Zr R CU.slice (iR R) (iR R) (λ_=>R)<|AN b0)<|qT R (Zl R EU<|iR R)<|qT R (ZB (d:=.int .i64 x8.Col) R AI (iR R) R)<|qT R (Ez R (iR R)<|iR R)<|qT R (ZG R (iR R)<|iR R)<|qO R (B1 R (iR R)<|iR R)<|qP R (ZG R iL<|iR R)<|AQ.nil<|av _<|cI R b1 (λF=>?_) λF=>?_
  ·exact zI (w _<|xH u F) R id
  refine Zd<|ar _<|aT λb2=>aG [1,4,5,29,30] [1,5] ?_
  refine aR<|mM R<|mM R<|aZ<|b2 _<|Zf<|A5 F λo2 Z b3 b4=>?_
  have J2:∀(u4:Unit) (I:NN),o2=.nrm u4→ah ⟨[(1,.ptr 1 A 0 0),(29,rL j.Merges),(30,rI B)],[(1,some<|.box A 43<|Cz j)],(I 0),104⟩:=by
   intro u4 I e
   have b5:=b3 _ e
   exact ai _<|aR<|Zc b5 λbg a0 b6=>xA R a0<|mM R<|Zh<|Zx b6 (AG [(I 0)]) wk
  refine Zz (λ(J:Int) i8=>⟨[(1,.ptr 1 A 0 0),(5,.ptr 5 (T 0) 0 0),(29,rL j.Merges),(30,rI B),(91,rI B),(92,rI J)],[(1,some<|.box A 43<|Cz j),(5,some<|.box (T 0) 211<|BJ q)],(i8 0),104⟩) (AG [((T 0)+1)]) Z wk ?_
  intro J i8 v2 b7 a1
  have a2:Pb j B q J=some v2:=b7;unfold Pb at a2
  refine aU<|xS R<|aZ<|aT λb8=>cI R a2 (λM=>?_) λM=>?_
  ·refine Zd<|b8 _<|aT λb9=>Zf<|aU<|mM R<|mA R<|aZ<|aT λba=>?_
   refine ZA A8 (by kernel_rfl) ?_
   refine qP R (ZQ R Ee iL R R)<|qP R (fB R FO iL fR R)<|qP R (Zg (a:=qc j.Merges) R Ct iL R R)<|qP R (Ze R iL)<|Zc M λl a6 bb=>qP R (Zr R CU.slice iL iL (λ_=>R) λ_=>a6)<|qP R (ZN (cs:=(BJ l)) R Ee iL R R)<|Zc bb λr4 bc bd=>EQ R R R (r:=rB r4) (caps:=[]) (bs:=[.agg<|BJ q,.agg<|BJ l]) R iL R ⟨⟨_,iL,.g (cs:=[.int .i64 q.Row,.int .i64 q.Col,.int .i64 q.H,.int .i64 q.W]) R R⟩,⟨_,iL,.g (cs:=[.int .i64 l.Row,.int .i64 l.Col,.int .i64 l.H,.int .i64 l.W]) R R⟩,Za⟩ (λ_=>pb<|bc) R<|AQ.nil<|ba _<|cI R bd (λO=>?_) λO=>?_
   ·refine aT λbe=>aF [] ?_
    exact aR<|mA R<|aZ<|be _<|Zj<|yI (w _<|u _ (Zb<|b4 _<|xH a1 O).symm) R
   refine Zd<|b9 _<|aG [1,5,29,30,91,92] [1,5] ?_
   exact aR<|Zc O λbh a7 bf=>xA R a7<|mM R<|Zh<|Zx bf (AG [(i8 0)]) wk
  exact Zn<|V _ _ wk<|J2 _ (AG [(i8 0)])<|xH a1 M
 exact Zn<|ac _ _ wk<|J1 _ (AG [(T 0)])<|xH u h8
theorem sR{k j r}(h:OH k j=some r):AM prog 126 [rI k,qe j] (rI r):=by
 unfold OH at h
 refine mF func126 ntmps126 R λY=>aU<|mA R<|aZ<|aS λZ c2 A=>aU<|mM R<|xL CT R<|mM R<|aZ<|Zf<|A5 h λo1 l B C=>?_
 have J1:∀(T:Unit) (U:NN),o1=.nrm T→Z ⟨[],[],(U 0),43⟩:=by
  intro T U e
  have h1:=B _ e
  exact c2 _<|zI h1 R id
 refine Zz (λ(E:Int) w=>⟨[(0,rI k),(1,qe j),(7,rL j),(8,rI E)],[],(w 0),43⟩) (AG [Y]) l wk ?_
 intro E w v1 F q
 have V:Qh k j E=some v1:=F;unfold Qh at V
 refine aU<|xS R<|aZ<|aT λc6=>cI R V (λI=>?_) λI=>?_
 ·refine Zd<|c6 _<|aT λc7=>Zf<|aU<|mM R<|mA R<|aZ<|aT λc9=>aR<|mM R<|xQ R<|mM R<|vM R<|vM R<|Zc I λX u h4=>vQ R (Zr R CT.slice (iR R) (iR R) (λ_=>R)<|AN u)<|vQ R (Zl R HN<|iR R)<|vQ R (ZB (d:=.str X.Text) R A2 (iR R) R)<|vQ R (DH R (iR R) iL)<|vQ R (Ze R<|iR R)<|wQ R (Ze R iL)<|wQ R (Ze R iL)<|wQ R (Zr R CT.slice (iR R) (iR R) (λ_=>R) λh=>AN u (zC.1 h).1)<|wQ R (Zl R HY<|iR R)<|wQ R (ZB (d:=.sl<|X.Attrs.map AD.row) R A1 (iR R) R)<|wQ R (Bd R AZ.slice<|iR R)<|wQ R (Zy R (iR R) iL)<|vQ R (B1 R (iR R)<|iR R)<|xN R<|mM R<|vM R<|vQ R (Zs R (iR R) iL)<|vQ R (Ze R<|iR R)<|wQ R (Ze R iL)<|wQ R (Ze R iL)<|Zc h4 λx5 J h5=>wQ R (Zr R CT.slice (iR R) (iR R) (λ_=>R)<|AN J)<|wQ R (Zl R E8<|iR R)<|wQ R (ZB (d:=.int .i64 x5.Ref) R AI (iR R) R)<|wQ R (CP R (iR R) iL)<|vQ R (ZG R (iR R)<|iR R)<|xO R<|aZ<|c9 _<|cI R h5 (λM=>?_) λM=>?_
  ·exact zI (C _<|xH q M) R id
  refine Zd<|c7 _<|aF [0,1,7,8] ?_
  exact aR<|Zc M λx6 O h7=>xA R O<|mM R<|Zh<|Zx h7 (AG [(w 0)]) wk
 exact Zn<|A _ _ wk<|J1 _ (AG [(w 0)])<|xH q I
theorem su{l r}(h:RC l=some r):AM prog 162 [rS l] (rB r):=by
 unfold RC at h
 refine mF func162 ntmps162 R λY=>aU<|mA R<|aZ<|aS λZ c2 B=>aU<|mM R<|sQ R (ZO R underlying9 iL)<|mM R<|aZ<|Zf<|A5 h λo1 q C E=>?_
 have J1:∀(U:Unit) (V:NN),o1=.nrm U→Z ⟨[(0,rS l)],[],(V 0),36⟩:=by
  intro U V e
  have h1:=C _ e
  exact c2 _<|aU<|mM R<|sQ R (ZO R underlying9 iL)<|sQ R (Ca R iL iL)<|mM R<|vM R<|vQ R (ZO R underlying9<|iR R)<|vQ R (Ez R (iR R) iL)<|xN R<|mM R<|vM R<|vM R<|vQ R (ZO R underlying9<|iR R)<|Zc h1 λx4 F h2=>vQ R (Bu R (iR R) iL<|AN F)<|Zc h2 λa0 u h3=>vQ R (ZP R underlying9 (iR R) (iR R)<|AN u)<|vQ R (CP R (iR R) iL)<|xN R<|mA R<|aZ<|Zj<|yB h3 R
 refine Zz (λ(I:Int) A=>⟨[(0,rS l),(5,rL l),(6,rI I)],[],(A 0),36⟩) (AG [Y]) q wk ?_
 intro I A v1 J w
 have X:LN l I=some v1:=J;unfold LN at X
 refine aU<|xS R<|aZ<|aT λc6=>cI R X (λM=>?_) λM=>?_
 ·refine Zd<|c6 _<|aT λc7=>Zf<|aU<|mM R<|mA R<|aZ<|aU<|mM R<|mM R<|Zc M λa1 j h6=>sQ R (ZP R underlying9 iL iL λ_=>j)<|xS R<|mM R<|vM R<|vM R<|vQ R (ZP R underlying9 (iR R) (iR R) λ_=>j)<|vQ R (Zy R (iR R) iL)<|xO R<|aZ<|cI R h6 (λO=>?_) λO=>?_
  ·exact zB (E _<|xH w O) R id
  refine Zd<|c7 _<|aF [0,5,6] ?_
  exact aR<|Zc O λx5 T h8=>xA R T<|mM R<|Zh<|Zx h8 (AG [(A 0)]) wk
 exact Zn<|B _ _ wk<|J1 _ (AG [(A 0)])<|xH w M
theorem tA{j l r}(h:Nh j l=some r):AM prog 163 [.agg<|CN j,.agg<|CN l] (rB r):=by
 unfold Nh at h
 exact mF func163 ntmps163 R λq=>aU<|sS R (Zv (cs:=(CN j)) 2 R iL R R)<|sS R (Zv (cs:=(CN l)) 3 R iL R R)<|mA R<|aZ<|aU<|lF IJ AI R R<|lF IJ AI R R<|xS R<|mM R<|vF IJ AI R R<|vF IJ AI R R<|vQ R (Zs R (iR R)<|iR R)<|vQ R (Ze R<|iR R)<|wQ R (fB R Kr iL fR R)<|wQ R (Zg (a:=rI j.Site) R AI (iR R) R R)<|wQ R (fB R Kr iL fR R)<|wQ R (Zg (a:=rI l.Site) R AI (iR R) R R)<|wQ R (Bp R (iR R)<|iR R)<|vQ R (ZG R (iR R)<|iR R)<|xO R<|mA R<|aZ<|Zj<|yB h R
theorem bV{B r}(h:Mj B=some r):AM prog 113 [qf B] (rI r):=by
 unfold Mj at h
 refine mF func113 ntmps113 R λn0=>aU<|mA R<|aZ<|aS λK2 c2 a0=>aU<|mM R<|xL E2 R<|mM R<|aZ<|Zf<|A5 h λo1 X a1 l=>?_
 have J1:∀(u2:Unit) (i5:NN),o1=.nrm u2→K2 ⟨[],[],(i5 0),91⟩:=by
  intro u2 i5 e
  have h1:=a1 _ e
  exact c2 _<|zI h1 R id
 refine Zz (λ(Y:Int) C=>⟨[(0,qf B),(6,rL B),(7,rI Y)],[],(C 0),91⟩) (AG [n0]) X wk ?_
 intro Y C v1 a2 j
 have h2:PN B Y=some v1:=a2;unfold PN at h2
 refine aU<|xS R<|aZ<|aT λc6=>cI R h2 (λh3=>?_) λh3=>?_
 ·refine Zd<|c6 _<|aT λc7=>Zf<|aU<|mM R<|mA R<|aZ<|aU<|mM R<|mM R<|Zc h3 λu a6 h4=>xI E2 R a6<|xB ((CN u)) Ic R<|sS R (Zq (cs:=[rI 0,rI 0,rI 0,rI 0,rI 0,.r<|.str [],.r<|.str [],.r<|.str []]) 4 R cW R R)<|Zk R R (Zi (ds:=(CN u)) R fN iL R iL R R R R)<|aZ<|aT λa7=>aU<|lF Gw AI R R<|xU R<|mM R<|vF Gw AI R R<|vQ R (CP R (iR R) iL)<|xN R<|aZ<|cI R h4 (λh5=>?_) λh5=>?_
  ·exact zI (l _<|xH j h5) R id
  refine Zd<|a7 _<|aT λa8=>aT λaa=>aG [0,3,4,6,7] [4] ?_
  refine aR<|lF IJ AI R R<|Zc h5 λr1 ab h6=>cL (C3<|ab) R<|sQ R (Zu R iL)<|mM R<|vF Kr AI R R<|Zc h6 λr2 ac h7=>vL (λhg=>C3<|AN ac hg) R<|vQ R (Zu R<|iR R)<|xO R<|mM R<|vF Vu AI R R<|Zc h7 λr3 ad h8=>vL (λhg=>C3<|AN ad hg) R<|vQ R (Zu R<|iR R)<|xO R<|aZ<|aa _<|cI R h8 (λh9=>?_) λh9=>?_
  ·exact zI (l _<|xH j h9) R id
  refine Zd<|a8 _<|aS λae af A=>aU<|lF Gw AI R R<|xQ R<|aZ<|A5 h9 λp1 Z ag q=>?_
  have J2:∀(u3:Unit) (i6:NN),p1=.nrm u3→ae ⟨[(0,qf B),(3,rI Y),(4,.ptr 4 (C 0) 0 0),(6,rL B),(7,rI Y)],[(4,some<|.box (C 0) 176<|CN u)],(i6 0),91⟩:=by
   intro u3 i6 e
   have ah:=ag _ e
   refine af _<|aT λai=>?_
   refine ZA A8 (by kernel_rfl) ?_
   refine qP R (Ze R iL)<|qP R (Zy R iL iL)<|qP R (Ze R iL)<|qO R (Ze R iL)<|qO R (Ze R iL)<|Zc ah λx5 aj ak=>qO R (Bu R (iR R) iL<|AN aj)<|Zc ak λw al an=>qO R (Zr R E2.slice (iR R) (iR R) (λ_=>R)<|AN al)<|qO R (ZN (cs:=(CN w)) R Ic (iR R) R R)<|qO R (ZQ R Ic iL R R)<|Zc an λr4 ao aq=>G0 (.one R R R) R R (r:=rB r4) (caps:=[]) (bs:=[.agg<|CN w,.agg<|CN u]) R iL R ⟨⟨_,(iR R),.g (cs:=[.int .i64 w.Clock,.int .i64 w.Site,.int .i64 w.Kind,.int .i64 w.Item,.int .i64 w.Parent,.str w.Place,.str w.Name,.str w.Value]) R R⟩,⟨_,(iR R),.g (cs:=[.int .i64 u.Clock,.int .i64 u.Site,.int .i64 u.Kind,.int .i64 u.Item,.int .i64 u.Parent,.str u.Place,.str u.Name,.str u.Value]) R R⟩,Za⟩ (λhg=>tA<|AN ao hg) R<|qO R (Zu R<|iR R)<|qP R (ZG R iL<|iR R)<|AQ.nil<|ai _<|cI R aq (λE=>?_) λE=>?_
   ·exact zI (l _<|xH j E) R id
   exact Zd<|c7 _<|aR<|Zc E λx7 ar av=>xA R ar<|mM R<|Zh<|Zx av (AG [(i6 0)]) wk
  refine aC R (λF=>?_) λF=>?_
  ·have I:=Ba F Z
   refine aT λaw=>aT λax=>aG [0,3,4,6,7] [4] ?_
   refine aR<|lF Tx A2 R R<|sQ R (DH R iL iL)<|mM R<|vF MQ A2 R R<|vQ R (DH R (iR R) iL)<|xO R<|aZ<|ax _<|cI R I (λJ=>?_) λJ=>?_
   ·refine aT λay=>aF [] ?_
    exact aR<|mA R<|aZ<|ay _<|Zj<|yI (l _<|j _ (Zb<|q _ (Zb J).symm).symm) R
   refine Zd<|aw _<|aT λaz=>aU<|lF Qb AI R R<|Zc J λr5 b0 b1=>cL (C3<|b0) R<|sQ R (Zu R iL)<|aZ<|cI R b1 (λM=>?_) λM=>?_
   ·refine aT λb2=>aF [] ?_
    exact aR<|mA R<|aZ<|b2 _<|Zj<|yI (l _<|j _ (Zb<|q _ (Zb M).symm).symm) R
   refine Zd<|az _<|aT λb3=>aG [0,3,4,6,7] [4] ?_
   refine aR<|lF TQ A2 R R<|Zc M λr6 b4 b5=>cL (su<|b4) R<|sQ R (Zu R iL)<|aZ<|b3 _<|cI R b5 (λO=>?_) λO=>?_
   ·refine aT λb6=>aF [] ?_
    exact aR<|mA R<|aZ<|b6 _<|Zj<|yI (l _<|j _ (Zb<|q _ (Zb O).symm).symm) R
   exact Zd<|A _ _ wk<|J2 _ (AG [((C 0)+1)]) (Zb O).symm
  ·have I:=Be F Z
   refine aT λb7=>aT λb8=>aG [0,3,4,6,7] [4] ?_
   refine aR<|lF Qb AI R R<|xU R<|mM R<|vF TQ A2 R R<|vQ R (DH R (iR R) iL)<|xO R<|aZ<|b8 _<|cI R I (λT=>?_) λT=>?_
   ·refine aT λb9=>aF [] ?_
    exact aR<|mA R<|aZ<|b9 _<|Zj<|yI (l _<|j _ (Zb<|q _ (Zb T).symm).symm) R
   refine Zd<|b7 _<|aT λba=>aU<|lF Tx A2 R R<|Zc T λr7 bb bc=>cL (aA<|bb) R<|sQ R (Zu R iL)<|aZ<|cI R bc (λU=>?_) λU=>?_
   ·refine aT λbd=>aF [] ?_
    exact aR<|mA R<|aZ<|bd _<|Zj<|yI (l _<|j _ (Zb<|q _ (Zb U).symm).symm) R
   refine Zd<|ba _<|aT λbe=>aG [0,3,4,6,7] [4] ?_
   refine aR<|lF MQ A2 R R<|sQ R (DH R iL iL)<|mM R<|vF MQ A2 R R<|Zc U λr8 bf bg=>vL (λhg=>Wd<|AN bf hg) R<|vQ R (Zu R<|iR R)<|xN R<|aZ<|be _<|cI R bg (λV=>?_) λV=>?_
   ·refine aT λbh=>aF [] ?_
    exact aR<|mA R<|aZ<|bh _<|Zj<|yI (l _<|j _ (Zb<|q _ (Zb V).symm).symm) R
   exact Zd<|A _ _ wk<|J2 _ (AG [((C 0)+1)]) (Zb V).symm
 exact Zn<|a0 _ _ wk<|J1 _ (AG [(C 0)])<|xH j h3
theorem Y0{n1 r}(h:MA n1=some r):AM prog 79 (Mm n1) (rI r):=by
 unfold MA at h
 refine mF func79 ntmps79 R λn0=>aU<|sS R (Zv (cs:=(BR n1)) 1 R iL R R)<|mA R<|aZ<|aT λc2=>aU<|lF Ea AI R R<|Zc h λr1 E h1=>cL (C3<|E) R<|sQ R (Zu R iL)<|aZ<|cI R h1 (λF=>?_) λF=>?_
 ·exact zI F R id
 refine Zd<|c2 _<|aT λc5=>aU<|lF Cc AI R R<|Zc F λr2 I h3=>cL (C3<|I) R<|sQ R (Zu R iL)<|mM R<|vF Ea AI R R<|vQ R (Zs R (iR R) iL)<|vQ R (Ze R<|iR R)<|wQ R (fB R Cc iL fR R)<|wQ R (Zg (a:=rI n1.Kind) R AI (iR R) R R)<|wQ R (CP R (iR R) iL)<|vQ R (ZG R (iR R)<|iR R)<|xO R<|mM R<|vF Ea AI R R<|vQ R (CP R (iR R) iL)<|vQ R (Ze R<|iR R)<|wQ R (fB R Cc iL fR R)<|wQ R (Zg (a:=rI n1.Kind) R AI (iR R) R R)<|wQ R (Zs R (iR R) iL)<|vQ R (ZG R (iR R)<|iR R)<|xO R<|aZ<|cI R h3 (λJ=>?_) λJ=>?_
 ·exact zI J R id
 refine Zd<|c5 _<|aT λc8=>aT λc9=>aG [1] [1] ?_
 refine aR<|lF R8 A1 R R<|Zc J λe1 M h5=>cL (KE<|M) R<|mA R<|aZ<|c9 _<|aU<|mM R<|xU R<|aZ<|cI R h5 (λO=>?_) λO=>?_
 ·exact aU<|mM R<|mA R<|aZ<|Zj<|yI O R
 refine Zd<|c8 _<|aU<|lF Cc AI R R<|Zc O λr3 w h7=>cL (Ru<|w) R<|mM R<|vF Cc AI R R<|Zc h7 λr4 T h8=>vL (λhg=>lV<|AN T hg) R<|xO R<|mA R<|aZ<|aT λU=>aT λV=>aG [1,4] [1] ?_
 refine aR<|lF EW Br R R<|xL Ab R<|sQ R (Zy R iL iL)<|mM R<|vM R<|vQ R (Zu R<|iR R)<|xN R<|mM R<|vQ R (fB R F0 iL fR R)<|vQ R (FR (ds:=(Cz n1.Grid)) R NF (iR R) R R R)<|Zc h8 λr5 X h9=>vL (λhg=>kY<|AN X hg) R<|vQ R (Zu R<|iR R)<|vQ R (Ze R<|iR R)<|wQ R (fB R Cc iL fR R)<|wQ R (Zg (a:=rI n1.Kind) R AI (iR R) R R)<|Zc h9 λr6 Y Z=>AL.stepW (.two R R R) R R (Du (r:=rB r6) (caps:=[]) (bs:=[rI n1.Kind]) R iL R ⟨⟨_,(iR R),.d R⟩,Za⟩ (λhg=>fw<|AN Y hg) R)<|wQ R (Zu R<|iR R)<|vQ R (ZG R (iR R)<|iR R)<|xO R<|mM R<|vF Iw Fx R R<|vQ R (Bd R E2.slice<|iR R)<|vQ R (Zy R (iR R) iL)<|vQ R (Ze R<|iR R)<|wQ R (fB R Cc iL fR R)<|wQ R (Zg (a:=rI n1.Kind) R AI (iR R) R R)<|Zc Z λr7 a0 a1=>AL.stepW (.two R R R) R R (Du (r:=rB r7) (caps:=[]) (bs:=[rI n1.Kind]) R iL R ⟨⟨_,(iR R),.d R⟩,Za⟩ (λhg=>qK<|AN a0 hg) R)<|wQ R (Zu R<|iR R)<|vQ R (ZG R (iR R)<|iR R)<|xO R<|aZ<|V _<|cI R a1 (λj=>?_) λj=>?_
 ·exact zI j R id
 refine Zd<|U _<|aT λa2=>aT λa6=>aG [1,4] [1] ?_
 refine aR<|mM R<|aZ<|a6 _<|cI R j (λl=>?_) λl=>?_
 ·refine aT λa7=>?_
  refine ZA A8 (by kernel_rfl) ?_
  exact qP R (fB R EW iL fR R)<|qP R (Zg (a:=qb n1.Flow) R Br iL R R)<|qP R (fB R Cc iL fR R)<|qP R (Zg (a:=rI n1.Kind) R AI iL R R)<|EQ R R R (r:=rB r3) (caps:=[]) (bs:=[rI n1.Kind]) R iL R ⟨⟨_,iL,.d R⟩,Za⟩ (λ_=>Ru<|w) R<|Zc l λr9 a8 aa=>EQ R R R (r:=rI r9) (caps:=[]) (bs:=[qb n1.Flow,rB r3]) R iL R ⟨⟨_,iL,.d R⟩,⟨_,iL,.d R⟩,Za⟩ (λ_=>nt<|a8) R<|qP R (DQ R iL)<|AQ.nil<|a7 _<|Zj<|yI aa R
 refine Zd<|a2 _<|aT λab=>aU<|lF Cc AI R R<|Zc l λak A ac=>cL (fw<|A) R<|aZ<|cI R ac (λq=>?_) λq=>?_
 ·refine aT λad=>aU<|sQ R (fB R F0 iL fR R)<|sQ R (FR (ds:=(Cz n1.Grid)) R NF iL R R R)<|Zc q λe2 ae af=>cL (qp<|ae) R<|mA R<|aZ<|aU<|mM R<|xU R<|aZ<|cI R af (λu=>?_) λu=>?_
  ·refine aT λag=>aF [5] ?_
   exact aR<|mM R<|mA R<|aZ<|ag _<|Zj<|yI u R
  refine Zd<|ad _<|aT λah=>aG [1] [1] ?_
  exact aR<|lF Cc AI R R<|sQ R (fB R F0 iL fR R)<|lF Fq Eb R R<|Zc u λal B ai=>cL (sR<|B) R<|mA R<|aZ<|ah _<|Zj<|yI ai R
 exact Zd<|ab _<|aU<|lF Iw Fx R R<|Zc q λan C aj=>cL (bV<|C) R<|mA R<|aZ<|Zj<|yI aj R
theorem sG{n1 r}(h:Og n1=some r):AM prog 81 (Mm n1) (.r<|.sl<|r.map<|Ad .i64):=by
 unfold Og at h
 refine mF func81 ntmps81 R λj=>aU<|sS R (Zv (cs:=(BR n1)) 1 R iL R R)<|mA R<|aZ<|aU<|mA R<|aZ<|aS λK3 c3 a7=>aU<|lF EW Br R R<|xL Ab R<|mM R<|aZ<|Zf<|Ar h λo1 a0 a8=>?_
 have J1:∀(w:List Int) (Z:NN),o1=w→K3 ⟨[(1,.ptr 1 j 0 0),(3,.own 5003<|Z 0)],[(1,some<|.box j 46<|BR n1),(5003,some<|.arr (Z 0) 3 1<|w.map<|Ad .i64)],(Z 1),56⟩:=by
  intro w Z e
  have h1:=a8 _ e
  refine c3 _<|aS λK5 c5 aa=>aU<|sQ R (fB R F0 iL fR R)<|lF Fq Eb R R<|xL CT R<|mM R<|aZ<|Zf<|Ar h1 λo2 a1 ab=>?_
  have J2:∀(A:List Int) (I:NN),o2=A→K5 ⟨[(3,.own 5003<|I 0)],[(5003,some<|.arr (I 0) 3 1<|A.map<|Ad .i64)],(I 1),56⟩:=by
   intro A I e
   have h2:=ab _ e
   exact c5 _<|aU<|mM R<|mA R<|aZ<|Zj<|CX (P:=prog) (λ(r:(List Int))=>.r<|.sl<|r.map<|Ad .i64) h2 iL<|.t<|.one<|.own R
  refine ZL (λ(x5:Int) (B:List Int) i8=>⟨[(1,.ptr 1 j 0 0),(3,.own 5003<|i8 0),(32,rL n1.Grid.Cells),(33,rI x5)],[(1,some<|.box j 46<|BR n1),(5003,some<|.arr (i8 0) 3 1<|B.map<|Ad .i64)],(i8 1),56⟩) (AG [(Z 0),(Z 1)]) a1 wk ?_
  intro x5 B i8 v1 ac ad
  have h3:SV n1 x5 B=some v1:=ac;unfold SV at h3
  refine aU<|xS R<|aZ<|aT λc9=>cI R h3 (λh4=>?_) λh4=>?_
  ·refine Zd<|c9 _<|aS λae af O=>Zf<|Ar h4 λp1 ag ah=>?_
   have J3:∀(C:List Int) (q:NN),p1=C→ae ⟨[(1,.ptr 1 j 0 0),(3,.own 5003<|q 0),(32,rL n1.Grid.Cells),(33,rI x5)],[(1,some<|.box j 46<|BR n1),(5003,some<|.arr (q 0) 3 1<|C.map<|Ad .i64)],(q 1),56⟩:=by
    intro C q e
    have h5:=ah _ e
    exact af _<|aR<|Zc h5 λx7 ai h6=>xA R ai<|mM R<|Zh<|ZH h6 (AG [(q 0),(q 1)]) wk
   refine aU<|mM R<|mA R<|aZ<|aU<|sQ R (fB R F0 iL fR R)<|lF Fq Eb R R<|mM R<|Zc ag λx8 a2 h7=>xI CT R a2<|sQ R (Zl R E8 iL)<|xV (.int .i64 x8.Ref) AI R<|xU R<|aZ<|cI R h7 (λh8=>?_) λh8=>?_
   ·refine aG [1,3,5,32,33] [1,5003] ?_
    exact aR<|mM R<|sQ R (fB R F0 iL fR R)<|lF Fq Eb R R<|mM R<|xI CT R a2<|sQ R (Zl R E8 iL)<|xV (.int .i64 x8.Ref) AI R<|sS R (ZK 52 R Bl (f:=(Ad .i64)) (l:=([x8.Ref]:List Int)) ⟨R,⟨_,iL,R⟩,Za⟩ R (λ_=>R) R)<|Zc h8 λaj J h9=>sS R (B6 R Bl iL R (.inr<|.inl ⟨_,_,iL,R⟩) J)<|mA R<|Zh<|O _ _ wk<|J3 _ (AG [((i8 1)+1),((i8 1)+2)]) (Zb h9).symm
   exact Zd<|O _ _ wk<|J3 _ (AG [(i8 0),(i8 1)]) (Zb h8).symm
  exact Zn<|aa _ _ wk<|J2 _ (AG [(i8 0),(i8 1)])<|xH ad h4
 refine ZL (λ(x2:Int) (E:List Int) F=>⟨[(1,.ptr 1 j 0 0),(3,.own 5003<|F 0),(8,rL n1.Flow),(9,rI x2)],[(1,some<|.box j 46<|BR n1),(5003,some<|.arr (F 0) 3 1<|E.map<|Ad .i64)],(F 1),56⟩) (AG [(j+1),(j+2)]) a0 (Zm (Zm (ZR 3 5003 3 1 (by decide) R)<|by exact ZC (e':=[(0,.agg<|BR n1),(1,.ptr 1 j 0 0),(2,cZ),(3,.own 5003<|j+1),(6,.ptr 1 j 0 3),(7,qb n1.Flow),(8,rL n1.Flow),(9,rI 0)]) (h':=[(1,some<|.box j 46<|BR n1),(5003,some<|.arr (j+1) 3 1<|([]:List Int).map<|Ad .i64)]) ⟨jL,jL,jL,jL,jL,jL,jL,jL,Za⟩ ⟨.inl R,.inl R,Za⟩ nL) wk) ?_
 intro x2 E F v2 ak al
 have a6:TC n1 x2 E=some v2:=ak;unfold TC at a6
 refine aU<|xS R<|aZ<|aT λan=>cI R a6 (λV=>?_) λV=>?_
 ·refine Zd<|an _<|aS λao aq T=>Zf<|Ar V λp2 ar av=>?_
  have J4:∀(l:List Int) (u:NN),p2=l→ao ⟨[(1,.ptr 1 j 0 0),(3,.own 5003<|u 0),(8,rL n1.Flow),(9,rI x2)],[(1,some<|.box j 46<|BR n1),(5003,some<|.arr (u 0) 3 1<|l.map<|Ad .i64)],(u 1),56⟩:=by
   intro l u e
   have aw:=av _ e
   exact aq _<|aR<|Zc aw λx9 ax ay=>xA R ax<|mM R<|Zh<|ZH ay (AG [(u 0),(u 1)]) wk
  refine aU<|mM R<|mA R<|aZ<|aU<|lF EW Br R R<|mM R<|Zc ar λX U az=>xI Ab R U<|sQ R (Zl R D2 iL)<|xV (.int .i64 X.Ref) AI R<|xU R<|aZ<|cI R az (λY=>?_) λY=>?_
  ·refine aG [1,3,4,8,9] [1,5003] ?_
   exact aR<|mM R<|lF EW Br R R<|mM R<|xI Ab R U<|sQ R (Zl R D2 iL)<|xV (.int .i64 X.Ref) AI R<|sS R (ZK 26 R Bl (f:=(Ad .i64)) (l:=([X.Ref]:List Int)) ⟨R,⟨_,iL,R⟩,Za⟩ R (λ_=>R) R)<|Zc Y λb0 M b1=>sS R (B6 R Bl iL R (.inr<|.inl ⟨_,_,iL,R⟩) M)<|mA R<|Zh<|T _ _ wk<|J4 _ (AG [((F 1)+1),((F 1)+2)]) (Zb b1).symm
  exact Zd<|T _ _ wk<|J4 _ (AG [(F 0),(F 1)]) (Zb Y).symm
 exact Zn<|a7 _ _ wk<|J1 _ (AG [(F 0),(F 1)])<|xH al V
theorem Sv{d1 i r}(h:Hv d1 i=some r):AM prog 16 [.agg [qg d1.Nodes],rI i] (rI r):=by
 unfold Hv at h
 refine mF func16 ntmps16 R λu=>aU<|sS R (Zv (cs:=[qg d1.Nodes]) 2 R iL R R)<|mA R<|aZ<|aS λX Y w=>aU<|lF Da DY R R<|xL Co R<|mM R<|aZ<|Zf<|A5 h λZ j A B=>?_
 have J1:∀(T:Unit) (U:NN),Z=.nrm T→X ⟨[],[],(U 0),22⟩:=by
  intro T U e
  have h1:=A _ e
  exact Y _<|zI h1 R id
 refine Zz (λ(C:Int) q=>⟨[(1,rI i),(2,.ptr 2 u 0 0),(8,rL d1.Nodes),(9,rI C)],[(2,some<|.box u 24 [qg d1.Nodes])],(q 0),22⟩) (AG [(u+1)]) j wk ?_
 intro C q v1 E l
 have V:RG d1 i C=some v1:=E;unfold RG at V
 refine aU<|xS R<|aZ<|aT λc6=>cI R V (λF=>?_) λF=>?_
 ·refine Zd<|c6 _<|aT λc7=>Zf<|aU<|mM R<|mA R<|aZ<|aU<|lF Da DY R R<|mM R<|Zc F λx4 I h4=>xI Co R I<|sQ R (Zl R Ea iL)<|xV (.int .i64 x4.ID) AI R<|mM R<|xQ R<|aZ<|cI R h4 (λJ=>?_) λJ=>?_
  ·refine aT λM=>aF [5] ?_
   exact aR<|mM R<|mA R<|aZ<|M _<|Zj<|yI (B _<|xH l J) R
  refine Zd<|c7 _<|aG [1,2,8,9] [2] ?_
  exact aR<|Zc J λx5 O h6=>xA R O<|mM R<|Zh<|Zx h6 (AG [(q 0)]) wk
 exact Zn<|w _ _ wk<|J1 _ (AG [(q 0)])<|xH l F
theorem kH{p k r}(h:OA p k=some r):AM prog 36 [rI p,rI k] (rB r):=by
 unfold OA at h
 refine mF func36 ntmps36 R λI=>aU<|mA R<|aZ<|aT λc2=>aU<|mM R<|aZ<|Zf<|aS λK4 c4 j=>aU<|xQ R<|mA R<|aZ<|Ar h λp1 J U=>?_
 have M:∀(V:Bool) (T:NN),p1=V→K4 ⟨[(0,rI p),(5,rI k),(6,rB V)],[],(T 0),51⟩:=by
  intro V T e
  have h1:=U _ e
  refine c4 _<|cI R h1 (λX=>?_) λX=>?_
  ·exact aU<|mM R<|xQ R<|mA R<|aZ<|Zj<|yB X R
  refine aU<|xQ R<|mA R<|aZ<|cI R X (λY=>?_) λY=>?_
  ·exact aU<|mM R<|xQ R<|mM R<|vM R<|vQ R (Zs R (iR R) iL)<|xO R<|mM R<|vM R<|vQ R (Zs R (iR R) iL)<|xO R<|mA R<|aZ<|Zj<|yB Y R
  refine aU<|xQ R<|mA R<|aZ<|cI R Y (λZ=>?_) λZ=>?_
  ·exact aU<|mM R<|xQ R<|mA R<|aZ<|Zj<|yB Z R
  refine aU<|xQ R<|mA R<|aZ<|cI R Z (λh5=>?_) λh5=>?_
  ·exact aU<|mM R<|xQ R<|mM R<|vM R<|vQ R (Zs R (iR R) iL)<|xO R<|mA R<|aZ<|Zj<|yB h5 R
  refine aU<|xQ R<|mA R<|aZ<|cI R h5 (λh6=>?_) λh6=>?_
  ·refine aT λa0=>aF [0] ?_
   exact aR<|mM R<|Zc h6 λr1 a1 h7=>cL (Ru<|a1) R<|mA R<|aZ<|a0 _<|Zj<|yB h7 R
  refine aT λa2=>aF [0,5] ?_
  refine aR<|xQ R<|mA R<|aZ<|a2 _<|cI R h6 (λh8=>?_) λh8=>?_
  ·exact aU<|mM R<|xQ R<|mA R<|aZ<|Zj<|yB h8 R
  refine aS λa6 a7 l=>aU<|xQ R<|mA R<|aZ<|Ar h8 λp2 O a8=>?_
  have J2:∀(x2:Bool) (i2:NN),p2=x2→a6 ⟨[(0,rI p),(46,rB x2)],[],(i2 0),51⟩:=by
   intro x2 i2 e
   have h9:=a8 _ e
   refine a7 _<|cI R h9 (λq=>?_) λq=>?_
   ·exact aU<|mM R<|xQ R<|mA R<|aZ<|Zj<|yB q R
   exact Zd<|c2 _<|zB q R id
  refine aC R (λu=>?_) λu=>?_
  ·have w:=Ba u O
   exact Zd<|l _ _ wk<|J2 _ (AG [(T 0)]) (Zb w).symm
  ·have w:=Be u O
   exact aR<|xQ R<|mA R<|Zh<|l _ _ wk<|J2 _ (AG [(T 0)]) (Zb w).symm
 refine aC R (λA=>?_) λA=>?_
 ·have B:=Ba A J
  exact Zd<|j _ _ wk<|M _ (AG [I]) (Zb B).symm
 ·have B:=Be A J
  refine aU<|xQ R<|mA R<|aZ<|cI R B (λC=>?_) λC=>?_
  ·exact Zd<|j _ _ wk<|M _ (AG [I]) (Zb C).symm
  refine aU<|xQ R<|mA R<|aZ<|cI R C (λE=>?_) λE=>?_
  ·exact Zd<|j _ _ wk<|M _ (AG [I]) (Zb E).symm
  refine aU<|xQ R<|mA R<|aZ<|cI R E (λF=>?_) λF=>?_
  ·exact Zd<|j _ _ wk<|M _ (AG [I]) (Zb F).symm
  exact aR<|xQ R<|mA R<|Zh<|j _ _ wk<|M _ (AG [I]) (Zb F).symm
theorem nM{d1 k a r}(h:PJ d1 k a=some r):AM prog 80 [.agg [qg d1.Nodes],rI k,.r<|.sl<|a.map<|Ad .i64] (rI r):=by
 unfold PJ at h
 refine mF func80 ntmps80 R λw=>aU<|sS R (Zv (cs:=[qg d1.Nodes]) 3 R iL R R)<|mA R<|aZ<|aS λK2 c2 A=>aU<|mM R<|xL Bl R<|mM R<|aZ<|Zf<|A5 h λo1 l B q=>?_
 have J1:∀(u2:Unit) (i5:NN),o1=.nrm u2→K2 ⟨[],[],(i5 0),32⟩:=by
  intro u2 i5 e
  have h1:=B _ e
  exact c2 _<|zI h1 R id
 refine Zz (λ(C:Int) u=>⟨[(1,rI k),(2,.r<|.sl<|a.map<|Ad .i64),(3,.ptr 3 w 0 0),(10,rL a),(11,rI C)],[(3,some<|.box w 24 [qg d1.Nodes])],(u 0),32⟩) (AG [(w+1)]) l wk ?_
 intro C u v1 E j
 have h2:MN d1 k a C=some v1:=E;unfold MN at h2
 refine aU<|xS R<|aZ<|aT λc6=>cI R h2 (λF=>?_) λF=>?_
 ·refine Zd<|c6 _<|aT λc7=>Zf<|aU<|mM R<|mA R<|aZ<|aT λc9=>?_
  refine ZA A8 (by kernel_rfl) ?_
  refine qP R (ZQ R Dk iL R R)<|qP R (Ze R iL)<|qP R (Ze R iL)<|Zc F λx4 I h4=>qP R (Zr R Bl.slice iL iL (λ_=>R) λ_=>I)<|qP R (ZB (d:=.int .i64 x4) R AI iL R)<|Zc h4 λk1 J h5=>EQ R R R (r:=rI k1) (caps:=[]) (bs:=[.agg [qg d1.Nodes],rI x4]) R iL R ⟨⟨_,iL,.g (cs:=[.sl<|d1.Nodes.map Ae.row]) R R⟩,⟨_,iL,.d R⟩,Za⟩ (λ_=>Sv<|J) R<|qP R (DQ R iL)<|AQ.nil<|c9 _<|aT λM=>aT λO=>aG [1,2,3,8,10,11] [3] ?_
  refine aR<|mM R<|xS R<|aZ<|O _<|cI R h5 (λT=>?_) λT=>?_
  ·exact zI (q _<|xH j T) R id
  refine Zd<|M _<|aU<|mM R<|lF Da DY R R<|mM R<|Zc T λx5 U h7=>xI Co R U<|sQ R (Zl R Cc iL)<|xV (.int .i64 x5.Kind) AI R<|Zc h7 λr1 V h8=>cL (kH<|V) R<|sQ R (Zu R iL)<|aZ<|cI R h8 (λX=>?_) λX=>?_
  ·exact zI (q _<|xH j X) R id
  refine Zd<|c7 _<|aG [1,2,3,10,11] [3] ?_
  exact aR<|Zc X λx6 Y Z=>xA R Y<|mM R<|Zh<|Zx Z (AG [(u 0)]) wk
 exact Zn<|A _ _ wk<|J1 _ (AG [(u 0)])<|xH j F
theorem uu{d1 r}(h:P0 d1=some r):AM prog 29 [.agg [qg d1.Nodes]] (rI r):=by
 unfold P0 at h
 refine mF func29 ntmps29 R λj=>aU<|sS R (Zv (cs:=[qg d1.Nodes]) 1 R iL R R)<|mA R<|aZ<|aT λc2=>aU<|lF Da DY R R<|xL Co R<|xQ R<|aZ<|cI R h (λh1=>?_) λh1=>?_
 ·exact zI h1 R id
 refine Zd<|c2 _<|aS λK5 c5 a0=>aU<|lF Da DY R R<|xL Co R<|mM R<|aZ<|Zf<|A5 h1 λo1 C a1 E=>?_
 have J1:∀(u2:Unit) (i5:NN),o1=.nrm u2→K5 ⟨[(1,.ptr 1 j 0 0)],[(1,some<|.box j 24 [qg d1.Nodes])],(i5 0),81⟩:=by
  intro u2 i5 e
  have h2:=a1 _ e
  refine c5 _<|aS λK7 c7 a2=>aU<|lF Da DY R R<|xL Co R<|mM R<|aZ<|Zf<|A5 h2 λo2 F a6 a7=>?_
  have J2:∀(u4:Unit) (I:NN),o2=.nrm u4→K7 ⟨[],[],(I 0),81⟩:=by
   intro u4 I e
   have h3:=a6 _ e
   exact c7 _<|zI h3 R id
  refine Zz (λ(q:Int) i8=>⟨[(1,.ptr 1 j 0 0),(59,rL d1.Nodes),(60,rI q)],[(1,some<|.box j 24 [qg d1.Nodes])],(i8 0),81⟩) (AG [(i5 0)]) F wk ?_
  intro q i8 v1 a8 J
  have h4:LI d1 q=some v1:=a8;unfold LI at h4
  refine aU<|xS R<|aZ<|aT λaa=>cI R h4 (λh5=>?_) λh5=>?_
  ·refine Zd<|aa _<|aT λab=>Zf<|aU<|mM R<|mA R<|aZ<|aT λac=>Zc h5 λl M h6=>Zc h6 λr1 ad h7=>?_
   refine rP 13 [pO 63<|.agg [qg d1.Nodes],pO 64<|.ptr 1 j 0 0,pO 65<|qg d1.Nodes,pO 66<|rI q,pO 67<|.rop (Ae.row l) 0,pO 68<|.rop (Ae.row l) 1,pO 69<|rI l.Kind,pO 70<|.ptr 1 j 0 0,pO 71<|qg d1.Nodes,pO 72<|rI q,pO 73<|.rop (Ae.row l) 0,pO 74<|.agg<|BR l,pO 75<|.r<|.sl<|r1.map<|Ad .i64] A8 R (by exact⟨oB [(1,.ptr 1 j 0 0)] [(1,some<|.box j 24 [qg d1.Nodes])]<|ZQ R Dk (.inl R) R R,oB [(1,.ptr 1 j 0 0)] [(1,some<|.box j 24 [qg d1.Nodes])]<|fB R Da (.inl R) (λ_=>R) R,oB [(64,.ptr 1 j 0 0)] [(1,some<|.box j 24 [qg d1.Nodes])]<|Zg (a:=qg d1.Nodes) R DY (.inl R) R R,oB [(5,rI q)] []<|Ze R<|.inl R,oB [(65,qg d1.Nodes),(66,rI q)] []<|Zr R Co.slice (.inl R) (.inl R) (λ_=>R) λ_=>M,oB [(67,.rop (Ae.row l) 0)] []<|Zl R Cc<|.inl R,oB [(68,.rop (Ae.row l) 1)] []<|ZB (d:=.int .i64 l.Kind) R AI (.inl R) R,oB [(1,.ptr 1 j 0 0)] [(1,some<|.box j 24 [qg d1.Nodes])]<|fB R Da (.inl R) (λ_=>R) R,oB [(70,.ptr 1 j 0 0)] [(1,some<|.box j 24 [qg d1.Nodes])]<|Zg (a:=qg d1.Nodes) R DY (.inl R) R R,oB [(5,rI q)] []<|Ze R<|.inl R,oB [(71,qg d1.Nodes),(72,rI q)] []<|Zr R Co.slice (.inl R) (.inl R) (λ_=>R) λ_=>M,oB [(73,.rop (Ae.row l) 0)] []<|ZN (cs:=(BR l)) R FI (.inl R) R R,oD (λ_=>[(74,.agg<|BR l)]) (λ_=>[]) λG1 e h' n=>ZJ (r:=.r<|.sl<|r1.map<|Ad .i64) (caps:=[]) (bs:=(Mm l)) R (.inl R) R ⟨.inl ⟨(.inl R),R⟩,Za⟩ λ_=>sG<|ad,Za⟩) λG1 n1=>?_
   refine Ay [1,5,59,60,61,62,63,64,65,66,67,68,69,70,71,72,73,74,75] [1] ?_
   refine Zc h7 λe1 ae h8=>cL (nM<|ae) R<|mA R<|aZ<|ac _<|aT λaf=>aG [1,6,59,60] [1] ?_
   refine aR<|mM R<|xU R<|aZ<|af _<|cI R h8 (λh9=>?_) λh9=>?_
   ·exact aU<|mM R<|mA R<|aZ<|Zj<|yI (a7 _<|xH J h9) R
   exact Zd<|ab _<|aR<|Zc h9 λx8 ag ah=>xA R ag<|mM R<|Zh<|Zx ah (AG [n1]) wk
  exact Zn<|a2 _ _ wk<|J2 _ (AG [(i8 0)])<|xH J h5
 refine Zz (λ(x2:Int) Z=>⟨[(1,.ptr 1 j 0 0),(13,rL d1.Nodes),(14,rI x2)],[(1,some<|.box j 24 [qg d1.Nodes])],(Z 0),81⟩) (AG [(j+1)]) C wk ?_
 intro x2 Z v2 ai u
 have O:M2 d1 x2=some v2:=ai;unfold M2 at O
 refine aU<|xS R<|aZ<|aT λaj=>cI R O (λw=>?_) λw=>?_
 ·refine Zd<|aj _<|aT λak=>Zf<|aU<|mM R<|mA R<|aZ<|aT λal=>aU<|lF Da DY R R<|mM R<|Zc w λx9 T an=>xI Co R T<|xB ((BR x9)) FI R<|Zc an λe2 ao aq=>cL (Y0<|ao) R<|mA R<|aZ<|aU<|mM R<|xU R<|aZ<|cI R aq (λA=>?_) λA=>?_
  ·refine aT λar=>aF [4] ?_
   exact aR<|mM R<|mA R<|aZ<|ar _<|Zj<|yI (E _<|xH u A) R
  refine Zd<|al _<|aT λav=>aG [1,3,13,14] [1] ?_
  refine ZA A8 (by kernel_rfl) ?_
  refine qP R (Ze R iL)<|qP R (Zs R iL iL)<|qP R (Ze R iL)<|qO R (fB R Da iL fR R)<|qO R (Zg (a:=qg d1.Nodes) R DY (iR R) R R)<|Zc A λaw U ax=>qO R (Zr R Co.slice (iR R) iL (λ_=>R)<|AN U)<|qO R (Zl R Ea<|iR R)<|qO R (ZB (d:=.int .i64 aw.ID) R AI (iR R) R)<|qO R (CP R (iR R) iL)<|qP R (ZG R iL<|iR R)<|qP R (Ze R iL)<|qO R (Ze R iL)<|qO R (Zy R (iR R) iL)<|qO R (Ze R<|iR R)<|qT R (fB R Da iL fR R)<|qT R (Zg (a:=qg d1.Nodes) R DY (iR R) R R)<|qT R (Ze R iL)<|qT R (Zr R Co.slice (iR R) (iR R) (λ_=>R) λ_=>T)<|qT R (Zl R Ea<|iR R)<|qT R (ZB (d:=.int .i64 x9.ID) R AI (iR R) R)<|qT R (fB R Da iL fR R)<|qT R (Zg (a:=qg d1.Nodes) R DY (iR R) R R)<|qT R (Ze R iL)<|Zc ax λb2 V ay=>qT R (Bu R (iR R) iL<|AN V)<|Zc ay λaz X b0=>qT R (Zr R Co.slice (iR R) (iR R) (λ_=>R)<|AN X)<|qT R (Zl R Ea<|iR R)<|qT R (ZB (d:=.int .i64 az.ID) R AI (iR R) R)<|qT R (Ez R (iR R)<|iR R)<|qO R (ZG R (iR R)<|iR R)<|qP R (B1 R iL<|iR R)<|AQ.nil<|av _<|cI R b0 (λB=>?_) λB=>?_
  ·exact zI (E _<|xH u B) R id
  exact Zd<|ak _<|aR<|Zc B λb3 Y b1=>xA R Y<|mM R<|Zh<|Zx b1 (AG [(Z 0)]) wk
 exact Zn<|a0 _ _ wk<|J1 _ (AG [(Z 0)])<|xH u w
theorem Xk{j n r}(h:Ib j n=some r):AM prog 59 [qa j,rS n] (rS r):=by
 unfold Ib at h
 refine mF func59 ntmps59 R λY=>aU<|mA R<|aZ<|aS λZ c2 A=>aU<|mM R<|xL AZ R<|mM R<|aZ<|Zf<|A5 h λo1 l B C=>?_
 have J1:∀(T:Unit) (U:NN),o1=.nrm T→Z ⟨[],[],(U 0),24⟩:=by
  intro T U e
  have h1:=B _ e
  exact c2 _<|aU<|mA R<|aZ<|Zj<|CX (P:=prog) (λ(r:(List UInt8))=>rS r) h1 iL<|.t<|.d R
 refine Zz (λ(E:Int) w=>⟨[(0,qa j),(1,rS n),(7,rL j),(8,rI E)],[],(w 0),24⟩) (AG [Y]) l wk ?_
 intro E w v1 F q
 have V:OI j n E=some v1:=F;unfold OI at V
 refine aU<|xS R<|aZ<|aT λc6=>cI R V (λI=>?_) λI=>?_
 ·refine Zd<|c6 _<|aT λc7=>Zf<|aU<|mM R<|mA R<|aZ<|aU<|mM R<|mM R<|Zc I λX u h4=>xI AZ R u<|sQ R (Zl R B0 iL)<|xV (.str X.Name) A2 R<|mM R<|sQ R (ZI R iL iL)<|aZ<|cI R h4 (λJ=>?_) λJ=>?_
  ·refine aT λM=>aF [0,5] ?_
   exact aR<|mM R<|mM R<|xI AZ R u<|sQ R (Zl R Hw iL)<|xV (.str X.Value) A2 R<|mA R<|aZ<|M _<|Zj<|CX (P:=prog) (λ(r:(List UInt8))=>rS r) (C _<|xH q J) iL<|.t<|.d R
  refine Zd<|c7 _<|aF [0,1,7,8] ?_
  exact aR<|Zc J λx5 O h6=>xA R O<|mM R<|Zh<|Zx h6 (AG [(w 0)]) wk
 exact Zn<|A _ _ wk<|J1 _ (AG [(w 0)])<|xH q I
theorem fD{j n r}(h:M4 j n=some r):AM prog 77 [qa j,rS n] (rB r):=by
 unfold M4 at h
 refine mF func77 ntmps77 R λV=>aU<|mA R<|aZ<|aS λX Y w=>aU<|mM R<|xL AZ R<|mM R<|aZ<|Zf<|A5 h λZ l A B=>?_
 have J1:∀(O:Unit) (T:NN),Z=.nrm O→X ⟨[],[],(T 0),19⟩:=by
  intro O T e
  have h1:=A _ e
  exact Y _<|zB h1 R id
 refine Zz (λ(C:Int) u=>⟨[(0,qa j),(1,rS n),(7,rL j),(8,rI C)],[],(u 0),19⟩) (AG [V]) l wk ?_
 intro C u v1 E q
 have U:O5 j n C=some v1:=E;unfold O5 at U
 refine aU<|xS R<|aZ<|aT λc6=>cI R U (λF=>?_) λF=>?_
 ·refine Zd<|c6 _<|aT λc7=>Zf<|aU<|mM R<|mA R<|aZ<|aU<|mM R<|mM R<|Zc F λx4 I h4=>xI AZ R I<|sQ R (Zl R B0 iL)<|xV (.str x4.Name) A2 R<|mM R<|sQ R (ZI R iL iL)<|aZ<|cI R h4 (λJ=>?_) λJ=>?_
  ·exact zB (B _<|xH q J) R id
  refine Zd<|c7 _<|aF [0,1,7,8] ?_
  exact aR<|Zc J λx5 M h6=>xA R M<|mM R<|Zh<|Zx h6 (AG [(u 0)]) wk
 exact Zn<|w _ _ wk<|J1 _ (AG [(u 0)])<|xH q F
theorem X4{f1 m r}(h:HS f1 m=some r):AM prog 27 [qb f1,rI m] (.r<|.sl<|r.map<|Ad .i64):=by
 unfold HS at h
 refine mF func27 ntmps27 R λX=>aU<|mA R<|aZ<|aU<|mA R<|aZ<|aS λK3 c3 Z=>aU<|mM R<|xL Ab R<|mM R<|aZ<|Zf<|Ar h λo1 M a0=>?_
 have J1:∀(q:List Int) (Y:NN),o1=q→K3 ⟨[(5,.own 5005<|Y 0)],[(5005,some<|.arr (Y 0) 3 1<|q.map<|Ad .i64)],(Y 1),58⟩:=by
  intro q Y e
  have h1:=a0 _ e
  exact c3 _<|aU<|mM R<|mA R<|aZ<|Zj<|CX (P:=prog) (λ(r:(List Int))=>.r<|.sl<|r.map<|Ad .i64) h1 iL<|.t<|.one<|.own R
 refine ZL (λ(B:Int) (l:List Int) u=>⟨[(0,qb f1),(1,rI m),(5,.own 5005<|u 0),(10,rL f1),(11,rI B)],[(5005,some<|.arr (u 0) 3 1<|l.map<|Ad .i64)],(u 1),58⟩) (AG [X,(X+1)]) M (Zm (Zm (ZR 5 5005 3 1 (by decide) R)<|by exact ZC (e':=[(0,qb f1),(1,rI m),(4,cZ),(5,.own 5005 X),(9,qb f1),(10,rL f1),(11,rI 0)]) (h':=[(5005,some<|.arr X 3 1<|([]:List Int).map<|Ad .i64)]) ⟨jL,jL,jL,jL,jL,jL,jL,Za⟩ ⟨.inl R,Za⟩ nL) wk) ?_
 intro B l u v1 a1 a2
 have h2:MG f1 m B l=some v1:=a1;unfold MG at h2
 refine aU<|xS R<|aZ<|aT λc7=>cI R h2 (λh3=>?_) λh3=>?_
 ·refine Zd<|c7 _<|aS λK8 c8 O=>Zf<|Ar h3 λp1 a6 a7=>?_
  have J2:∀(w:List Int) (J:NN),p1=w→K8 ⟨[(0,qb f1),(1,rI m),(5,.own 5005<|J 0),(10,rL f1),(11,rI B)],[(5005,some<|.arr (J 0) 3 1<|w.map<|Ad .i64)],(J 1),58⟩:=by
   intro w J e
   have h4:=a7 _ e
   exact c8 _<|aR<|Zc h4 λx4 a8 h5=>xA R a8<|mM R<|Zh<|ZH h5 (AG [(J 0),(J 1)]) wk
  refine aU<|mM R<|mA R<|aZ<|aU<|mM R<|mM R<|Zc a6 λx5 T h6=>xI Ab R T<|sQ R (Zl R B9 iL)<|xV (.sl<|x5.Attrs.map AD.row) A1 R<|mA R<|aZ<|aU<|mM R<|Zc h6 λr1 aa h7=>cL (Xk<|aa) R<|sQ R (DH R iL iL)<|mA R<|aZ<|aS λab ac A=>aT λad=>aG [0,1,5,6,7,8,10,11] [5005] ?_
  refine aR<|mM R<|xQ R<|mM R<|vM R<|Zc h7 λr2 ae h8=>vL (λhg=>fD<|AN ae hg) R<|xN R<|mM R<|vM R<|vQ R (Zs R (iR R) iL)<|vQ R (Ze R<|iR R)<|wQ R (Ze R iL)<|Zc h8 λr3 af h9=>AL.stepW (.two R R R) R R (Du (r:=rB r3) (caps:=[]) (bs:=[qa x5.Attrs,.r<|.str [97,100,100]]) R iL R ⟨⟨_,(iR R),.d R⟩,⟨_,iL,.d R⟩,Za⟩ (λhg=>fD<|AN af hg) R)<|vQ R (ZG R (iR R)<|iR R)<|xO R<|aZ<|ad _<|Ar h9 λp2 U ag=>?_
  have J3:∀(j:Bool) (V:NN),p2=j→ab ⟨[(0,qb f1),(1,rI m),(5,.own 5005<|u 0),(6,rI B),(8,rB j),(10,rL f1),(11,rI B)],[(5005,some<|.arr (u 0) 3 1<|l.map<|Ad .i64)],(V 0),58⟩:=by
   intro j V e
   have ah:=ag _ e
   refine ac _<|aU<|mM R<|mM R<|vM R<|vM R<|vQ R (Bd R Ab.slice<|iR R)<|Zc ah λx6 ai aj=>vQ R (Bu R (iR R) iL<|AN ai)<|vQ R (Zs R (iR R)<|iR R)<|vQ R (Ze R<|iR R)<|wQ R (Ze R iL)<|wQ R (Ze R iL)<|wQ R (Zr R Ab.slice (iR R) (iR R) (λ_=>R) λ_=>T)<|wQ R (Zl R De<|iR R)<|wQ R (ZB (d:=.int .i64 x5.Char) R AI (iR R) R)<|wQ R (Zs R (iR R) iL)<|vQ R (ZG R (iR R)<|iR R)<|xO R<|aZ<|cI R aj (λC=>?_) λC=>?_
   ·exact aR<|mM R<|mM R<|sS R (ZK 54 R Bl (f:=(Ad .i64)) (l:=([B]:List Int)) ⟨R,⟨_,iL,R⟩,Za⟩ R (λ_=>R) R)<|Zc C λal E ak=>sS R (B6 R Bl iL R (.inr<|.inl ⟨_,_,iL,R⟩) E)<|mA R<|Zh<|O _ _ wk<|J2 _ (AG [((V 0)+1),((V 0)+2)]) (Zb ak).symm
   exact Zd<|O _ _ wk<|J2 _ (AG [(u 0),(V 0)]) (Zb C).symm
  refine aC R (λF=>?_) λF=>?_
  ·have I:=Ba F U
   exact aR<|mA R<|Zh<|A _ _ wk<|J3 _ (AG [(u 1)]) (Zb I).symm
  ·have I:=Be F U
   exact Zd<|A _ _ wk<|J3 _ (AG [(u 1)]) (Zb I).symm
 exact Zn<|Z _ _ wk<|J1 _ (AG [(u 0),(u 1)])<|xH a2 h3
theorem hP{d1 l r}(h:JG d1 l=some r):AM prog 10 [.agg [qg d1.Nodes],.agg<|Aw l] (rI r):=by
 unfold JG at h
 refine mF func10 ntmps10 R λn0=>aU<|sS R (Zv (cs:=[qg d1.Nodes]) 2 R iL R R)<|sS R (Zv (cs:=(Aw l)) 3 R iL R R)<|mA R<|aZ<|aT λU=>aU<|xC Dk R<|Zc h λe1 q V=>cL (uu<|q) R<|mA R<|aZ<|aU<|mM R<|xU R<|aZ<|cI R V (λu=>?_) λu=>?_
 ·refine aT λX=>aF [5] ?_
  exact aR<|mM R<|mA R<|aZ<|X _<|Zj<|yI u R
 refine Zd<|U _<|aU<|xC Dk R<|lF KJ AI R R<|Zc u λi1 w Y=>cL (Sv<|w) R<|mA R<|aZ<|aT λZ=>aT λc8=>aG [2,3,6] [2,3] ?_
 refine aR<|mM R<|xS R<|aZ<|c8 _<|cI R Y (λA=>?_) λA=>?_
 ·exact zI A R id
 refine Zd<|Z _<|aT λB=>aU<|lF Da DY R R<|mM R<|Zc A λC j h5=>xI Co R j<|sQ R (Zl R Cc iL)<|xV (.int .i64 C.Kind) AI R<|Zc h5 λr1 E h6=>cL (Ru<|E) R<|sQ R (Zu R iL)<|aZ<|cI R h6 (λF=>?_) λF=>?_
 ·exact zI F R id
 refine Zd<|B _<|aT λI=>aT λJ=>aG [2,3,6] [2,3] ?_
 refine aR<|lF Da DY R R<|mM R<|xI Co R j<|sQ R (Zl R EW iL)<|xV (.sl<|C.Flow.map AC.row) Br R<|Zc F λr2 M h8=>sS R (ZJ (r:=.r<|.sl<|r2.map<|Ad .i64) (caps:=[]) (bs:=[qb C.Flow,rI 0]) R iL R ⟨.inl ⟨iL,R⟩,.inl ⟨iL,R⟩,Za⟩ λ_=>X4<|M)<|xL Bl R<|mA R<|aZ<|J _<|aT λO=>aG [3,7] [3] ?_
 refine aR<|lF Gi AI R R<|xS R<|mM R<|vF Jb AI R R<|vF Gi AI R R<|vQ R (Bp R (iR R)<|iR R)<|xO R<|mM R<|vF Jb AI R R<|vM R<|vQ R (Ca R (iR R)<|iR R)<|xO R<|aZ<|O _<|cI R h8 (λT=>?_) λT=>?_
 ·exact zI T R id
 exact Zd<|I _<|zI T R id
theorem Rm{l:B2}{E:Int}{r:AC}{j:Nat}(h:IN l E=some r):BL prog 74 1 [.ptr 1000 j 0 0,rI E] [(1000,some<|.box j 102<|A6 l)] (λu h'=>∃(i:Nat→Nat),u=.agg (Aa r)∧h'=[(1000,some<|.box j 102<|A6 l)]):=by
 unfold IN at h
 refine DU func74 R R ntmps74 (Zw R) λq=>aU<|sS R (Zq (cs:=EC) 4 R ED R R)<|aZ<|aT λF=>aU<|mM R<|xS R<|mM R<|vM R<|vM R<|vQ R (Zp (ob:=.box _ _ _) R (iR R) fR R)<|vQ R (fB R Nd (iR R) fR R)<|vQ R (Zg (a:=.r<|.sl<|l.shown.map<|Ad .i64) R Ph (iR R) R R)<|vQ R (Bd R Bl.slice<|iR R)<|vQ R (Ca R (iR R)<|iR R)<|xO R<|aZ<|cI R h (λA=>?_) λA=>?_
 ·refine aT λI=>aG [4] [4,1000] ?_
  refine aR ?_
  refine sQ R (ZD R H3 (q:=[(0,_)]) (by exact⟨R,R,R,iL,Za⟩) (cs:=LK)<|by rfl) ?_
  refine Zk R R (Zi (ds:=LK) R Cp iL R iL R R R R)<|oZ I ?_
  exact Zj<|ZM (s':=⟨[(4,.ptr 4 q 0 0)],[(4,some<|.box q 51 [rI 10,rI 0,.r<|.sl []]),(1000,some<|.box j 102<|A6 l)],(q+1),31⟩) ((by exact ZC ⟨jL,Za⟩ ⟨.inr<|.inr ⟨_,_,_,_,R,R,⟨.inl R,.inl R,.inr<|.inr ⟨R,R⟩,Za⟩⟩,.inl R,Za⟩ nL))<|ZE (λ(r:AC) u h'=>∃(i:Nat→Nat),u=.agg (Aa r)∧h'=[(1000,some<|.box j 102<|A6 l)]) A<|by exact⟨.agg [rI 10,rI 0,.r<|.sl []],[(1000,some<|.box j 102<|A6 l)],.inr ⟨_,R,CK,_,_,_,R,R⟩,⟨.inr R,Za⟩,R,R,AG [],R,R⟩
 refine Zd<|F _<|aT λJ=>aG [0,1,4] [4,1000] ?_
 refine Lm 14 A8 (by kernel_rfl) R R ?_
 refine Zt R R R (Ze R iL)<|Zt R R R (Zp (ob:=.box _ _ _) R iL fR R)<|Zt R R R (fB R Rp iL fR R)<|Zt R R R (fB R EW iL fR R)<|Zt R R R (Zg (a:=qb l.node.Flow) R Br iL R R)<|Zt R R R (Ze R iL)<|Zt R R R (Zp (ob:=.box _ _ _) R iL fR R)<|Zt R R R (fB R Nd iL fR R)<|Zt R R R (Zg (a:=.r<|.sl<|l.shown.map<|Ad .i64) R Ph iL R R)<|Zt R R R (Ze R iL)<|Zc A λM B O=>Zt R R R (Zr R Bl.slice iL iL (λ_=>R) λ_=>B)<|Zt R R R (ZB (d:=.int .i64 M) R AI iL R)<|Zc O λw C T=>Zt R R R (Zr R Ab.slice iL iL (λ_=>R) λ_=>C)<|Zt R R R (ZN (cs:=(Aa w)) R CK iL R R)<|AT.nil<|Zk R R (Zi (ds:=(Aa w)) R Cp iL R iL R R R R)<|oZ J ?_
 exact Zj<|ZM (s':=⟨[(4,.ptr 4 q 0 0)],[(4,some<|.box q 51<|Aa w),(1000,some<|.box j 102<|A6 l)],(q+1),31⟩) wk<|ZE (λ(r:AC) u h'=>∃(i:Nat→Nat),u=.agg (Aa r)∧h'=[(1000,some<|.box j 102<|A6 l)]) T<|by exact⟨.agg<|Aa w,[(1000,some<|.box j 102<|A6 l)],.inr ⟨_,R,CK,_,_,_,R,R⟩,⟨.inr R,Za⟩,R,R,AG [],R,R⟩
theorem o5{j v1 r}(h:TX j v1=some r):AM prog 146 [.r<|.sl<|j.map Qm,rS v1] (rI r):=by
 unfold TX at h
 refine mF func146 ntmps146 R λX=>aU<|mA R<|aZ<|aS λY Z w=>aU<|mM R<|xL SR R<|mM R<|aZ<|Zf<|A5 h λo1 l A B=>?_
 have J1:∀(T:Unit) (U:NN),o1=.nrm T→Y ⟨[],[],(U 0),19⟩:=by
  intro T U e
  have h1:=A _ e
  exact Z _<|zI h1 R id
 refine Zz (λ(C:Int) u=>⟨[(0,.r<|.sl<|j.map Qm),(1,rS v1),(7,rL j),(8,rI C)],[],(u 0),19⟩) (AG [X]) l wk ?_
 intro C u v2 E q
 have V:NZ j v1 C=some v2:=E;unfold NZ at V
 refine aU<|xS R<|aZ<|aT λc6=>cI R V (λF=>?_) λF=>?_
 ·refine Zd<|c6 _<|aT λc7=>Zf<|aU<|mM R<|mA R<|aZ<|aU<|mM R<|mM R<|mM R<|Zc F λx4 I h4=>xI SR R I<|xV (.str x4) A2 R<|sQ R (ZI R iL iL)<|aZ<|cI R h4 (λJ=>?_) λJ=>?_
  ·refine aT λM=>aF [5] ?_
   exact aR<|mM R<|mA R<|aZ<|M _<|Zj<|yI (B _<|xH q J) R
  refine Zd<|c7 _<|aF [0,1,7,8] ?_
  exact aR<|Zc J λx5 O h6=>xA R O<|mM R<|Zh<|Zx h6 (AG [(u 0)]) wk
 exact Zn<|w _ _ wk<|J1 _ (AG [(u 0)])<|xH q F
theorem jF{l v1 r}(h:Ms l v1=some r):AM prog 103 [.r<|.sl<|l.map Qm,rS v1] (rB r):=by
 unfold Ms at h
 exact mF func103 ntmps103 R λu=>aU<|mA R<|aZ<|aU<|mM R<|mM R<|Zc h λw j q=>cL (o5<|j) R<|sQ R (Ca R iL iL)<|mA R<|aZ<|Zj<|yB q R
theorem oh{n r}(h:Po n=some r):AM prog 100 [rS n] (rB r):=by
 unfold Po at h
 exact mF func100 ntmps100 R λq=>aU<|mA R<|aZ<|aU<|sS R (ZK 3 R SR (f:=Qm) (l:=([[98,111,108,100],[105,116,97,108,105,99],[117,110,100,101,114],[115,116,114,105,107,101],[102,105,120,101,100],[114,97,105,115,101],[115,105,122,101],[99,111,108,111,117,114],[108,97,110,103],[115,116,121,108,101]]:List (List UInt8))) ⟨R,⟨_,iL,R⟩,R,⟨_,iL,R⟩,R,⟨_,iL,R⟩,R,⟨_,iL,R⟩,R,⟨_,iL,R⟩,R,⟨_,iL,R⟩,R,⟨_,iL,R⟩,R,⟨_,iL,R⟩,R,⟨_,iL,R⟩,R,⟨_,iL,R⟩,Za⟩ R (λ_=>R) R)<|mM R<|Zc h λu j l=>cL (jF<|j) R<|mA R<|aZ<|Zj<|yB l R
theorem gL{n r}(h:Nz n=some r):AM prog 69 [rS n] (rB r):=by
 unfold Nz at h
 refine mF func69 ntmps69 R λA=>aU<|mA R<|aZ<|aT λq=>aR<|mM R<|sQ R (ZI R iL iL)<|mM R<|vM R<|vQ R (ZI R (iR R) iL)<|xO R<|mM R<|vM R<|vQ R (ZO R underlying9<|iR R)<|vQ R (Zy R (iR R) iL)<|vQ R (Ze R<|iR R)<|wQ R (Ze R iL)<|Zc h λB j u=>?_
 refine wQ R (IY R underlying9 (iR R) (by exact R) (by exact⟨_,iL⟩)<|AN j) ?_
 refine wQ R (ZI R (iR R) iL)<|vQ R (ZG R (iR R)<|iR R)<|xO R<|mM R<|vM R<|vQ R (ZO R underlying9<|iR R)<|vQ R (Zy R (iR R) iL)<|vQ R (Ze R<|iR R)<|wQ R (Ze R iL)<|Zc u λC l w=>?_
 refine wQ R (IY R underlying9 (iR R) (by exact R) (by exact⟨_,iL⟩)<|AN l) ?_
 exact wQ R (ZI R (iR R) iL)<|vQ R (ZG R (iR R)<|iR R)<|xO R<|mA R<|aZ<|q _<|Zj<|yB w R
theorem X9{w:List AD}{A:AD}{B:AD}{r:(List AD)}{j:Nat}{l:Nat}(h:KO w A B=some r):BL prog 145 2 [.agg<|A4 A,.agg<|A4 B,.ptr 1000 j 0 0] [(1000,some<|.box j 39 [.own 1001 l]),(1001,some<|.arr l 58 2<|w.map AD.row)] (λu h'=>∃(i:Nat→Nat),u=.tup []∧h'=[(1000,some<|.box j 39 [.own 1001<|i 0]),(1001,some<|.arr (i 0) 58 2<|r.map AD.row)]):=by
 unfold KO at h
 refine DU func145 R R ntmps145 (Zw R) λq=>aU<|sS R (Zv (cs:=(A4 A)) 3 R iL R R)<|sS R (Zv (cs:=(A4 B)) 4 R iL R R)<|aZ<|Zf<|aU<|lF B0 A2 R R<|sQ R (ZI R iL iL)<|mA R<|aZ<|cI R h (λC=>?_) λC=>?_
 ·refine aR<|sQ R (Zg (a:=.own 1001 l) R A1 iL R R)<|xC By R<|sS R (ZK 11 R AZ (f:=AD.row) (l:=([A]:List AD)) ⟨R,⟨_,iL,R⟩,Za⟩ R (λ_=>R) R)<|Zc C λJ E O=>sS R (B6 R AZ iL R (.inr<|.inl ⟨_,_,iL,R⟩) E)<|Zk R R (Zi (ds:=[.own 1001<|q+3]) R Fj iL R iL R R R R)<|Zh ?_
  exact ZM (s':=⟨[],[(1000,some<|.box j 39 [.own 1001<|q+3]),(1001,some<|.arr (q+3) 58 2<|J.map AD.row)],(q+4),21⟩) wk<|ZE (λ(r:(List AD)) u h'=>∃(i:Nat→Nat),u=.tup []∧h'=[(1000,some<|.box j 39 [.own 1001<|i 0]),(1001,some<|.arr (i 0) 58 2<|r.map AD.row)]) O<|by exact⟨.tup [],[(1000,some<|.box j 39 [.own 1001<|q+3]),(1001,some<|.arr (q+3) 58 2<|J.map AD.row)],⟨_,R,Za⟩,⟨.inr R,.inr R,Za⟩,R,R,AG [(q+3)],R,R⟩
 refine aU<|lF Hw A2 R R<|sQ R (DH R iL iL)<|mA R<|aZ<|cI R C (λF=>?_) λF=>?_
 ·refine aG [2,4] [4,1000,1001] ?_
  refine aR<|sQ R (Zg (a:=.own 1001 l) R A1 iL R R)<|xC By R<|sS R (ZK 19 R AZ (f:=AD.row) (l:=([B]:List AD)) ⟨R,⟨_,iL,R⟩,Za⟩ R (λ_=>R) R)<|Zc F λM I T=>sS R (B6 R AZ iL R (.inr<|.inl ⟨_,_,iL,R⟩) I)<|Zk R R (Zi (ds:=[.own 1001<|q+3]) R Fj iL R iL R R R R)<|Zh ?_
  exact ZM (s':=⟨[],[(1000,some<|.box j 39 [.own 1001<|q+3]),(1001,some<|.arr (q+3) 58 2<|M.map AD.row)],(q+4),21⟩) wk<|ZE (λ(r:(List AD)) u h'=>∃(i:Nat→Nat),u=.tup []∧h'=[(1000,some<|.box j 39 [.own 1001<|i 0]),(1001,some<|.arr (i 0) 58 2<|r.map AD.row)]) T<|by exact⟨.tup [],[(1000,some<|.box j 39 [.own 1001<|q+3]),(1001,some<|.arr (q+3) 58 2<|M.map AD.row)],⟨_,R,Za⟩,⟨.inr R,.inr R,Za⟩,R,R,AG [(q+3)],R,R⟩
 refine Zd ?_
 exact ZM (s':=⟨[],[(1000,some<|.box j 39 [.own 1001 l]),(1001,some<|.arr l 58 2<|w.map AD.row)],(q+2),21⟩) wk<|ZE (λ(r:(List AD)) u h'=>∃(i:Nat→Nat),u=.tup []∧h'=[(1000,some<|.box j 39 [.own 1001<|i 0]),(1001,some<|.arr (i 0) 58 2<|r.map AD.row)]) F<|by exact⟨.tup [],[(1000,some<|.box j 39 [.own 1001 l]),(1001,some<|.arr l 58 2<|w.map AD.row)],⟨_,R,Za⟩,⟨.inr R,.inr R,Za⟩,R,R,AG [l],R,R⟩
theorem qA{c1:List AD}{B:List AD}{C:List AD}{r:(List AD)}{j:Nat}{l:Nat}(h:Qg c1 B C=some r):BL prog 144 2 [qa B,qa C,.fn 145 [.ptr 1000 j 0 0]] [(1000,some<|.box j 39 [.own 1001 l]),(1001,some<|.arr l 58 2<|c1.map AD.row)] (λE h'=>∃(i:Nat→Nat),E=.tup []∧h'=[(1000,some<|.box j 39 [.own 1001<|i 0]),(1001,some<|.arr (i 0) 58 2<|r.map AD.row)]):=by
 unfold Qg at h
 refine DU func144 R R ntmps144 (Zw R) λn0=>aU<|mA R<|mA R<|aZ<|Zf<|A5 h λo4 w av F=>H0 (λ(I:Int) (J:Int) (o2:List AD) q=>⟨[(0,qa B),(1,qa C),(2,.fn 145 [.ptr 1000 j 0 0]),(6,rI I),(7,rI J)],[(1000,some<|.box j 39 [.own 1001<|q 0]),(1001,some<|.arr (q 0) 58 2<|o2.map AD.row)],(q 1),92⟩) (AG [l,n0]) w wk ?_
 intro I J o2 q v1 M O
 have h1:RN B C I J o2=some v1:=M;unfold RN at h1
 refine aT λC2=>aU<|mM R<|mM R<|xL AZ R<|xS R<|mM R<|vM R<|vM R<|vQ R (Bd R AZ.slice<|iR R)<|vQ R (Bp R (iR R)<|iR R)<|xO R<|aZ<|cI R h1 (λT=>?_) λT=>?_
 ·refine Zd<|C2 _<|Zf<|Zf<|aT λC4=>?_
  refine ZA A8 (by kernel_rfl) ?_
  refine qP R (Ze R iL)<|qP R (Ze R iL)<|qP R (Bd R AZ.slice iL)<|qP R (Zs R iL iL)<|qP R (Ze R iL)<|qO R (Ze R iL)<|qO R (Ze R iL)<|qO R (Bd R AZ.slice<|iR R)<|qO R (Bp R (iR R)<|iR R)<|qO R (Ze R<|iR R)<|qT R (Ze R iL)<|qT R (Ze R iL)<|Zc T λx1 U h3=>qT R (Zr R AZ.slice (iR R) (iR R) (λ_=>R)<|AN U)<|qT R (Zl R B0<|iR R)<|qT R (ZB (d:=.str x1.Name) R A2 (iR R) R)<|qT R (Ze R iL)<|qT R (Ze R iL)<|Zc h3 λx2 V h4=>qT R (Zr R AZ.slice (iR R) (iR R) (λ_=>R)<|AN V)<|qT R (Zl R B0<|iR R)<|qT R (ZB (d:=.str x2.Name) R A2 (iR R) R)<|qT R (Jw R (iR R)<|iR R)<|qO R (ZG R (iR R)<|iR R)<|qP R (B1 R iL<|iR R)<|qP R (DQ R iL)<|AQ.nil<|C4 _<|cI R h4 (λX=>?_) λX=>?_
  ·refine aT λC5=>aG [0,1,2,6,7] [1000,1001] ?_
   refine aR<|mM R<|mM R<|mM R<|Zc X λx3 Y h6=>xI AZ R Y<|xB ((A4 x3)) By R ?_
   refine sQ R (ZD R Fy (q:=[]) (by exact Za) (cs:=[.r<|.str [],.r<|.str []])<|by rfl) ?_
   refine Zc h6 λw1 Z h7=>?_
   refine Zo [1000,1001] (hc:=[(1000,some<|.box j 39 [.own 1001<|q 0]),(1001,some<|.arr (q 0) 58 2<|o2.map AD.row)]) (bs:=(VS x3)) (caps:=[.ptr 1000 j 0 0]) R R R R iL R ⟨.inl ⟨iL,R⟩,.inl ⟨iL,R⟩,Za⟩ ⟨R,R,R,R,R,R,Za⟩ (by decide) (X9 Z) ?_
   intro i8 n1
   refine Ay [0,1,2,6,7,56,57,58,59,60,61,62] [1000,1001] ?_
   exact aZ<|C5 _<|aR<|mM R<|Zc h7 λi9 a0 h8=>xA R a0<|mA R<|Zh<|DO.mk h8 (AG [(i8 0),n1]) wk
  refine aT λC6=>aG [0,1,2,6,7] [1000,1001] ?_
  refine ZA A8 (by kernel_rfl) ?_
  refine qP R (Ze R iL)<|qP R (Ze R iL)<|qP R (Bd R AZ.slice iL)<|qP R (Zs R iL iL)<|qP R (Ze R iL)<|qO R (Ze R iL)<|qO R (Ze R iL)<|Zc X λx4 a2 h9=>qO R (Zr R AZ.slice (iR R) (iR R) (λ_=>R)<|AN a2)<|qO R (Zl R B0<|iR R)<|qO R (ZB (d:=.str x4.Name) R A2 (iR R) R)<|qO R (Ze R iL)<|qO R (Ze R iL)<|Zc h9 λx5 a6 a7=>qO R (Zr R AZ.slice (iR R) (iR R) (λ_=>R)<|AN a6)<|qO R (Zl R B0<|iR R)<|qO R (ZB (d:=.str x5.Name) R A2 (iR R) R)<|qO R (Jw R (iR R)<|iR R)<|qP R (B1 R iL<|iR R)<|qP R (DQ R iL)<|AQ.nil<|C6 _<|cI R a7 (λu=>?_) λu=>?_
  ·refine aT λC7=>aR<|mM R ?_
   refine sQ R (ZD R Fy (q:=[]) (by exact Za) (cs:=[.r<|.str [],.r<|.str []])<|by rfl) ?_
   refine mM R<|mM R<|Zc u λx6 a8 aa=>xI AZ R a8<|xB ((A4 x6)) By R<|Zc aa λw2 ab ac=>?_
   refine Zo [1000,1001] (hc:=[(1000,some<|.box j 39 [.own 1001<|q 0]),(1001,some<|.arr (q 0) 58 2<|o2.map AD.row)]) (bs:=(Wr x6)) (caps:=[.ptr 1000 j 0 0]) R R R R iL R ⟨.inl ⟨iL,R⟩,.inl ⟨iL,R⟩,Za⟩ ⟨R,R,R,R,R,R,Za⟩ (by decide) (X9 ab) ?_
   intro ad n2
   refine Ay [0,1,2,6,7,65,66,67,68,69,70,82,83,84,85,86,87,88,89] [1000,1001] ?_
   refine aZ<|C7 _<|aG [0,1,2,6,7] [1000,1001] ?_
   exact aR<|mM R<|Zc ac λj4 ae af=>xA R ae<|mA R<|Zh<|DO.mk af (AG [(ad 0),n2]) wk
  refine aT λC8=>?_
  refine Lm 9 A8 (by kernel_rfl) R R ?_
  refine Zt R R R (Ze R iL)<|Zt R R R (Ze R iL)<|Zt R R R (Ze R iL)<|Zc u λx7 ag ah=>Zt R R R (Zr R AZ.slice iL iL (λ_=>R) λ_=>ag)<|Zt R R R (ZN (cs:=(A4 x7)) R By iL R R)<|Zt R R R (Ze R iL)<|Zt R R R (Ze R iL)<|Zc ah λx8 ai aj=>Zt R R R (Zr R AZ.slice iL iL (λ_=>R) λ_=>ai)<|Zt R R R (ZN (cs:=(A4 x8)) R By iL R R)<|AT.nil<|Zc aj λw3 ak al=>?_
  refine Zo [1000,1001] (hc:=[(1000,some<|.box j 39 [.own 1001<|q 0]),(1001,some<|.arr (q 0) 58 2<|o2.map AD.row)]) (bs:=[.agg<|A4 x7,.agg<|A4 x8]) (caps:=[.ptr 1000 j 0 0]) R R R R iL R ⟨.inl ⟨iL,R⟩,.inl ⟨iL,R⟩,Za⟩ ⟨R,R,R,R,R,R,Za⟩ (by decide) (X9 ak) ?_
  intro an n3
  refine Ay [0,1,2,6,7,18,19,20,21,22,23,24,25,26,27,65,66,67,68,69,70,82] [1000,1001] ?_
  refine aZ<|C8 _<|aG [0,1,2,6,7] [1000,1001] ?_
  exact aR<|mM R<|Zc al λaw A ao=>xA R A<|mM R<|Zc ao λj5 aq ar=>xA R aq<|mA R<|mA R<|Zh<|DO.mk ar (AG [(an 0),n3]) wk
 refine Zn ?_
 exact ZM (s':=⟨[],[(1000,some<|.box j 39 [.own 1001<|q 0]),(1001,some<|.arr (q 0) 58 2<|o2.map AD.row)],(q 1),92⟩) wk<|ZE (λ(r:(List AD)) E h'=>∃(i:Nat→Nat),E=.tup []∧h'=[(1000,some<|.box j 39 [.own 1001<|i 0]),(1001,some<|.arr (i 0) 58 2<|r.map AD.row)]) (F _<|xH O T)<|by exact⟨.tup [],[(1000,some<|.box j 39 [.own 1001<|q 0]),(1001,some<|.arr (q 0) 58 2<|o2.map AD.row)],⟨_,R,Za⟩,⟨.inr R,.inr R,Za⟩,R,R,AG [(q 0)],R,R⟩
theorem XG{l c r}(h:Lj l c=some r):AM prog 102 [qa l,qa c] (qa r):=by
 unfold Lj at h
 refine mF func102 ntmps102 R λj=>aU<|mA R<|aZ<|aU<|sS R (Zq (cs:=[cZ]) 5 R Xu R R)<|aZ<|aT λu=>aR<|mM R<|mM R ?_
 refine sQ R (N9 (bs:=[.ptr 5 j 0 0]) R<|by exact⟨iL,Za⟩) ?_
 refine AL.weak (Zm (Ek 5 0 3050 58 2 (by decide) R R<|by decide)<|by exact ZC (e':=[(0,qa l),(1,qa c),(4,cZ),(5,.ptr 5 j 0 0),(6,qa l),(7,qa c),(8,.fn 145 [.ptr 5 j 0 0])]) (h':=[(5,some<|.box j 39 [.own 3050<|j+1]),(3050,some<|.arr (j+1) 58 2<|([]:List AD).map AD.row)]) ⟨jL,jL,jL,jL,jL,jL,jL,Za⟩ ⟨.inl R,.inl R,Za⟩ nL) ?_
 refine Zc h λB q w=>?_
 refine Zo [5,3050] (hc:=[(1000,some<|.box j 39 [.own 1001<|j+1]),(1001,some<|.arr (j+1) 58 2<|([]:List AD).map AD.row)]) (bs:=[qa l,qa c,.fn 145 [.ptr 1000 j 0 0]]) (caps:=[]) R R R R iL R ⟨.inl ⟨iL,R⟩,.inl ⟨iL,R⟩,.inl ⟨iL,R⟩,Za⟩ ⟨R,R,R,R,R,R,Za⟩ (by decide) (qA q) ?_
 intro A C
 refine Ay [0,1,4,5,6,7,8,9] [5,3050] ?_
 exact aZ<|u _<|aU<|sQ R (Zg (a:=.own 3050<|A 0) R A1 iL R R)<|mA R<|aZ<|Zj<|CX (P:=prog) (λ(r:(List AD))=>qa r) w iL<|.t<|.one<|.own R
theorem nZ{A:B2}{I:Int}{r:(List AD)}{j:Nat}(h:PL A I=some r):BL prog 50 1 [.ptr 1000 j 0 0,rI I] [(1000,some<|.box j 102<|A6 A)] (λrr h'=>∃(i:Nat→Nat),rr=qa r∧h'=[(1000,some<|.box j 102<|A6 A)]):=by
 unfold PL at h
 refine DU func50 R R ntmps50 (Zw R) λn0=>aU<|mA R<|aZ<|aT λc2=>aR<|mM R<|mM R<|Zc h λx1 aq h1=>sQ R (Bu R iL iL λ_=>aq)<|Zc h1 λB ar h2=>?_
 refine Zo [1000] (hc:=[(1000,some<|.box j 102<|A6 A)]) (bs:=[.ptr 1000 j 0 0,rI x1]) (caps:=[]) R R R R iL R ⟨.inl ⟨iL,R⟩,.inl ⟨iL,R⟩,Za⟩ ⟨R,R,R,Za⟩ (by decide) (Rm ar) ?_
 intro i1 n1
 refine Ay [0,1,4,13,14,15,16] [1000] ?_
 refine mM R<|mM R<|Zc h2 λE av h3=>?_
 refine Zo [1000] (hc:=[(1000,some<|.box j 102<|A6 A)]) (bs:=[.ptr 1000 j 0 0,rI I]) (caps:=[]) R R R R iL R ⟨.inl ⟨iL,R⟩,.inl ⟨iL,R⟩,Za⟩ ⟨R,R,R,Za⟩ (by decide) (Rm av) ?_
 intro i2 q
 refine Ay [0,1,4,13,14,15,16,17,18,19] [1000] ?_
 refine sS R (Zq (cs:=EC) 5 R ED R R)<|sS R (Zq (cs:=EC) 6 R ED R R)<|Zk R R (Zi (ds:=(Aa B)) R Cp iL R iL R R R R)<|Zk R R (Zi (ds:=(Aa E)) R Cp iL R iL R R R R)<|aZ<|c2 _<|aT λc3=>aG [1,5,6] [5,6,1000] ?_
 refine aR<|xC CK R<|sS R (Zq (cs:=EC) 7 R ED R R)<|Zk R R (Zi (ds:=(Aa B)) R Cp iL R iL R R R R)<|aZ<|c3 _<|aS λK4 c4 ae=>aU<|lF De AI R R<|xQ R<|aZ<|Ar h3 λp1 af aw=>?_
 have J1:∀(l:AC) (V:NN),p1=l→K4 ⟨[(1,rI I),(5,.ptr 5 q 0 0),(6,.ptr 6 (q+1) 0 0),(7,.ptr 7 (q+2) 0 0)],[(5,some<|.box q 51<|Aa B),(6,some<|.box (q+1) 51<|Aa E),(7,some<|.box (q+2) 51<|Aa l),(1000,some<|.box j 102<|A6 A)],(V 0),73⟩:=by
  intro l V e
  have h4:=aw _ e
  refine c4 _<|aU<|mA R<|aZ<|aS λK7 c7 ag=>aU<|lF De AI R R<|xU R<|aZ<|Ar h4 λp2 ah ax=>?_
  have J2:∀(J:List AD) (i4:NN),p2=J→K7 ⟨[(1,rI I),(5,.ptr 5 q 0 0),(6,.ptr 6 (q+1) 0 0),(8,.own 5008<|i4 0)],[(5,some<|.box q 51<|Aa B),(6,some<|.box (q+1) 51<|Aa E),(1000,some<|.box j 102<|A6 A),(5008,some<|.arr (i4 0) 58 2<|J.map AD.row)],(i4 1),73⟩:=by
   intro J i4 e
   have h5:=ax _ e
   refine c7 _<|aS λK9 c9 ay=>aU<|lF B9 A1 R R<|xL AZ R<|mM R<|aZ<|Zf<|Ar h5 λo1 ai az=>?_
   have J3:∀(C:List AD) (i9:NN),o1=C→K9 ⟨[(8,qa C)],[(1000,some<|.box j 102<|A6 A)],(i9 0),73⟩:=by
    intro C i9 e
    have h6:=az _ e
    refine c9 _<|aU<|mM R<|mA R<|aZ ?_
    exact Zj<|ZM (s':=⟨[(4,qa C)],[(1000,some<|.box j 102<|A6 A)],(i9 0),73⟩) wk<|ZE (λ(r:(List AD)) rr h'=>∃(i:Nat→Nat),rr=qa r∧h'=[(1000,some<|.box j 102<|A6 A)]) h6<|by exact⟨qa C,[(1000,some<|.box j 102<|A6 A)],R,⟨.inr R,Za⟩,R,R,AG [],R,R⟩
   refine ZL (λ(w:List AD) (x3:Int) i7=>⟨[(1,rI I),(6,.ptr 6 (q+1) 0 0),(8,qa w),(44,qa B.Attrs),(45,rL B.Attrs),(46,rI x3)],[(6,some<|.box (q+1) 51<|Aa E),(1000,some<|.box j 102<|A6 A)],(i7 0),73⟩) (AG [(i4 1)]) ai (Zm (by exact Ag.frz (e':=[(1,rI I),(5,.ptr 5 q 0 0),(6,.ptr 6 (q+1) 0 0),(8,qa J),(43,.ptr 5 q 0 2),(44,qa B.Attrs),(45,rL B.Attrs),(46,rI 0)]) (h':=[(5,some<|.box q 51<|Aa B),(6,some<|.box (q+1) 51<|Aa E),(1000,some<|.box j 102<|A6 A)]) 5008 R ⟨jL,jL,jL,.inl<|.inr<|.inr ⟨R,R⟩,jL,jL,jL,jL,Za⟩ ⟨R,.inl R,R,.inl R,R,.inl R,Za⟩) wk) ?_
   intro w x3 i7 v1 b0 b1
   have h7:KI I B E w x3=some v1:=b0;unfold KI at h7
   refine aU<|xS R<|aZ<|aT λb2=>cI R h7 (λh8=>?_) λh8=>?_
   ·refine Zd<|b2 _<|aS λb3 b4 Y=>Zf<|Ar h8 λp3 b5 b6=>?_
    have J4:∀(T:List AD) (a0:NN),p3=T→b3 ⟨[(1,rI I),(6,.ptr 6 (q+1) 0 0),(8,qa T),(44,qa B.Attrs),(45,rL B.Attrs),(46,rI x3)],[(6,some<|.box (q+1) 51<|Aa E),(1000,some<|.box j 102<|A6 A)],(a0 0),73⟩:=by
     intro T a0 e
     have h9:=b6 _ e
     exact b4 _<|aR<|Zc h9 λx5 b7 b8=>xA R b7<|mM R<|Zh<|ZH b8 (AG [(a0 0)]) wk
    refine aU<|Zc b5 λO b9 ba=>xI AZ R b9<|xB ((A4 O)) By R<|sS R (Zq (cs:=[.r<|.str [],.r<|.str []]) 12 R Kf R R)<|Zk R R (Zi (ds:=(A4 O)) R I6 iL R iL R R R R)<|aZ<|aT λbb=>?_
    refine ZA A8 (by kernel_rfl) ?_
    refine qP R (fB R B0 iL fR R)<|qP R (Zg (a:=rS O.Name) R A2 iL R R)<|Zc ba λr3 bc bd=>EQ R R R (r:=rB r3) (caps:=[]) (bs:=[rS O.Name]) R iL R ⟨⟨_,iL,.d R⟩,Za⟩ (λ_=>gL<|bc) R<|qP R (Ze R iL)<|qO R (Ze R iL)<|qO R (Zy R (iR R) iL)<|qP R (ZG R iL<|iR R)<|qP R (Ze R iL)<|qO R (fB R B9 iL fR R)<|qO R (Zg (a:=qa E.Attrs) R A1 (iR R) R R)<|qO R (fB R B0 iL fR R)<|qO R (Zg (a:=rS O.Name) R A2 (iR R) R R)<|Zc bd λr4 be bf=>G0 (.one R R R) R R (r:=rS r4) (caps:=[]) (bs:=[qa E.Attrs,rS O.Name]) R iL R ⟨⟨_,(iR R),.d R⟩,⟨_,(iR R),.d R⟩,Za⟩ (λhg=>Om<|AN be hg) R<|qO R (fB R Hw iL fR R)<|qO R (Zg (a:=rS O.Value) R A2 (iR R) R R)<|qO R (ZI R (iR R)<|iR R)<|qP R (ZG R iL<|iR R)<|AQ.nil<|bb _<|cI R bf (λa1=>?_) λa1=>?_
    ·refine aG [1,6,8,12,44,45,46] [6,12,1000] ?_
     refine aR<|mM R<|xC By R<|sS R (ZK 69 R AZ (f:=AD.row) (l:=([O]:List AD)) ⟨R,⟨_,iL,R⟩,Za⟩ R (λ_=>R) R) ?_
     refine AL.weak (by exact Ag.frz (e':=[(1,rI I),(6,.ptr 6 (q+1) 0 0),(8,qa w),(12,.ptr 12 (i7 0) 0 0),(44,qa B.Attrs),(45,rL B.Attrs),(46,rI x3),(67,qa w),(68,.agg<|A4 O),(69,.r<|.sl<|[O].map AD.row)]) (h':=[(6,some<|.box (q+1) 51<|Aa E),(12,some<|.box (i7 0) 58<|A4 O),(1000,some<|.box j 102<|A6 A)]) 69 R ⟨jL,jL,jL,jL,jL,jL,jL,jL,jL,.inl<|.inr<|.inr ⟨R,R⟩,Za⟩ ⟨R,.inl R,R,.inl R,R,.inl R,Za⟩) ?_
     exact Zc a1 λaj a2 bg=>sS R (ZJ (r:=qa aj) (caps:=[]) (bs:=[qa w,.r<|.sl<|[O].map AD.row]) R iL R ⟨.inl ⟨iL,R⟩,.inl ⟨iL,R⟩,Za⟩ λ_=>XG<|a2)<|mA R<|Zh<|Y _ _ wk<|J4 _ (AG [((i7 0)+2)]) (Zb bg).symm
    exact Zd<|Y _ _ wk<|J4 _ (AG [((i7 0)+1)]) (Zb a1).symm
   exact Zn<|ay _ _ wk<|J3 _ (AG [(i7 0)])<|xH b1 h8
  refine aC R (λa6=>?_) λa6=>?_
  ·have a7:=Ba a6 ah
   refine aU<|lF B9 A1 R R<|xL AZ R<|mM R<|aZ<|Zf<|A5 a7 λo2 ak bw bh=>?_
   refine ZL (λ(x8:Int) (U:List AD) u=>⟨[(1,rI I),(5,.ptr 5 q 0 0),(6,.ptr 6 (q+1) 0 0),(8,.own 5008<|u 0),(29,qa l.Attrs),(30,rL l.Attrs),(31,rI x8)],[(5,some<|.box q 51<|Aa B),(6,some<|.box (q+1) 51<|Aa E),(1000,some<|.box j 102<|A6 A),(5008,some<|.arr (u 0) 58 2<|U.map AD.row)],(u 1),73⟩) (AG [(V 0),((V 0)+1)]) ak (Zm (Zm (ZR 8 5008 58 2 (by decide) R)<|by exact ZC (e':=[(1,rI I),(5,.ptr 5 q 0 0),(6,.ptr 6 (q+1) 0 0),(7,.ptr 7 (q+2) 0 0),(8,.own 5008<|V 0),(25,.ptr 7 (q+2) 0 0),(26,rI l.Char),(27,rB<|(!(l.Char=10))),(28,.ptr 7 (q+2) 0 2),(29,qa l.Attrs),(30,rL l.Attrs),(31,rI 0)]) (h':=[(5,some<|.box q 51<|Aa B),(6,some<|.box (q+1) 51<|Aa E),(7,some<|.box (q+2) 51<|Aa l),(1000,some<|.box j 102<|A6 A),(5008,some<|.arr (V 0) 58 2<|([]:List AD).map AD.row)]) ⟨jL,jL,jL,jL,jL,jL,jL,jL,jL,jL,jL,jL,Za⟩ ⟨.inl R,.inl R,.inl R,.inl R,.inl R,Za⟩ nL) wk) ?_
   intro x8 U u v2 bi bj
   have al:Kw l x8 U=some v2:=bi;unfold Kw at al
   refine aU<|xS R<|aZ<|aT λbk=>cI R al (λa8=>?_) λa8=>?_
   ·refine Zd<|bk _<|aS λbl bm Z=>Zf<|Ar a8 λp4 bn bo=>?_
    have J6:∀(F:List AD) (M:NN),p4=F→bl ⟨[(1,rI I),(5,.ptr 5 q 0 0),(6,.ptr 6 (q+1) 0 0),(8,.own 5008<|M 0),(29,qa l.Attrs),(30,rL l.Attrs),(31,rI x8)],[(5,some<|.box q 51<|Aa B),(6,some<|.box (q+1) 51<|Aa E),(1000,some<|.box j 102<|A6 A),(5008,some<|.arr (M 0) 58 2<|F.map AD.row)],(M 1),73⟩:=by
     intro F M e
     have bp:=bo _ e
     exact bm _<|aR<|Zc bp λbx an bq=>xA R an<|mM R<|Zh<|ZH bq (AG [(M 0),(M 1)]) wk
    refine aU<|Zc bn λaa ao br=>xI AZ R ao<|xB ((A4 aa)) By R<|sS R (Zq (cs:=[.r<|.str [],.r<|.str []]) 10 R Kf R R)<|Zk R R (Zi (ds:=(A4 aa)) R I6 iL R iL R R R R)<|aZ<|aU<|lF B0 A2 R R<|Zc br λr5 bs bt=>cL (oh<|bs) R<|aZ<|cI R bt (λab=>?_) λab=>?_
    ·exact aR<|mM R<|xC By R<|sS R (ZK 40 R AZ (f:=AD.row) (l:=([aa]:List AD)) ⟨R,⟨_,iL,R⟩,Za⟩ R (λ_=>R) R)<|Zc ab λbu X bv=>sS R (B6 R AZ iL R (.inr<|.inl ⟨_,_,iL,R⟩) X)<|mA R<|Zh<|Z _ _ wk<|J6 _ (AG [((u 1)+2),((u 1)+3)]) (Zb bv).symm
    exact Zd<|Z _ _ wk<|J6 _ (AG [(u 0),((u 1)+1)]) (Zb ab).symm
   exact Zn<|ag _ _ wk<|J2 _ (AG [(u 0),(u 1)]) (Zb<|bh _<|xH bj a8).symm
  ·have a7:=Be a6 ah
   refine Zd ?_
   exact ag _ _ (Zm (Zm (ZR 8 5008 58 2 (by decide) R)<|by exact ZC (e':=[(1,rI I),(5,.ptr 5 q 0 0),(6,.ptr 6 (q+1) 0 0),(7,.ptr 7 (q+2) 0 0),(8,.own 5008<|V 0),(25,.ptr 7 (q+2) 0 0),(26,rI l.Char),(27,rB<|(!(l.Char=10)))]) (h':=[(5,some<|.box q 51<|Aa B),(6,some<|.box (q+1) 51<|Aa E),(7,some<|.box (q+2) 51<|Aa l),(1000,some<|.box j 102<|A6 A),(5008,some<|.arr (V 0) 58 2<|([]:List AD).map AD.row)]) ⟨jL,jL,jL,jL,jL,jL,jL,jL,Za⟩ ⟨.inl R,.inl R,.inl R,.inl R,.inl R,Za⟩ nL) wk)<|J2 _ (AG [(V 0),((V 0)+1)]) (Zb a7).symm
 refine aC R (λac=>?_) λac=>?_
 ·have ad:=Ba ac af
  exact aR<|xC CK R<|Zk R R (Zi (ds:=(Aa E)) R Cp iL R iL R R R R)<|Zh<|ae _ _ wk<|J1 _ (AG [(q+3)]) (Zb ad).symm
 ·have ad:=Be ac af
  exact Zd<|ae _ _ wk<|J1 _ (AG [(q+3)]) (Zb ad).symm
theorem wR{M a r}(h:cR M a=some r):AM prog 49 [rS M,qa a] (.tup [qb r.1,rI r.2]):=by
 unfold cR at h
 refine mF func49 ntmps49 R λE=>aU<|mA R<|mA R<|aZ<|aT λc2=>aU<|mM R<|Zc h λF O h1=>cL (PR<|O) R<|mA R<|aZ<|aU<|mM R<|xU R<|aZ<|cI R h1 (λT=>?_) λT=>?_
 ·exact aU<|mM R<|mA R<|mA R<|aZ<|Zj<|CB (P:=prog) (λ(r:(List AC) × Int)=>qb r.1) (λ(r:(List AC) × Int)=>rI r.2) T iL (.t<|.one<|.nil)<|.t<|.d R
 refine Zd<|c2 _<|aU<|mA R<|aZ<|aS λK7 c7 U=>Zf<|A5 T λo1 B V C=>?_
 have J1:∀(q:List AC) (I:NN),o1=.nrm q→K7 ⟨[(7,.own 5007<|I 0)],[(5007,some<|.arr (I 0) 51 3<|q.map AC.row)],(I 1),44⟩:=by
  intro q I e
  have h3:=V _ e
  exact c7 _<|aU<|mM R<|mA R<|mA R<|aZ<|Zj<|CB (P:=prog) (λ(r:(List AC) × Int)=>qb r.1) (λ(r:(List AC) × Int)=>rI r.2) h3 iL (.t<|.one<|.own R)<|.t<|.d R
 refine ZL (λ(J:List UInt8) (j:List AC) l=>⟨[(0,rS J),(1,qa a),(7,.own 5007<|l 0)],[(5007,some<|.arr (l 0) 51 3<|j.map AC.row)],(l 1),44⟩) (AG [E,(E+1)]) B (Zm (Zm (ZR 7 5007 51 3 (by decide) R)<|by exact ZC (e':=[(0,rS M),(1,qa a),(4,cZ),(5,rI 0),(6,rI F),(7,.own 5007 E),(10,qa a),(11,rI F),(12,rI F),(13,rB<|(!(F=0)))]) (h':=[(5007,some<|.arr E 51 3<|([]:List AC).map AC.row)]) ⟨jL,jL,jL,jL,jL,jL,jL,jL,jL,jL,Za⟩ ⟨.inl R,Za⟩ nL) wk) ?_
 intro J j l v1 X w
 have h4:X1 a J j=some v1:=X;unfold X1 at h4
 refine aT λc9=>aU<|mM R<|sQ R (DH R iL iL)<|aZ<|cI R h4 (λY=>?_) λY=>?_
 ·refine Zd<|c9 _<|Zf<|aU<|mM R<|Ch Y λu r2 Z h6=>cL (RO<|Z) R<|mM R<|xX R<|xX R<|mA R<|mA R<|aZ<|aT λa0=>aU<|mM R<|xQ R<|mM R<|vM R<|vQ R (Zs R (iR R) iL)<|xN R<|aZ<|cI R h6 (λh7=>?_) λh7=>?_
  ·refine aT λa1=>aF [] ?_
   exact aR<|mA R<|mA R<|aZ<|a1 _<|Zj<|CB (P:=prog) (λ(r:(List AC) × Int)=>qb r.1) (λ(r:(List AC) × Int)=>rI r.2) (C _<|xH w h7) iL (.t<|.one<|.nil)<|.t<|.d R
  refine Zd<|a0 _<|aT λa2=>aT λa6=>aG [0,1,7,8,9] [5007] ?_
  refine aR<|mM R<|sQ R (ZF R underlying21 underlying3 iL)<|Zc h7 λr3 a7 h8=>cL (Rb<|a7) R<|sQ R (Zu R iL)<|aZ<|a6 _<|cI R h8 (λh9=>?_) λh9=>?_
  ·refine aT λa8=>aF [] ?_
   exact aR<|mA R<|mA R<|aZ<|a8 _<|Zj<|CB (P:=prog) (λ(r:(List AC) × Int)=>qb r.1) (λ(r:(List AC) × Int)=>rI r.2) (C _<|xH w h9) iL (.t<|.one<|.nil)<|.t<|.d R
  refine Zd<|a2 _<|aT λaa=>aR<|mM R<|mM R<|sQ R (ZF R underlying21 underlying3 iL)<|mM R<|Zc h9 λl1 ab ac=>sS R (PM 36 (f:=AD.row) R AZ iL (.inl ⟨iL,λ_=>R⟩) ab) ?_
  refine sQ R (ZD R H3 (q:=[(0,_),(2,_)]) (by exact⟨R,R,R,iL,R,R,R,iL,Za⟩) (cs:=[rI<|(IntKind.i64.wrap u),rI 0,.own 36<|l 1])<|by rfl) ?_
  refine AL.weak (by exact Ag.frz (e':=[(0,rS J),(1,qa a),(7,.own 5007<|l 0),(8,.r<|.int .i32 u),(9,rI r2),(28,.r<|.int .i32 u),(29,rI<|(IntKind.i64.wrap u)),(30,rB r3),(31,rB<|(!r3)),(32,.own 5007<|l 0),(33,.r<|.int .i32 u),(34,rI<|(IntKind.i64.wrap u)),(35,qa a),(36,qa l1),(37,.agg [rI<|(IntKind.i64.wrap u),rI 0,qa l1])]) (h':=[(5007,some<|.arr (l 0) 51 3<|j.map AC.row)]) 36 R ⟨jL,jL,jL,jL,jL,jL,jL,jL,jL,jL,jL,jL,jL,.inl<|.inr<|.inr ⟨R,R⟩,.inr ⟨_,_,R,R,⟨.inl R,.inl R,.inr<|.inr ⟨R,R⟩,Za⟩⟩,Za⟩ ⟨R,.inl R,Za⟩) ?_
  refine sS R (ZK 38 R Ab (f:=AC.row) (l:=([(AC.mk (IntKind.i64.wrap u) 0 l1)]:List AC)) ⟨R,⟨_,iL,R⟩,Za⟩ R (λ_=>R) R)<|Zc ac λag A ad=>sS R (B6 R Ab iL R (.inr<|.inl ⟨_,_,iL,R⟩) A)<|mA R<|aZ<|aa _<|aG [0,1,7,9] [5007] ?_
  refine aR<|mM R<|mM R<|Zc ad λs5 ae af=>?_
  refine sQ R (IY R underlying9 iL (by exact⟨_,iL⟩) (by exact R) λ_=>ae) ?_
  exact mA R<|Zh<|ZH af (AG [((l 1)+2),((l 1)+3)]) wk
 exact Zn<|U _ _ wk<|J1 _ (AG [(l 0),(l 1)])<|xH w Y
theorem nS{q:B2}{k1:Int}{r:(List AD)}{j:Nat}(h:Jy q k1=some r):BL prog 51 1 [.ptr 1000 j 0 0,rI k1] [(1000,some<|.box j 102<|A6 q)] (λrr h'=>∃(i:Nat→Nat),rr=qa r∧h'=[(1000,some<|.box j 102<|A6 q)]):=by
 unfold Jy at h
 refine DU func51 R R ntmps51 (Zw R) λn0=>aU<|mA R<|aZ<|aS λK2 c2 a0=>Zf<|Ar h λo1 O a1=>?_
 have J1:∀(M:Int) (i5:NN),o1=M→K2 ⟨[(0,.ptr 1000 j 0 0),(1,rI M)],[(1000,some<|.box j 102<|A6 q)],(i5 0),41⟩:=by
  intro M i5 e
  have h1:=a1 _ e
  refine c2 _<|aU<|mA R<|aZ<|aS λK4 c4 a2=>aT λc5=>aR<|mM R<|mM R<|Zc h1 λE a6 h2=>?_
  refine Zo [1000] (hc:=[(1000,some<|.box j 102<|A6 q)]) (bs:=[.ptr 1000 j 0 0,rI M]) (caps:=[]) R R R R iL R ⟨.inl ⟨iL,R⟩,.inl ⟨iL,R⟩,Za⟩ ⟨R,R,R,Za⟩ (by decide) (Rm a6) ?_
  intro i6 X
  refine Ay [0,1,5,15,16,17] [1000] ?_
  refine sQ R (OS (a:=qa E.Attrs) R jZ iL R)<|xL AZ R<|mM R<|aZ<|c5 _<|Zf<|Ar h2 λo2 T a7=>?_
  have J2:∀(l:List AD) (w:NN),o2=l→K4 ⟨[(5,.own 5005<|w 0)],[(1000,some<|.box j 102<|A6 q),(5005,some<|.arr (w 0) 58 2<|l.map AD.row)],(w 1),41⟩:=by
   intro l w e
   have h3:=a7 _ e
   refine c4 _<|aU<|mM R<|mA R<|aZ ?_
   exact Zj<|ZM (s':=⟨[(4,qa l)],[(1000,some<|.box j 102<|A6 q)],(w 1),41⟩) (Zm (by exact Ag.frz (e':=[(4,qa l),(5,qa l),(40,qa l)]) (h':=[(1000,some<|.box j 102<|A6 q)]) 5005 R ⟨.inl<|.inr<|.inr ⟨R,R⟩,.inl<|.inr<|.inr ⟨R,R⟩,.inl<|.inr<|.inr ⟨R,R⟩,Za⟩ ⟨R,.inl R,Za⟩) wk)<|ZE (λ(r:(List AD)) rr h'=>∃(i:Nat→Nat),rr=qa r∧h'=[(1000,some<|.box j 102<|A6 q)]) h3<|by exact⟨qa l,[(1000,some<|.box j 102<|A6 q)],R,⟨.inr R,Za⟩,R,R,AG [],R,R⟩
  refine ZL (λ(Y:Int) (A:List AD) C=>⟨[(5,.own 5005<|C 0),(18,qa E.Attrs),(19,rL E.Attrs),(20,rI Y)],[(1000,some<|.box j 102<|A6 q),(5005,some<|.arr (C 0) 58 2<|A.map AD.row)],(C 1),41⟩) (AG [X,(X+1)]) T (Zm (Zm (ZR 5 5005 58 2 (by decide) R)<|by exact ZC (e':=[(0,.ptr 1000 j 0 0),(1,rI M),(5,.own 5005 X),(15,.ptr 1000 j 0 0),(16,rI M),(17,.agg<|Aa E),(18,qa E.Attrs),(19,rL E.Attrs),(20,rI 0)]) (h':=[(1000,some<|.box j 102<|A6 q),(5005,some<|.arr X 58 2<|([]:List AD).map AD.row)]) ⟨jL,jL,jL,jL,jL,jL,jL,jL,jL,Za⟩ ⟨.inl R,.inl R,Za⟩ nL) wk) ?_
  intro Y A C v1 a8 aa
  have h4:Kb E Y A=some v1:=a8;unfold Kb at h4
  refine aU<|xS R<|aZ<|aT λc8=>cI R h4 (λh5=>?_) λh5=>?_
  ·refine Zd<|c8 _<|aS λK9 c9 U=>Zf<|Ar h5 λp1 ab ac=>?_
   have J3:∀(B:List AD) (u:NN),p1=B→K9 ⟨[(5,.own 5005<|u 0),(18,qa E.Attrs),(19,rL E.Attrs),(20,rI Y)],[(1000,some<|.box j 102<|A6 q),(5005,some<|.arr (u 0) 58 2<|B.map AD.row)],(u 1),41⟩:=by
    intro B u e
    have h6:=ac _ e
    exact c9 _<|aR<|Zc h6 λx4 ad h7=>xA R ad<|mM R<|Zh<|ZH h7 (AG [(u 0),(u 1)]) wk
   refine aU<|Zc ab λx5 ae h8=>xI AZ R ae<|xB ((A4 x5)) By R<|sS R (Zq (cs:=[.r<|.str [],.r<|.str []]) 7 R Kf R R)<|Zk R R (Zi (ds:=(A4 x5)) R I6 iL R iL R R R R)<|aZ<|aU<|sS R (ZK 24 R SR (f:=Qm) (l:=([[97,100,100],[99,117,116],[104,105,100,100,101,110],[108,111,99,107],[115,101,99,116,105,111,110],[98,114,101,97,107],[115,116,97,114,116]]:List (List UInt8))) ⟨R,⟨_,iL,R⟩,R,⟨_,iL,R⟩,R,⟨_,iL,R⟩,R,⟨_,iL,R⟩,R,⟨_,iL,R⟩,R,⟨_,iL,R⟩,R,⟨_,iL,R⟩,Za⟩ R (λ_=>R) R)<|lF B0 A2 R R<|Zc h8 λr2 af h9=>cL (jF<|af) R<|sQ R (Zu R iL)<|mM R<|vF B0 A2 R R<|Zc h9 λr3 ag ah=>vL (λhg=>gL<|AN ag hg) R<|vQ R (Zu R<|iR R)<|xN R<|aZ<|cI R ah (λF=>?_) λF=>?_
   ·refine aG [5,7,18,19,20] [7,1000,5005] ?_
    exact aR<|mM R<|xC By R<|sS R (ZK 37 R AZ (f:=AD.row) (l:=([x5]:List AD)) ⟨R,⟨_,iL,R⟩,Za⟩ R (λ_=>R) R)<|Zc F λaw I ai=>sS R (B6 R AZ iL R (.inr<|.inl ⟨_,_,iL,R⟩) I)<|mA R<|Zh<|U _ _ wk<|J3 _ (AG [((C 1)+3),((C 1)+4)]) (Zb ai).symm
   exact Zd<|U _ _ wk<|J3 _ (AG [(C 0),((C 1)+2)]) (Zb F).symm
  exact Zn<|a2 _ _ wk<|J2 _ (AG [(C 0),(C 1)])<|xH aa h5
 refine Zz (λ(Z:Int) i3=>⟨[(0,.ptr 1000 j 0 0),(1,rI Z)],[(1000,some<|.box j 102<|A6 q)],(i3 0),41⟩) (AG [n0]) O wk ?_
 intro Z i3 v2 aj ak
 have V:TO q Z=some v2:=aj;unfold TO at V
 refine aT λal=>aT λan=>aR<|mM R<|mM R<|Zc V λr4 ao aq=>?_
 refine Zo [1000] (hc:=[(1000,some<|.box j 102<|A6 q)]) (bs:=[.ptr 1000 j 0 0,rI Z]) (caps:=[]) R R R R iL R ⟨.inl ⟨iL,R⟩,.inl ⟨iL,R⟩,Za⟩ ⟨R,R,R,Za⟩ (by decide) (Rm ao) ?_
 intro ax n2
 refine Ay [0,1,8,9,10] [1000] ?_
 refine sQ R (OS (a:=rI r4.Char) R pE iL R)<|xU R<|aZ<|an _<|cI R aq (λJ=>?_) λJ=>?_
 ·exact Zd<|al _<|Zf<|aR<|mM R<|Zc J λk6 ar av=>xA R ar<|mA R<|Zh<|Zx av (AG [n2]) wk
 exact Zn<|a0 _ _ wk<|J1 _ (AG [n2])<|xH ak J
theorem nV{M a r}(h:Nu M a=some r):BL prog 49 1 [rS M,qa a] [] (λB h'=>∃(i:Nat→Nat),B=.tup [.own 1000<|i 0,rI r.1]∧h'=[(1000,some<|.arr (i 0) 51 3<|r.2.map AC.row)]):=by
 unfold Nu at h
 refine DU func49 R R ntmps49 (Zw R) λu=>aU<|mA R<|mA R<|aZ<|aT λc2=>aU<|mM R<|Zc h λw T h1=>cL (PR<|T) R<|mA R<|aZ<|aU<|mM R<|xU R<|aZ<|cI R h1 (λU=>?_) λU=>?_
 ·refine aU<|mM R<|mA R<|mA R<|aZ ?_
  exact Zj<|ZM (s':=⟨[(4,.own 1000 u),(5,rI w)],[(1000,some<|.arr u 51 3<|([]:List AC).map AC.row)],(u+1),44⟩) (Zm (Zm (ZR 4 1000 51 3 (by decide) R)<|by exact ZC (e':=[(0,rS M),(1,qa a),(4,.own 1000 u),(5,rI w),(6,rI w),(10,qa a),(11,rI w),(12,rI w),(13,rB<|(!(w=0))),(14,rI w)]) (h':=[(1000,some<|.arr u 51 3<|([]:List AC).map AC.row)]) ⟨jL,jL,jL,jL,jL,jL,jL,jL,jL,jL,Za⟩ ⟨.inl R,Za⟩ nL) wk)<|ZE (λ(r:Int × (List AC)) B h'=>∃(i:Nat→Nat),B=.tup [.own 1000<|i 0,rI r.1]∧h'=[(1000,some<|.arr (i 0) 51 3<|r.2.map AC.row)]) U<|by exact⟨.tup [.own 1000 u,rI w],[(1000,some<|.arr u 51 3<|([]:List AC).map AC.row)],⟨_,R,⟨R,R,Za⟩⟩,⟨.inr R,Za⟩,R,R,AG [u],R,R⟩
 refine Zd<|c2 _<|aU<|mA R<|aZ<|aS λK7 c7 V=>Zf<|A5 U λo1 I X J=>?_
 have J1:∀(l:List AC) (A:NN),o1=.nrm l→K7 ⟨[(7,.own 5007<|A 0)],[(5007,some<|.arr (A 0) 51 3<|l.map AC.row)],(A 1),44⟩:=by
  intro l A e
  have h3:=X _ e
  refine c7 _<|aU<|mM R<|mA R<|mA R<|aZ ?_
  exact Zj<|ZM (s':=⟨[(4,.own 1000<|A 1),(5,rI 0)],[(1000,some<|.arr (A 1) 51 3<|l.map AC.row)],((A 1)+1),44⟩) (Zm (Zm (Ag.ren 4 5007 1000 R R R)<|by exact ZC (e':=[(4,.own 1000<|A 1),(5,rI 0)]) (h':=[(1000,some<|.arr (A 1) 51 3<|l.map AC.row)]) ⟨jL,jL,Za⟩ ⟨.inl R,Za⟩ nL) wk)<|ZE (λ(r:Int × (List AC)) B h'=>∃(i:Nat→Nat),B=.tup [.own 1000<|i 0,rI r.1]∧h'=[(1000,some<|.arr (i 0) 51 3<|r.2.map AC.row)]) h3<|by exact⟨.tup [.own 1000<|A 1,rI 0],[(1000,some<|.arr (A 1) 51 3<|l.map AC.row)],⟨_,R,⟨R,R,Za⟩⟩,⟨.inr R,Za⟩,R,R,AG [(A 1)],R,R⟩
 refine ZL (λ(O:List UInt8) (q:List AC) j=>⟨[(0,rS O),(1,qa a),(7,.own 5007<|j 0)],[(5007,some<|.arr (j 0) 51 3<|q.map AC.row)],(j 1),44⟩) (AG [u,(u+1)]) I (Zm (Zm (ZR 7 5007 51 3 (by decide) R)<|by exact ZC (e':=[(0,rS M),(1,qa a),(4,cZ),(5,rI 0),(6,rI w),(7,.own 5007 u),(10,qa a),(11,rI w),(12,rI w),(13,rB<|(!(w=0)))]) (h':=[(5007,some<|.arr u 51 3<|([]:List AC).map AC.row)]) ⟨jL,jL,jL,jL,jL,jL,jL,jL,jL,jL,Za⟩ ⟨.inl R,Za⟩ nL) wk) ?_
 intro O q j v1 Y E
 have h4:GQ a O q=some v1:=Y;unfold GQ at h4
 refine aT λc9=>aU<|mM R<|sQ R (DH R iL iL)<|aZ<|cI R h4 (λZ=>?_) λZ=>?_
 ·refine Zd<|c9 _<|Zf<|aU<|mM R<|Ch Z λC r2 a0 h6=>cL (RO<|a0) R<|mM R<|xX R<|xX R<|mA R<|mA R<|aZ<|aT λa1=>aU<|mM R<|xQ R<|mM R<|vM R<|vQ R (Zs R (iR R) iL)<|xN R<|aZ<|cI R h6 (λh7=>?_) λh7=>?_
  ·refine aT λa2=>aF [] ?_
   refine aR<|mA R<|mA R<|oZ a2 ?_
   exact Zj<|ZM (s':=⟨[(4,.own 1000<|j 1),(5,rI 10)],[(1000,some<|.arr (j 1) 51 3<|([]:List AC).map AC.row)],((j 1)+1),44⟩) (Zm (Zm (ZR 4 1000 51 3 (by decide) R)<|by exact ZC (e':=[(4,.own 1000<|j 1),(5,rI 10)]) (h':=[(1000,some<|.arr (j 1) 51 3<|([]:List AC).map AC.row)]) ⟨jL,jL,Za⟩ ⟨.inl R,Za⟩ nL) wk)<|ZE (λ(r:Int × (List AC)) B h'=>∃(i:Nat→Nat),B=.tup [.own 1000<|i 0,rI r.1]∧h'=[(1000,some<|.arr (i 0) 51 3<|r.2.map AC.row)]) (J _<|xH E h7)<|by exact⟨.tup [.own 1000<|j 1,rI 10],[(1000,some<|.arr (j 1) 51 3<|([]:List AC).map AC.row)],⟨_,R,⟨R,R,Za⟩⟩,⟨.inr R,Za⟩,R,R,AG [(j 1)],R,R⟩
  refine Zd<|a1 _<|aT λa6=>aT λa7=>aG [0,1,7,8,9] [5007] ?_
  refine aR<|mM R<|sQ R (ZF R underlying21 underlying3 iL)<|Zc h7 λr3 a8 h8=>cL (Rb<|a8) R<|sQ R (Zu R iL)<|aZ<|a7 _<|cI R h8 (λh9=>?_) λh9=>?_
  ·refine aT λaa=>aF [] ?_
   refine aR<|mA R<|mA R<|oZ aa ?_
   exact Zj<|ZM (s':=⟨[(4,.own 1000<|j 1),(5,rI 2)],[(1000,some<|.arr (j 1) 51 3<|([]:List AC).map AC.row)],((j 1)+1),44⟩) (Zm (Zm (ZR 4 1000 51 3 (by decide) R)<|by exact ZC (e':=[(4,.own 1000<|j 1),(5,rI 2)]) (h':=[(1000,some<|.arr (j 1) 51 3<|([]:List AC).map AC.row)]) ⟨jL,jL,Za⟩ ⟨.inl R,Za⟩ nL) wk)<|ZE (λ(r:Int × (List AC)) B h'=>∃(i:Nat→Nat),B=.tup [.own 1000<|i 0,rI r.1]∧h'=[(1000,some<|.arr (i 0) 51 3<|r.2.map AC.row)]) (J _<|xH E h9)<|by exact⟨.tup [.own 1000<|j 1,rI 2],[(1000,some<|.arr (j 1) 51 3<|([]:List AC).map AC.row)],⟨_,R,⟨R,R,Za⟩⟩,⟨.inr R,Za⟩,R,R,AG [(j 1)],R,R⟩
  refine Zd<|a6 _<|aT λab=>aR<|mM R<|mM R<|sQ R (ZF R underlying21 underlying3 iL)<|mM R<|Zc h9 λl1 ac ad=>sS R (PM 36 (f:=AD.row) R AZ iL (.inl ⟨iL,λ_=>R⟩) ac) ?_
  refine sQ R (ZD R H3 (q:=[(0,_),(2,_)]) (by exact⟨R,R,R,iL,R,R,R,iL,Za⟩) (cs:=[rI<|(IntKind.i64.wrap C),rI 0,.own 36<|j 1])<|by rfl) ?_
  refine AL.weak (by exact Ag.frz (e':=[(0,rS O),(1,qa a),(7,.own 5007<|j 0),(8,.r<|.int .i32 C),(9,rI r2),(28,.r<|.int .i32 C),(29,rI<|(IntKind.i64.wrap C)),(30,rB r3),(31,rB<|(!r3)),(32,.own 5007<|j 0),(33,.r<|.int .i32 C),(34,rI<|(IntKind.i64.wrap C)),(35,qa a),(36,qa l1),(37,.agg [rI<|(IntKind.i64.wrap C),rI 0,qa l1])]) (h':=[(5007,some<|.arr (j 0) 51 3<|q.map AC.row)]) 36 R ⟨jL,jL,jL,jL,jL,jL,jL,jL,jL,jL,jL,jL,jL,.inl<|.inr<|.inr ⟨R,R⟩,.inr ⟨_,_,R,R,⟨.inl R,.inl R,.inr<|.inr ⟨R,R⟩,Za⟩⟩,Za⟩ ⟨R,.inl R,Za⟩) ?_
  refine sS R (ZK 38 R Ab (f:=AC.row) (l:=([(AC.mk (IntKind.i64.wrap C) 0 l1)]:List AC)) ⟨R,⟨_,iL,R⟩,Za⟩ R (λ_=>R) R)<|Zc ad λah F ae=>sS R (B6 R Ab iL R (.inr<|.inl ⟨_,_,iL,R⟩) F)<|mA R<|aZ<|ab _<|aG [0,1,7,9] [5007] ?_
  refine aR<|mM R<|mM R<|Zc ae λs5 af ag=>?_
  refine sQ R (IY R underlying9 iL (by exact⟨_,iL⟩) (by exact R) λ_=>af) ?_
  exact mA R<|Zh<|ZH ag (AG [((j 1)+2),((j 1)+3)]) wk
 exact Zn<|V _ _ wk<|J1 _ (AG [(j 0),(j 1)])<|xH E Z
theorem jI{l r}(h:Jx l=some r):AM prog 71 [qa l] (rI r):=by
 unfold Jx at h
 exact mF func71 ntmps71 R λu=>aU<|mA R<|aZ<|aU<|mM R<|Zc h λw j q=>cL (jB<|j) R<|mA R<|aZ<|Zj<|yI q R
theorem tS{f1 r}(h:RH f1=some r):AM prog 65 [qb f1] (rI r):=by
 unfold RH at h
 refine mF func65 ntmps65 R λY=>aU<|mA R<|aZ<|aS λZ c2 u=>aU<|mM R<|xL Ab R<|mM R<|aZ<|Zf<|A5 h λo1 j w A=>?_
 have J1:∀(T:Unit) (U:NN),o1=.nrm T→Z ⟨[],[],(U 0),18⟩:=by
  intro T U e
  have h1:=w _ e
  exact c2 _<|zI h1 R id
 refine Zz (λ(B:Int) q=>⟨[(6,qb f1),(7,rL f1),(8,rI B)],[],(q 0),18⟩) (AG [Y]) j wk ?_
 intro B q v1 C l
 have V:Pq f1 B=some v1:=C;unfold Pq at V
 refine aU<|xS R<|aZ<|aT λc6=>cI R V (λE=>?_) λE=>?_
 ·refine Zd<|c6 _<|aT λc7=>Zf<|aU<|Zc E λX F h4=>xI Ab R F<|xB ((Aa X)) CK R<|sS R (Zq (cs:=EC) 4 R ED R R)<|Zk R R (Zi (ds:=(Aa X)) R Cp iL R iL R R R R)<|aZ<|aU<|xC CK R<|Zc h4 λe1 I h5=>cL (eO<|I) R<|mA R<|aZ<|aU<|mM R<|xU R<|aZ<|cI R h5 (λJ=>?_) λJ=>?_
  ·refine aT λM=>aF [5] ?_
   exact aR<|mM R<|mA R<|aZ<|M _<|Zj<|yI (A _<|xH l J) R
  refine Zd<|c7 _<|aF [6,7,8] ?_
  exact aR<|Zc J λx5 O h7=>xA R O<|mM R<|Zh<|Zx h7 (AG [((q 0)+1)]) wk
 exact Zn<|u _ _ wk<|J1 _ (AG [(q 0)])<|xH l E
theorem dG{q r}(h:Mk q=some r):AM prog 165 (Ox q) (rI r):=by
 unfold Mk at h
 refine mF func165 ntmps165 R λA=>aU<|sS R (Zv (cs:=(BZ q)) 1 R iL R R)<|mA R<|aZ<|aT λc2=>aU<|lF Bt AI R R<|aZ<|Zf<|aS λK4 c4 u=>aU<|xQ R<|mA R<|aZ<|Ar h λp1 w B=>?_
 have J1:∀(C:Bool) (i1:NN),p1=C→K4 ⟨[(1,.ptr 1 A 0 0),(4,rI q.Kind),(5,rB C)],[(1,some<|.box A 100<|BZ q)],(i1 0),52⟩:=by
  intro C i1 e
  have h1:=B _ e
  refine c4 _<|cI R h1 (λE=>?_) λE=>?_
  ·refine aT λc6=>aU<|lF Dz Br R R<|xL Ab R<|sQ R (Zy R iL iL)<|mM R<|vF Bt AI R R<|vQ R (Zs R (iR R) iL)<|vQ R (Ze R<|iR R)<|wQ R (fB R DZ iL fR R)<|wQ R (Zg (a:=qa q.Attrs) R A1 (iR R) R R)<|wQ R (Bd R AZ.slice<|iR R)<|wQ R (Zy R (iR R) iL)<|vQ R (ZG R (iR R)<|iR R)<|xO R<|aZ<|cI R E (λF=>?_) λF=>?_
   ·exact zI F R id
   refine Zd<|c6 _<|aT λc9=>aT λI=>aG [1] [1] ?_
   refine aR<|lF D3 AI R R<|xS R<|mM R<|vF D3 AI R R<|vQ R (Zy R (iR R) iL)<|xO R<|aZ<|I _<|cI R F (λJ=>?_) λJ=>?_
   ·exact zI J R id
   exact Zd<|c9 _<|aU<|lF DZ A1 R R<|Zc J λr1 M h5=>cL (jI<|M) R<|mA R<|aZ<|Zj<|yI h5 R
  refine aU<|xQ R<|mA R<|aZ<|cI R E (λO=>?_) λO=>?_
  ·refine aT λT=>aU<|lF D3 AI R R<|xU R<|mM R<|vF DZ A1 R R<|vQ R (Bd R AZ.slice<|iR R)<|vQ R (Zy R (iR R) iL)<|xO R<|aZ<|cI R O (λU=>?_) λU=>?_
   ·exact zI U R id
   refine Zd<|T _<|aT λV=>aT λX=>aG [1] [1] ?_
   refine aR<|lF Dz Br R R<|xL Ab R<|xQ R<|aZ<|X _<|cI R U (λY=>?_) λY=>?_
   ·exact zI Y R id
   exact Zd<|V _<|aU<|lF Dz Br R R<|Zc Y λr2 Z h9=>cL (tS<|Z) R<|mA R<|aZ<|Zj<|yI h9 R
  exact Zd<|c2 _<|zI O R id
 refine aC R (λj=>?_) λj=>?_
 ·have l:=Ba j w
  exact Zd<|u _ _ wk<|J1 _ (AG [(A+1)]) (Zb l).symm
 ·have l:=Be j w
  exact aR<|xQ R<|mA R<|Zh<|u _ _ wk<|J1 _ (AG [(A+1)]) (Zb l).symm
theorem Y1{q:Ac}{r:Ac}{j:Nat}{l:Nat}{u:Nat}(h:Nv q=some r):BL prog 187 3 [.ptr 1000 j 0 0] [(1000,some<|.box j 193 [.own 1001 l,.own 1002 u,rI q.cut]),(1001,some<|.arr l 100 4<|q.out.map AH.row),(1002,some<|.arr u 51 3<|q.add.map AC.row)] (λU h'=>∃(i:Nat→Nat),U=.tup []∧h'=[(1000,some<|.box j 193 [.own 1001<|i 0,cZ,rI r.cut]),(1001,some<|.arr (i 0) 100 4<|r.out.map AH.row)]):=by
 unfold Nv at h
 refine DU func187 R R ntmps187 (Zw R) λT=>aS λK1 c1 I=>aU<|mM R<|sQ R (Zp (ob:=.box _ _ _) R iL fR R)<|lF Oy Br R R<|sQ R (Kx R Ab.slice iL R)<|sQ R (Zy R iL iL)<|aZ<|Ar h λp1 J V=>?_
 have J1:∀(A:Ac) (B:NN),p1=A→K1 ⟨[(0,.ptr 1000 j 0 0)],[(1000,some<|.box j 193 [.own 1001<|B 0,qb A.add,rI A.cut]),(1001,some<|.arr (B 0) 100 4<|A.out.map AH.row)],(B 1),47⟩:=by
  intro A B e
  have h1:=V _ e
  refine c1 _<|aS λK3 c3 M=>aU<|mM R<|sQ R (Zp (ob:=.box _ _ _) R iL fR R)<|lF FQ AI R R<|sQ R (Zy R iL iL)<|aZ<|Ar h1 λp2 O X=>?_
  have J2:∀(C:Ac) (w:NN),p2=C→K3 ⟨[(0,.ptr 1000 j 0 0)],[(1000,some<|.box j 193 [.own 1001<|w 0,qb C.add,rI C.cut]),(1001,some<|.arr (w 0) 100 4<|C.out.map AH.row)],(w 1),47⟩:=by
   intro C w e
   have h2:=X _ e
   refine c3 _<|aR<|mM R<|mM R<|sQ R (Zp (ob:=.box _ _ _) R iL fR R)<|sQ R (fB R Oy iL fR R)<|Zk R R (Zi (ds:=[.own 1001<|w 0,cZ,rI C.cut]) R T4 iL R iL R R R R)<|sQ R (Zp (ob:=.box _ _ _) R iL fR R)<|sQ R (fB R FQ iL fR R)<|Zk R R (Zi (ds:=[.own 1001<|w 0,cZ,rI 0]) R Gl iL R iL R R R R)<|Zh ?_
   exact ZM (s':=⟨[],[(1000,some<|.box j 193 [.own 1001<|w 0,cZ,rI 0]),(1001,some<|.arr (w 0) 100 4<|C.out.map AH.row)],(w 1),47⟩) wk<|ZE (λ(r:Ac) U h'=>∃(i:Nat→Nat),U=.tup []∧h'=[(1000,some<|.box j 193 [.own 1001<|i 0,cZ,rI r.cut]),(1001,some<|.arr (i 0) 100 4<|r.out.map AH.row)]) h2<|by exact⟨.tup [],[(1000,some<|.box j 193 [.own 1001<|w 0,cZ,rI 0]),(1001,some<|.arr (w 0) 100 4<|C.out.map AH.row)],⟨_,R,Za⟩,⟨.inr R,.inr R,Za⟩,R,R,AG [(w 0)],R,R⟩
  refine aC R (λE=>?_) λE=>?_
  ·have Y:=Ba E O
   refine jN [0] [1,2,3,4,5,6,7,8,9] [10] 11 A8 (by kernel_rfl) R R R R R ?_
   refine Ge.move R R R R<|Ge.nil<|AF.step R R R (Ze R iL)<|AF.step R R R (Zp (ob:=.box _ _ _) R iL fR R)<|AF.step R R R (fB R F2 iL fR R)<|AF.step R R R (Zg (a:=.own 1001<|B 0) R Dl iL R R)<|AF.step R R R (Ze R iL)<|AF.step R R R (Zp (ob:=.box _ _ _) R iL fR R)<|AF.step R R R (fB R FQ iL fR R)<|AF.step R R R (Zg (a:=rI A.cut) R AI iL R R) ?_
   refine AF.step R R R (ZD R Kn (q:=[(0,_),(1,_)]) (by exact⟨R,R,R,iL,R,R,R,iL,Za⟩) (cs:=[rI 2,rI A.cut,cZ,cZ])<|by rfl) ?_
   exact AF.nil<|AA.step R R R (jE 37 R Bh (f:=AH.row) (l:=([(AH.mk 2 A.cut [] [])]:List AH)) ⟨R,⟨_,iL,R⟩,Za⟩ R (λ_=>R) R)<|AA.nil<|Zc Y λl1 Z h4=>AL.step R R R (B6 R Bh iL R (.inr<|.inl ⟨_,_,iL,R⟩) Z)<|sQ R (Zp (ob:=.box _ _ _) R iL fR R)<|sQ R (fB R F2 iL fR R)<|Zk R R (Zi (ds:=[.own 1001<|(B 1)+1,qb A.add,rI A.cut]) R Rj iL R iL R R R R)<|Zh<|M _ _ wk<|J2 _ (AG [((B 1)+1),((B 1)+2)]) (Zb h4).symm
  ·have Y:=Be E O
   exact Zd<|M _ _ wk<|J2 _ (AG [(B 0),(B 1)]) (Zb Y).symm
 refine aC R (λF=>?_) λF=>?_
 ·have h5:=Ba F J
  refine AW.weak (by exact Ag.frz (e':=[(0,.ptr 1000 j 0 0),(2,.ptr 1000 j 0 0),(3,.ptr 1000 j 0 0),(4,.ptr 1000 j 0 1),(5,qb q.add),(6,rL q.add),(7,rB<|(decide<|0<(q.add.length:Int)))]) (h':=[(1000,some<|.box j 193 [.own 1001 l,qb q.add,rI q.cut]),(1001,some<|.arr l 100 4<|q.out.map AH.row)]) 1002 R ⟨jL,jL,jL,jL,.inl<|.inr<|.inr ⟨R,R⟩,jL,jL,Za⟩ ⟨R,.inr<|.inr<|.inl ⟨_,_,_,_,R,R,⟨.inl R,.inr<|.inr ⟨R,R⟩,.inl R,Za⟩⟩,R,.inl R,Za⟩) ?_
  refine jN [0] [1,2,3,4,5,6,7,8,9] [10] 11 A8 (by kernel_rfl) R R R R R ?_
  refine Ge.move R R R R<|Ge.nil<|AF.step R R R (Ze R iL)<|AF.step R R R (Zp (ob:=.box _ _ _) R iL fR R)<|AF.step R R R (fB R F2 iL fR R)<|AF.step R R R (Zg (a:=.own 1001 l) R Dl iL R R)<|AF.step R R R (Ze R iL)<|AF.step R R R (Zp (ob:=.box _ _ _) R iL fR R)<|AF.step R R R (fB R Oy iL fR R)<|AF.step R R R (Zg (a:=qb q.add) R Br iL R R) ?_
  refine AF.step R R R (ZD R Kn (q:=[(0,_),(3,_)]) (by exact⟨R,R,R,iL,R,R,R,iL,Za⟩) (cs:=[rI 1,rI 0,cZ,qb q.add])<|by rfl) ?_
  exact AF.nil<|AA.step R R R (jE 18 R Bh (f:=AH.row) (l:=([(AH.mk 1 0 [] q.add)]:List AH)) ⟨R,⟨_,iL,R⟩,Za⟩ R (λ_=>R) R)<|AA.nil<|Zc h5 λl2 a0 h6=>AL.step R R R (B6 R Bh iL R (.inr<|.inl ⟨_,_,iL,R⟩) a0)<|sQ R (Zp (ob:=.box _ _ _) R iL fR R)<|sQ R (fB R F2 iL fR R)<|Zk R R (Zi (ds:=[.own 1001<|T+1,qb q.add,rI q.cut]) R Rj iL R iL R R R R)<|Zh<|I _ _ wk<|J1 _ (AG [(T+1),(T+2)]) (Zb h6).symm
 ·have h5:=Be F J
  refine Zd ?_
  exact I _ _ (Zm (by exact Ag.frz (e':=[(0,.ptr 1000 j 0 0),(2,.ptr 1000 j 0 0),(3,.ptr 1000 j 0 0),(4,.ptr 1000 j 0 1),(5,qb q.add),(6,rL q.add),(7,rB<|(decide<|0<(q.add.length:Int)))]) (h':=[(1000,some<|.box j 193 [.own 1001 l,qb q.add,rI q.cut]),(1001,some<|.arr l 100 4<|q.out.map AH.row)]) 1002 R ⟨jL,jL,jL,jL,.inl<|.inr<|.inr ⟨R,R⟩,jL,jL,Za⟩ ⟨R,.inr<|.inr<|.inl ⟨_,_,_,_,R,R,⟨.inl R,.inr<|.inr ⟨R,R⟩,.inl R,Za⟩⟩,R,.inl R,Za⟩) wk)<|J1 _ (AG [l,T]) (Zb h5).symm
theorem L0{E:Ac}{n1:Int}{u:List AD}{r:Ac}{j:Nat}{l:Nat}{q:Nat}(h:GT E n1 u=some r):BL prog 153 3 [.ptr 1000 j 0 0,rI n1,qa u] [(1000,some<|.box j 193 [.own 1001 l,.own 1002 q,rI E.cut]),(1001,some<|.arr l 100 4<|E.out.map AH.row),(1002,some<|.arr q 51 3<|E.add.map AC.row)] (λT h'=>∃(i:Nat→Nat),T=.tup []∧h'=[(1000,some<|.box j 193 [.own 1001<|i 0,.own 1002<|i 1,rI r.cut]),(1001,some<|.arr (i 0) 100 4<|r.out.map AH.row),(1002,some<|.arr (i 1) 51 3<|r.add.map AC.row)]):=by
 unfold GT at h
 refine DU func153 R R ntmps153 (Zw R) λn0=>aT λc1=>aU<|mM R<|xQ R<|aZ<|cI R h (λZ=>?_) λZ=>?_
 ·exact Zj<|ZM (s':=⟨[],[(1000,some<|.box j 193 [.own 1001 l,.own 1002 q,rI E.cut]),(1001,some<|.arr l 100 4<|E.out.map AH.row),(1002,some<|.arr q 51 3<|E.add.map AC.row)],n0,67⟩) wk<|ZE (λ(r:Ac) T h'=>∃(i:Nat→Nat),T=.tup []∧h'=[(1000,some<|.box j 193 [.own 1001<|i 0,.own 1002<|i 1,rI r.cut]),(1001,some<|.arr (i 0) 100 4<|r.out.map AH.row),(1002,some<|.arr (i 1) 51 3<|r.add.map AC.row)]) Z<|by exact⟨.tup [],[(1000,some<|.box j 193 [.own 1001 l,.own 1002 q,rI E.cut]),(1001,some<|.arr l 100 4<|E.out.map AH.row),(1002,some<|.arr q 51 3<|E.add.map AC.row)],⟨_,R,Za⟩,⟨.inr R,.inr R,.inr R,Za⟩,R,R,AG [l,q],R,R⟩
 refine Zd<|c1 _<|aT λc3=>aR<|mM R<|Zc Z λB a0 h2=>?_
 refine Zo [1000,1001,1002] (hc:=[(1000,some<|.box j 193 [.own 1001 l,.own 1002 q,rI E.cut]),(1001,some<|.arr l 100 4<|E.out.map AH.row),(1002,some<|.arr q 51 3<|E.add.map AC.row)]) (bs:=[.ptr 1000 j 0 0]) (caps:=[]) R R R R iL R ⟨.inl ⟨iL,R⟩,Za⟩ ⟨R,R,R,R,R,R,R,R,R,Za⟩ (by decide) (Y1 a0) ?_
 intro A M
 refine Ay [0,1,2,7,8,9,10] [1000,1001] ?_
 refine aZ<|c3 _<|aT λc4=>aU<|mM R<|sQ R (Zp (ob:=.box _ _ _) R iL fR R)<|lF F2 Dl R R<|sQ R (Kx R Bh.slice iL R)<|Zc h2 λI a1 h3=>sQ R (Bu R iL iL λ_=>a1)<|mA R<|aZ<|aT λc6=>aG [0,1,2,6] [1000,1001] ?_
 refine aR<|mM R<|sQ R (Ca R iL iL)<|mM R<|vM R<|vQ R (Zp (ob:=.box _ _ _) R (iR R) fR R)<|vQ R (fB R F2 (iR R) fR R)<|vQ R (Zg (a:=.own 1001<|A 0) R Dl (iR R) R R)<|vM R<|Zc h3 λx1 U h4=>vQ R (EJ R Bh.slice (iR R) R (iR R)<|AN U)<|vQ R (FG (ob:=.arr _ _ _ _) R Bt (iR R) fR R)<|vQ R (I3 (d:=.int .i64 x1.Kind) R AI (iR R) fR (AN U) R)<|vQ R (Zs R (iR R) iL)<|xN R<|mM R<|vM R<|vQ R (Zp (ob:=.box _ _ _) R (iR R) fR R)<|vQ R (fB R F2 (iR R) fR R)<|vQ R (Zg (a:=.own 1001<|A 0) R Dl (iR R) R R)<|vM R<|Zc h4 λx2 V h5=>vQ R (EJ R Bh.slice (iR R) R (iR R)<|AN V)<|vQ R (FG (ob:=.arr _ _ _ _) R DZ (iR R) fR R)<|vQ R (I3 (d:=.sl<|x2.Attrs.map AD.row) R A1 (iR R) fR (AN V) R)<|vM R<|Zc h5 λr1 a2 h6=>vL (λhg=>UZ<|AN a2 hg) R<|xN R<|aZ<|c6 _<|cI R h6 (λh7=>?_) λh7=>?_
 ·refine aT λc7=>aG [0,1,6] [1000,1001] ?_
  refine aR<|mM R<|sQ R (Zp (ob:=.box _ _ _) R iL fR R)<|lF F2 Dl R R<|mM R<|Zc h7 λC J h8=>sQ R (EJ R Bh.slice iL R iL λ_=>J)<|sQ R (FG (ob:=.arr _ _ _ _) R D3 iL fR R)<|sQ R (I3 (d:=.int .i64 C.N) R AI iL fR (λ_=>J) R)<|mM R<|Zc h8 λX a6 h9=>xA R a6<|sQ R (EJ R Bh.slice iL R iL λ_=>J)<|sQ R (FG (ob:=.arr _ _ _ _) R D3 iL fR R)<|Zk R R (Kq (v:=(AH.mk C.Kind X C.Attrs C.Elems)) R Gl iL R J iL R R R R)<|oZ c7 ?_
  exact Zj<|ZM (s':=⟨[],[(1000,some<|.box j 193 [.own 1001<|A 0,.own 1002 M,rI B.cut]),(1001,some<|.arr (A 0) 100 4<|(B.out.set I.toNat<|AH.mk C.Kind X C.Attrs C.Elems).map AH.row),(1002,some<|.arr M 51 3<|([]:List AC).map AC.row)],(M+1),67⟩) (Zm (Zm (Ek 1000 1 1002 51 3 (by decide) R R<|by decide)<|by exact ZC (e':=[(0,.ptr 1000 j 0 0),(1,rI n1),(6,rI I),(42,.ptr 1000 j 0 0),(43,.ptr 1000 j 0 0),(44,.ptr 1000 j 0 0),(45,.own 1001<|A 0),(46,rI I),(47,.ptr 1001 (A 0) I.toNat 0),(48,.ptr 1001 (A 0) I.toNat 1),(49,rI C.N),(50,rI n1),(51,rI X),(52,.ptr 1001 (A 0) I.toNat 0),(53,.ptr 1001 (A 0) I.toNat 1)]) (h':=[(1000,some<|.box j 193 [.own 1001<|A 0,.own 1002 M,rI B.cut]),(1001,some<|.arr (A 0) 100 4<|(B.out.set I.toNat<|AH.mk C.Kind X C.Attrs C.Elems).map AH.row),(1002,some<|.arr M 51 3<|([]:List AC).map AC.row)]) ⟨jL,jL,jL,jL,jL,jL,jL,jL,jL,jL,jL,jL,jL,jL,jL,Za⟩ ⟨.inl R,.inl R,.inl R,Za⟩ nL) wk)<|ZE (λ(r:Ac) T h'=>∃(i:Nat→Nat),T=.tup []∧h'=[(1000,some<|.box j 193 [.own 1001<|i 0,.own 1002<|i 1,rI r.cut]),(1001,some<|.arr (i 0) 100 4<|r.out.map AH.row),(1002,some<|.arr (i 1) 51 3<|r.add.map AC.row)]) h9<|by exact⟨.tup [],[(1000,some<|.box j 193 [.own 1001<|A 0,.own 1002 M,rI B.cut]),(1001,some<|.arr (A 0) 100 4<|(B.out.set I.toNat<|AH.mk C.Kind X C.Attrs C.Elems).map AH.row),(1002,some<|.arr M 51 3<|([]:List AC).map AC.row)],⟨_,R,Za⟩,⟨.inr R,.inr R,.inr R,Za⟩,R,R,AG [(A 0),M],R,R⟩
 refine Zd<|c4 _<|aG [0,1,2] [1000,1001] ?_
 refine Zc h7 λF a7 a8=>Zc a8 λY aa ab=>?_
 refine Ip 11 [pO 54<|.ptr 1000 j 0 0,pO 55<|.ptr 1000 j 0 0,pO 56<|.ptr 1000 j 0 0,pO 57<|.ptr 1000 j 0 0,pO 58<|.own 1001<|A 0,pO 59<|rI n1,pO 60<|qa u,⟨some 61,(λ_=>qa F),some (61,(λ_=>none)),[]⟩,pO 62<|.agg [rI 0,rI n1,qa F,cZ],⟨some 63,(λw=>.own 63<|w 9),some (63,(λw=>some<|.arr (w 9) 100 4<|[(AH.mk 0 n1 F [])].map AH.row)),[9]⟩,⟨some 64,(λw=>.own 1001<|w 10),some (1001,(λw=>some<|.arr (w 10) 100 4<|Y.map AH.row)),[10]⟩] A8 (by kernel_rfl) (by exact⟨λ_ _ h=>⟨R,λ_ _ e=>by cases e⟩,λ_ _ h=>⟨R,λ_ _ e=>by cases e⟩,λ_ _ h=>⟨R,λ_ _ e=>by cases e⟩,λ_ _ h=>⟨R,λ_ _ e=>by cases e⟩,λ_ _ h=>⟨R,λ_ _ e=>by cases e⟩,λ_ _ h=>⟨R,λ_ _ e=>by cases e⟩,λ_ _ h=>⟨R,λ_ _ e=>by cases e⟩,λ_ _ h=>⟨R,λ_ _ e=>by cases e;rfl⟩,λ_ _ h=>⟨R,λ_ _ e=>by cases e⟩,λ_ _ h=>⟨by simp only[h 9 R],λ_ _ e=>by cases e;simp only[h 9 R]⟩,λ_ _ h=>⟨by simp only[h 10 R],λ_ _ e=>by cases e;simp only[h 10 R]⟩,Za⟩) R (by exact⟨oB [(0,.ptr 1000 j 0 0)] [(1000,some<|.box j 193 [.own 1001<|A 0,cZ,rI B.cut])]<|Ze R<|.inl R,oB [(0,.ptr 1000 j 0 0)] [(1000,some<|.box j 193 [.own 1001<|A 0,cZ,rI B.cut])]<|Ze R<|.inl R,oB [(55,.ptr 1000 j 0 0)] [(1000,some<|.box j 193 [.own 1001<|A 0,cZ,rI B.cut])]<|Zp (ob:=.box _ _ _) R (.inl R) (λ_=>R) R,oB [(56,.ptr 1000 j 0 0)] [(1000,some<|.box j 193 [.own 1001<|A 0,cZ,rI B.cut])]<|fB R F2 (.inl R) (λ_=>R) R,oB [(57,.ptr 1000 j 0 0)] [(1000,some<|.box j 193 [.own 1001<|A 0,cZ,rI B.cut])]<|Zg (a:=.own 1001<|A 0) R Dl (.inl R) R R,oB [(1,rI n1)] []<|Ze R<|.inl R,oB [(2,qa u)] []<|Ze R<|.inl R,YH R R (by intro d h;cases h;rfl) R (λ_=>[(60,qa u)]) (λ_=>[]) (λD w hr=>⟨QH hr 6 R R (by kernel_rfl) R R,Za⟩) (λD w hr=>Za) λw e h' n=>Fp.frz<|BH.toN<|PM 61 (f:=AD.row) R AZ (.inl R) (.inl ⟨(.inl R),λ_=>R⟩) a7,oB [(59,rI n1),(61,qa F)] []<|ZD R Kn (q:=[(0,_),(1,_),(2,_)]) (by exact⟨R,R,R,(.inl R),R,R,R,(.inl R),R,R,R,(.inl R),Za⟩) (cs:=[rI 0,rI n1,qa F,cZ])<|by rfl,oM (λ_=>[(62,.agg [rI 0,rI n1,qa F,cZ])]) (λ_=>[]) R λw e h' n=>ZK 63 R Bh (f:=AH.row) (l:=([(AH.mk 0 n1 F [])]:List AH)) ⟨R,⟨_,(.inl R),R⟩,Za⟩ R (λ_=>R) R,oM (λw=>[(58,.own 1001<|A 0),(63,.own 63<|w 9)]) (λw=>[(63,some<|.arr (w 9) 100 4<|[(AH.mk 0 n1 F [])].map AH.row),(1001,some<|.arr (A 0) 100 4<|B.out.map AH.row)]) R λw e h' n=>B6 R Bh (.inl R) R (.inr<|.inl ⟨_,_,(.inl R),R⟩) aa,Za⟩) λw O=>?_
 refine Ay [0,1,2,54,55,56,57,59,60,61,62,63,64] [63,1000,1001] ?_
 refine sQ R (Zp (ob:=.box _ _ _) R iL fR R)<|sQ R (fB R F2 iL fR R)<|Zk R R (Zi (ds:=[.own 1001<|w 10,cZ,rI B.cut]) R Rj iL R iL R R R R)<|Zh ?_
 exact ZM (s':=⟨[],[(1000,some<|.box j 193 [.own 1001<|w 10,.own 1002 O,rI B.cut]),(1001,some<|.arr (w 10) 100 4<|Y.map AH.row),(1002,some<|.arr O 51 3<|([]:List AC).map AC.row)],(O+1),67⟩) (Zm (Zm (Ek 1000 1 1002 51 3 (by decide) R R<|by decide)<|by exact ZC (e':=[(0,.ptr 1000 j 0 0),(1,rI n1),(2,qa u),(54,.ptr 1000 j 0 0),(55,.ptr 1000 j 0 0),(56,.ptr 1000 j 0 0),(57,.ptr 1000 j 0 0),(59,rI n1),(60,qa u),(61,qa F),(62,.agg [rI 0,rI n1,qa F,cZ]),(63,.own 63<|w 9),(64,.own 1001<|w 10),(65,.ptr 1000 j 0 0),(66,.ptr 1000 j 0 0)]) (h':=[(63,some<|.arr (w 9) 100 4<|[(AH.mk 0 n1 F [])].map AH.row),(1000,some<|.box j 193 [.own 1001<|w 10,.own 1002 O,rI B.cut]),(1001,some<|.arr (w 10) 100 4<|Y.map AH.row),(1002,some<|.arr O 51 3<|([]:List AC).map AC.row)]) ⟨jL,jL,jL,jL,jL,jL,jL,jL,jL,jL,jL,jL,jL,jL,jL,Za⟩ ⟨.inl R,.inl R,.inl R,.inl R,Za⟩ nL) wk)<|ZE (λ(r:Ac) T h'=>∃(i:Nat→Nat),T=.tup []∧h'=[(1000,some<|.box j 193 [.own 1001<|i 0,.own 1002<|i 1,rI r.cut]),(1001,some<|.arr (i 0) 100 4<|r.out.map AH.row),(1002,some<|.arr (i 1) 51 3<|r.add.map AC.row)]) ab<|by exact⟨.tup [],[(1000,some<|.box j 193 [.own 1001<|w 10,.own 1002 O,rI B.cut]),(1001,some<|.arr (w 10) 100 4<|Y.map AH.row),(1002,some<|.arr O 51 3<|([]:List AC).map AC.row)],⟨_,R,Za⟩,⟨.inr R,.inr R,.inr R,Za⟩,R,R,AG [(w 10),O],R,R⟩
theorem nu{f1 r}(h:QX f1=some r):AM prog 66 [qb f1] (qb r):=by
 unfold QX at h
 refine mF func66 ntmps66 R λZ=>aU<|mA R<|aZ<|aU<|mM R<|xL Ab R<|Zc h λa0 B h1=>sS R (Sy 8 R Ab (f:=AC.row) (z0:=(AC.mk 0 0 [])) XV iL iL B)<|mA R<|aZ<|aS λK3 c3 J=>aU<|mM R<|xL Ab R<|mM R<|aZ<|Zf<|Ar h1 λo1 C M=>?_
 have J1:∀(w:List AC) (I:NN),o1=w→K3 ⟨[(3,.own 8<|I 0)],[(8,some<|.arr (I 0) 51 3<|w.map AC.row)],(I 1),29⟩:=by
  intro w I e
  have h2:=M _ e
  exact c3 _<|aU<|mM R<|mA R<|aZ<|Zj<|CX (P:=prog) (λ(r:(List AC))=>qb r) h2 iL<|.t<|.one<|.own R
 refine ZL (λ(A:Int) (q:List AC) j=>⟨[(3,.own 8<|j 0),(9,qb f1),(10,rL f1),(11,rI A)],[(8,some<|.arr (j 0) 51 3<|q.map AC.row)],(j 1),29⟩) (AG [Z,(Z+1)]) C wk ?_
 intro A q j v1 O T
 have h3:JE f1 A q=some v1:=O;unfold JE at h3
 refine aU<|xS R<|aZ<|aT λc7=>cI R h3 (λU=>?_) λU=>?_
 ·refine Zd<|c7 _<|aT λc8=>Zf<|aU<|mM R<|Zc U λl V h5=>xI Ab R V<|xB ((Aa l)) CK R<|sS R (Zq (cs:=EC) 5 R ED R R)<|mA R<|Zk R R (Zi (ds:=(Aa l)) R Cp iL R iL R R R R)<|aZ<|Zc h5 λE X h6=>?_
  refine Ip 10 [pO 16<|.own 8<|j 0,pO 17<|rI A,pO 18<|.ptr 5 (j 1) 0 0,pO 19<|rI l.Char,pO 20<|.ptr 5 (j 1) 0 1,pO 21<|rI l.Ref,pO 22<|.ptr 5 (j 1) 0 2,pO 23<|qa l.Attrs,⟨some 24,(λu=>.own 24<|u 8),some (24,(λu=>some<|.arr (u 8) 58 2<|E.map AD.row)),[8]⟩,⟨some 25,(λu=>.agg [rI l.Char,rI l.Ref,.own 24<|u 8]),none,[8]⟩] A8 (by kernel_rfl) (by exact⟨λ_ _ h=>⟨R,λ_ _ e=>by cases e⟩,λ_ _ h=>⟨R,λ_ _ e=>by cases e⟩,λ_ _ h=>⟨R,λ_ _ e=>by cases e⟩,λ_ _ h=>⟨R,λ_ _ e=>by cases e⟩,λ_ _ h=>⟨R,λ_ _ e=>by cases e⟩,λ_ _ h=>⟨R,λ_ _ e=>by cases e⟩,λ_ _ h=>⟨R,λ_ _ e=>by cases e⟩,λ_ _ h=>⟨R,λ_ _ e=>by cases e⟩,λ_ _ h=>⟨by simp only[h 8 R],λ_ _ e=>by cases e;simp only[h 8 R]⟩,λ_ _ h=>⟨by simp only[h 8 R],λ_ _ e=>by cases e⟩,Za⟩) R (by exact⟨oB [(3,.own 8<|j 0)] [(8,some<|.arr (j 0) 51 3<|q.map AC.row)]<|Ze R<|.inl R,oB [(4,rI A)] []<|Ze R<|.inl R,oB [(5,.ptr 5 (j 1) 0 0)] [(5,some<|.box (j 1) 51<|Aa l)]<|fB R De (.inl R) (λ_=>R) R,oB [(18,.ptr 5 (j 1) 0 0)] [(5,some<|.box (j 1) 51<|Aa l)]<|Zg (a:=rI l.Char) R AI (.inl R) R R,oB [(5,.ptr 5 (j 1) 0 0)] [(5,some<|.box (j 1) 51<|Aa l)]<|fB R D2 (.inl R) (λ_=>R) R,oB [(20,.ptr 5 (j 1) 0 1)] [(5,some<|.box (j 1) 51<|Aa l)]<|Zg (a:=rI l.Ref) R AI (.inl R) R R,oB [(5,.ptr 5 (j 1) 0 0)] [(5,some<|.box (j 1) 51<|Aa l)]<|fB R B9 (.inl R) (λ_=>R) R,oB [(22,.ptr 5 (j 1) 0 2)] [(5,some<|.box (j 1) 51<|Aa l)]<|Zg (a:=qa l.Attrs) R A1 (.inl R) R R,oM (λ_=>[(23,qa l.Attrs)]) (λ_=>[]) R λu e h' n=>PM 24 (f:=AD.row) R AZ (.inl R) (.inl ⟨(.inl R),λ_=>R⟩) X,oC (λu=>[(19,rI l.Char),(21,rI l.Ref),(24,.own 24<|u 8)]) (λu=>[(24,some<|.arr (u 8) 58 2<|E.map AD.row)]) λu e h'=>ZD R H3 (q:=[(0,_),(1,_),(2,_)]) (by exact⟨R,R,R,(.inl R),R,R,R,(.inl R),R,R,R,(.inl R),Za⟩) (cs:=[rI l.Char,rI l.Ref,.own 24<|u 8])<|by rfl,Za⟩) λu n1=>?_
  refine Ay [3,4,5,9,10,11,12,13,14,15,16,17,18,19,20,21,22,23,24,25] [5,8,24] ?_
  refine Zc h6 λx5 F h7=>sQ R (EJ R Ab.slice iL R iL λ_=>F) ?_
  refine AL.weak (by exact Ag.frz (e':=[(3,.own 8<|j 0),(4,rI A),(5,.ptr 5 (j 1) 0 0),(9,qb f1),(10,rL f1),(11,rI A),(12,rB<|(decide<|A<(f1.length:Int))),(13,rI A),(14,.rop (AC.row l) 0),(15,.agg<|Aa l),(16,.own 8<|j 0),(17,rI A),(18,.ptr 5 (j 1) 0 0),(19,rI l.Char),(20,.ptr 5 (j 1) 0 1),(21,rI l.Ref),(22,.ptr 5 (j 1) 0 2),(23,qa l.Attrs),(24,qa E),(25,.agg [rI l.Char,rI l.Ref,qa E]),(26,.ptr 8 (j 0) A.toNat 0)]) (h':=[(5,some<|.box (j 1) 51<|Aa l),(8,some<|.arr (j 0) 51 3<|q.map AC.row)]) 24 R ⟨jL,jL,jL,jL,jL,jL,jL,jL,jL,jL,jL,jL,jL,jL,jL,jL,jL,jL,.inl<|.inr<|.inr ⟨R,R⟩,.inr ⟨_,_,R,R,⟨.inl R,.inl R,.inr<|.inr ⟨R,R⟩,Za⟩⟩,jL,Za⟩ ⟨R,.inl R,R,.inl R,Za⟩) ?_
  refine Zk R R (WS (v:=(AC.mk l.Char l.Ref E)) R Cp iL R F iL R R R R)<|aZ<|c8 _<|aG [3,9,10,11] [8] ?_
  exact aR<|Zc h7 λx6 Y h8=>xA R Y<|mM R<|Zh<|ZH h8 (AG [(j 0),n1]) wk
 exact Zn<|J _ _ wk<|J1 _ (AG [(j 0),(j 1)])<|xH T U
theorem QN{u:Ac}{A:List AC}{r:Ac}{j:Nat}{l:Nat}{q:Nat}(h:HF u A=some r):BL prog 152 3 [.ptr 1000 j 0 0,qb A] [(1000,some<|.box j 193 [.own 1001 l,.own 1002 q,rI u.cut]),(1001,some<|.arr l 100 4<|u.out.map AH.row),(1002,some<|.arr q 51 3<|u.add.map AC.row)] (λB h'=>∃(i:Nat→Nat),B=.tup []∧h'=[(1000,some<|.box j 193 [.own 1001<|i 0,.own 1002<|i 1,rI r.cut]),(1001,some<|.arr (i 0) 100 4<|r.out.map AH.row),(1002,some<|.arr (i 1) 51 3<|r.add.map AC.row)]):=by
 unfold HF at h
 refine DU func152 R R ntmps152 (Zw R) λT=>Zc h λC E J=>Zc J λF I M=>?_
 refine Ip 8 [pO 4<|.ptr 1000 j 0 0,pO 5<|.ptr 1000 j 0 0,pO 6<|.ptr 1000 j 0 0,pO 7<|.ptr 1000 j 0 1,pO 8<|.own 1002 q,pO 9<|qb A,pO 10<|qb C,⟨some 11,(λw=>.own 1002<|w 7),some (1002,(λw=>some<|.arr (w 7) 51 3<|F.map AC.row)),[7]⟩] A8 (by kernel_rfl) (by exact⟨λ_ _ h=>⟨R,λ_ _ e=>by cases e⟩,λ_ _ h=>⟨R,λ_ _ e=>by cases e⟩,λ_ _ h=>⟨R,λ_ _ e=>by cases e⟩,λ_ _ h=>⟨R,λ_ _ e=>by cases e⟩,λ_ _ h=>⟨R,λ_ _ e=>by cases e⟩,λ_ _ h=>⟨R,λ_ _ e=>by cases e⟩,λ_ _ h=>⟨R,λ_ _ e=>by cases e⟩,λ_ _ h=>⟨by simp only[h 7 R],λ_ _ e=>by cases e;simp only[h 7 R]⟩,Za⟩) R (by exact⟨oB [(0,.ptr 1000 j 0 0)] [(1000,some<|.box j 193 [.own 1001 l,.own 1002 q,rI u.cut])]<|Ze R<|.inl R,oB [(0,.ptr 1000 j 0 0)] [(1000,some<|.box j 193 [.own 1001 l,.own 1002 q,rI u.cut])]<|Ze R<|.inl R,oB [(5,.ptr 1000 j 0 0)] [(1000,some<|.box j 193 [.own 1001 l,.own 1002 q,rI u.cut])]<|Zp (ob:=.box _ _ _) R (.inl R) (λ_=>R) R,oB [(6,.ptr 1000 j 0 0)] [(1000,some<|.box j 193 [.own 1001 l,.own 1002 q,rI u.cut])]<|fB R Oy (.inl R) (λ_=>R) R,oB [(7,.ptr 1000 j 0 1)] [(1000,some<|.box j 193 [.own 1001 l,.own 1002 q,rI u.cut])]<|Zg (a:=.own 1002 q) R Br (.inl R) R R,oB [(1,qb A)] []<|Ze R<|.inl R,oD (λ_=>[(9,qb A)]) (λ_=>[]) λw e h' n=>ZJ (r:=qb C) (caps:=[]) (bs:=[qb A]) R (.inl R) R ⟨.inl ⟨(.inl R),R⟩,Za⟩ λ_=>nu<|E,oM (λ_=>[(8,.own 1002 q),(10,qb C)]) (λ_=>[(1002,some<|.arr q 51 3<|u.add.map AC.row)]) R λw e h' n=>B6 R Ab (.inl R) R (.inl ⟨(.inl R),λ_=>R⟩) I,Za⟩) λw O=>?_
 refine Ay [0,1,4,5,6,7,9,10,11] [1000,1001,1002] ?_
 refine sQ R (Zp (ob:=.box _ _ _) R iL fR R)<|sQ R (fB R Oy iL fR R)<|Zk R R (Zi (ds:=[.own 1001 l,.own 1002<|w 7,rI u.cut]) R T4 iL R iL R R R R)<|Zh ?_
 exact ZM (s':=⟨[],[(1000,some<|.box j 193 [.own 1001 l,.own 1002<|w 7,rI u.cut]),(1001,some<|.arr l 100 4<|u.out.map AH.row),(1002,some<|.arr (w 7) 51 3<|F.map AC.row)],O,14⟩) wk<|ZE (λ(r:Ac) B h'=>∃(i:Nat→Nat),B=.tup []∧h'=[(1000,some<|.box j 193 [.own 1001<|i 0,.own 1002<|i 1,rI r.cut]),(1001,some<|.arr (i 0) 100 4<|r.out.map AH.row),(1002,some<|.arr (i 1) 51 3<|r.add.map AC.row)]) M<|by exact⟨.tup [],[(1000,some<|.box j 193 [.own 1001 l,.own 1002<|w 7,rI u.cut]),(1001,some<|.arr l 100 4<|u.out.map AH.row),(1002,some<|.arr (w 7) 51 3<|F.map AC.row)],⟨_,R,Za⟩,⟨.inr R,.inr R,.inr R,Za⟩,R,R,AG [l,(w 7)],R,R⟩
theorem Tk{j r}(h:Gh j=some r):AM prog 186 (Ox j) (rI r):=by
 unfold Gh at h
 refine mF func186 ntmps186 R λu=>aU<|sS R (Zv (cs:=(BZ j)) 1 R iL R R)<|mA R<|aZ<|aT λq=>aU<|lF Bt AI R R<|xQ R<|aZ<|cI R h (λl=>?_) λl=>?_
 ·exact aU<|lF Dz Br R R<|xL Ab R<|mA R<|aZ<|Zj<|yI l R
 exact Zd<|q _<|aU<|lF D3 AI R R<|mA R<|aZ<|Zj<|yI l R
theorem Oc{d1 r}(h:IO d1=some r):AM prog 147 [qd d1] (rI r):=by
 unfold IO at h
 refine mF func147 ntmps147 R λn0=>aU<|mA R<|aZ<|aU<|mA R<|mA R<|aZ<|aS λK3 c3 a8=>aU<|mM R<|xL Bh R<|mM R<|aZ<|Zf<|Jd h λo1 a0 aa a1=>?_
 have J1:∀(q:Int) (A:Int) (i5:NN),o1=.nrm (q,A)→K3 ⟨[(3,rI q),(4,rI A)],[],(i5 0),78⟩:=by
  intro q A i5 e
  have h1:=aa _ _ e
  refine c3 _<|aT λc5=>aU<|mM R<|sQ R (Zy R iL iL)<|mM R<|vM R<|vQ R (Zy R (iR R) iL)<|xO R<|aZ<|cI R h1 (λh2=>?_) λh2=>?_
  ·exact zI h2 R id
  exact Zd<|c5 _<|zI h2 R id
 refine H0 (λ(j:Int) (l:Int) (Z:Int) C=>⟨[(0,qd d1),(3,rI j),(4,rI l),(9,qd d1),(10,rL d1),(11,rI Z)],[],(C 0),78⟩) (AG [n0]) a0 wk ?_
 intro j l Z C v1 ab J
 have h3:IM d1 j l Z=some v1:=ab;unfold IM at h3
 refine aU<|xS R<|aZ<|aT λac=>cI R h3 (λh4=>?_) λh4=>?_
 ·refine Zd<|ac _<|aS λad ae E=>Zf<|Jd h4 λp1 af ag a2=>?_
  have J2:∀(u:Int) (B:Int) (i6:NN),p1=.nrm (u,B)→ad ⟨[(0,qd d1),(3,rI u),(4,rI B),(9,qd d1),(10,rL d1),(11,rI Z)],[],(i6 0),78⟩:=by
   intro u B i6 e
   have h5:=ag _ _ e
   exact ae _<|aR<|Zc h5 λx4 ah h6=>xA R ah<|mM R<|Zh<|DO.mk h6 (AG [(i6 0)]) wk
  refine aU<|mM R<|Zc af λM ai h7=>xI Bh R ai<|xB ((BZ M)) EI R<|sS R (Zq (cs:=Do) 6 R E0 R R)<|mA R<|Zk R R (Zi (ds:=(BZ M)) R E3 iL R iL R R R R)<|aZ<|aT λaj=>aU<|xC EI R<|Zc h7 λe1 ak h8=>cL (dG<|ak) R<|mA R<|aZ<|aU<|mM R<|xU R<|aZ<|cI R h8 (λh9=>?_) λh9=>?_
  ·refine aT λal=>aF [7] ?_
   exact aR<|mM R<|mA R<|aZ<|al _<|Zj<|yI (a1 _<|J _ (Zb<|a2 _ (Zb h9).symm).symm) R
  refine Zd<|aj _<|aS λan ao F=>aT λaq=>aG [0,3,4,5,6,9,10,11] [6] ?_
  refine aR<|mM R<|sQ R (Zy R iL iL)<|aZ<|aq _<|A5 h9 λp2 a6 ar av=>?_
  have J3:∀(u2:Unit) (i7:NN),p2=.nrm u2→an ⟨[(0,qd d1),(3,rI j),(4,rI l),(6,.ptr 6 (C 0) 0 0),(9,qd d1),(10,rL d1),(11,rI Z)],[(6,some<|.box (C 0) 100<|BZ M)],(i7 0),78⟩:=by
   intro u2 i7 e
   have aw:=ar _ e
   refine ao _<|aS λax ay I=>aU<|lF Bt AI R R<|xU R<|aZ<|Ar aw λp3 a7 az=>?_
   have J4:∀(w:Int) (i8:NN),p3=w→ax ⟨[(0,qd d1),(3,rI w),(4,rI l),(6,.ptr 6 (C 0) 0 0),(9,qd d1),(10,rL d1),(11,rI Z)],[(6,some<|.box (C 0) 100<|BZ M)],(i8 0),78⟩:=by
    intro w i8 e
    have b0:=az _ e
    refine ay _<|aU<|lF Bt AI R R<|xU R<|aZ<|cI R b0 (λO=>?_) λO=>?_
    ·exact aR<|mM R<|xC EI R<|Zc O λr1 b1 b2=>cL (Tk<|b1) R<|Zc b2 λx6 b3 b4=>xA R b3<|sQ R (LS R iL iL)<|mA R<|Zh<|E _ _ wk<|J2 _ _ (AG [(i8 0)]) (Zb b4).symm
    exact Zd<|E _ _ wk<|J2 _ _ (AG [(i8 0)]) (Zb O).symm
   refine aC R (λT=>?_) λT=>?_
   ·have U:=Ba T a7
    exact aR<|mM R<|lF D3 AI R R<|Zc U λx7 b5 b6=>xA R b5<|sQ R (LS R iL iL)<|mA R<|Zh<|I _ _ wk<|J4 _ (AG [(i7 0)]) (Zb b6).symm
   ·have U:=Be T a7
    exact Zd<|I _ _ wk<|J4 _ (AG [(i7 0)]) (Zb U).symm
  refine aC R (λV=>?_) λV=>?_
  ·have X:=Ba V a6
   refine aU<|mM R<|mM R<|Zc X λx8 b7 b8=>sQ R (Bu R iL iL λ_=>b7)<|Zc b8 λx9 b9 ba=>xI Bh R b9<|xB ((BZ x9)) EI R<|sS R (Zq (cs:=Do) 8 R E0 R R)<|Zk R R (Zi (ds:=(BZ x9)) R E3 iL R iL R R R R)<|aZ<|aU<|lF Bt AI R R<|lF Bt AI R R<|xQ R<|mM R<|vF Bt AI R R<|vQ R (CP R (iR R) iL)<|vQ R (Ze R<|iR R)<|wQ R (fB R DZ iL fR R)<|wQ R (Zg (a:=qa x9.Attrs) R A1 (iR R) R R)<|wQ R (fB R DZ iL fR R)<|wQ R (Zg (a:=qa M.Attrs) R A1 (iR R) R R)<|Zc ba λr2 bb bc=>AL.stepW (.two R R R) R R (Du (r:=rB r2) (caps:=[]) (bs:=[qa x9.Attrs,qa M.Attrs]) R iL R ⟨⟨_,(iR R),.d R⟩,⟨_,(iR R),.d R⟩,Za⟩ (λhg=>UZ<|AN bb hg) R)<|vQ R (B1 R (iR R)<|iR R)<|xN R<|mM R<|vF Bt AI R R<|vQ R (Zs R (iR R) iL)<|vQ R (Ze R<|iR R)<|wQ R (fB R Bt iL fR R)<|wQ R (Zg (a:=rI M.Kind) R AI (iR R) R R)<|wQ R (Zs R (iR R) iL)<|vQ R (ZG R (iR R)<|iR R)<|xO R<|aZ<|cI R bc (λY=>?_) λY=>?_
   ·refine aT λbd=>aF [] ?_
    exact aR<|mA R<|aZ<|bd _<|Zj<|yI (a1 _<|J _ (Zb<|a2 _ (Zb<|av _ (Zb Y).symm).symm).symm) R
   exact Zd<|F _ _ wk<|J3 _ (AG [((C 0)+2)]) (Zb Y).symm
  ·have X:=Be V a6
   exact Zd<|F _ _ wk<|J3 _ (AG [((C 0)+1)]) (Zb X).symm
 exact Zn<|a8 _ _ wk<|J1 _ _ (AG [(C 0)])<|xH J h4
theorem S0{w:Ac}{r:(List AH) × Int × Ac}{j:Nat}{l:Nat}{q:Nat}(h:IK w=some r):BL prog 155 3 [.ptr 1000 j 0 0] [(1000,some<|.box j 193 [.own 1001 l,.own 1002 q,rI w.cut]),(1001,some<|.arr l 100 4<|w.out.map AH.row),(1002,some<|.arr q 51 3<|w.add.map AC.row)] (λA h'=>∃(i:Nat→Nat),A=.tup [qd r.1,rI r.2.1]∧h'=[(1000,some<|.box j 193 [qd r.2.2.out,cZ,rI r.2.2.cut])]):=by
 unfold IK at h
 refine DU func155 R R ntmps155 (Zw R) λV=>aU<|mA R<|mA R<|aZ<|aT λI=>aR<|mM R<|Zc h λu B J=>?_
 refine Zo [1000,1001,1002] (hc:=[(1000,some<|.box j 193 [.own 1001 l,.own 1002 q,rI w.cut]),(1001,some<|.arr l 100 4<|w.out.map AH.row),(1002,some<|.arr q 51 3<|w.add.map AC.row)]) (bs:=[.ptr 1000 j 0 0]) (caps:=[]) R R R R iL R ⟨.inl ⟨iL,R⟩,Za⟩ ⟨R,R,R,R,R,R,R,R,R,Za⟩ (by decide) (Y1 B) ?_
 intro X F
 refine Ay [0,2,3,4,5] [1000,1001] ?_
 refine aZ<|I _<|aT λM=>aU<|mM R<|sQ R (Zp (ob:=.box _ _ _) R iL fR R)<|lF F2 Dl R R<|Zc J λY C O=>cL (Oc<|C) R<|xU R<|aZ<|cI R O (λE=>?_) λE=>?_
 ·refine aT λT=>aG [] [1000,1001] ?_
  refine aR<|mA R<|mA R<|oZ T ?_
  exact Zj<|ZM (s':=⟨[(2,.r<|.sl []),(3,rI 3)],[(1000,some<|.box j 193 [qd u.out,cZ,rI u.cut])],F,16⟩) (Zm (by exact Ag.frz (e':=[(2,cZ),(3,rI 3)]) (h':=[(1000,some<|.box j 193 [qd u.out,cZ,rI u.cut])]) 1001 R ⟨jL,jL,Za⟩ ⟨R,.inr<|.inr<|.inl ⟨_,_,_,_,R,R,⟨.inr<|.inr ⟨R,R⟩,.inl R,.inl R,Za⟩⟩,Za⟩)<|by exact ZC ⟨.inl<|.inr<|.inr ⟨R,R⟩,jL,Za⟩ ⟨.inl R,Za⟩ nL)<|ZE (λ(r:(List AH) × Int × Ac) A h'=>∃(i:Nat→Nat),A=.tup [qd r.1,rI r.2.1]∧h'=[(1000,some<|.box j 193 [qd r.2.2.out,cZ,rI r.2.2.cut])]) E<|by exact⟨.tup [.r<|.sl [],rI 3],[(1000,some<|.box j 193 [qd u.out,cZ,rI u.cut])],⟨_,R,⟨R,R,Za⟩⟩,⟨.inr R,Za⟩,R,R,AG [],R,R⟩
 refine Zd<|M _<|aT λU=>aG [0] [1000,1001] ?_
 refine aR<|mM R<|sQ R (Zp (ob:=.box _ _ _) R iL fR R)<|lF F2 Dl R R<|mA R<|mA R<|oZ U ?_
 exact Zj<|ZM (s':=⟨[(2,qd u.out),(3,rI 0)],[(1000,some<|.box j 193 [qd u.out,cZ,rI u.cut])],F,16⟩) (Zm (by exact Ag.frz (e':=[(0,.ptr 1000 j 0 0),(2,qd u.out),(3,rI 0),(12,.ptr 1000 j 0 0),(13,.ptr 1000 j 0 0),(14,.ptr 1000 j 0 0),(15,qd u.out)]) (h':=[(1000,some<|.box j 193 [qd u.out,cZ,rI u.cut])]) 1001 R ⟨jL,.inl<|.inr<|.inr ⟨R,R⟩,jL,jL,jL,jL,.inl<|.inr<|.inr ⟨R,R⟩,Za⟩ ⟨R,.inr<|.inr<|.inl ⟨_,_,_,_,R,R,⟨.inr<|.inr ⟨R,R⟩,.inl R,.inl R,Za⟩⟩,Za⟩) wk)<|ZE (λ(r:(List AH) × Int × Ac) A h'=>∃(i:Nat→Nat),A=.tup [qd r.1,rI r.2.1]∧h'=[(1000,some<|.box j 193 [qd r.2.2.out,cZ,rI r.2.2.cut])]) E<|by exact⟨.tup [qd u.out,rI 0],[(1000,some<|.box j 193 [qd u.out,cZ,rI u.cut])],⟨_,R,⟨R,R,Za⟩⟩,⟨.inr R,Za⟩,R,R,AG [],R,R⟩
theorem e8{d1 r}(h:IU d1=some r):AM prog 120 [qd d1] (.tup [qd r.1,rI r.2]):=by
 unfold IU at h
 refine mF func120 ntmps120 R λl=>aU<|mA R<|mA R<|aZ<|aU<|sS R (Zq (cs:=Me) 4 R Sl R R)<|aZ<|aS λK3 c3 a2=>aU<|mM R<|xL Bh R<|mM R<|aZ<|Zf<|A5 h λo1 V a6 X=>?_
 have J1:∀(A:Ac) (u:NN),o1=.nrm A→K3 ⟨[(4,.ptr 4 l 0 0)],[(4,some<|.box l 193 [.own 3040<|u 0,.own 3041<|u 1,rI A.cut]),(3040,some<|.arr (u 0) 100 4<|A.out.map AH.row),(3041,some<|.arr (u 1) 51 3<|A.add.map AC.row)],(u 2),76⟩:=by
  intro A u e
  have h1:=a6 _ e
  refine c3 _<|aT λc5=>aR<|IA h1 λr1 r2 w5 a7 h2=>?_
  refine Zo [4,3040,3041] (hc:=[(1000,some<|.box l 193 [.own 1001<|u 0,.own 1002<|u 1,rI A.cut]),(1001,some<|.arr (u 0) 100 4<|A.out.map AH.row),(1002,some<|.arr (u 1) 51 3<|A.add.map AC.row)]) (bs:=[.ptr 1000 l 0 0]) (caps:=[]) R R R R iL R ⟨.inl ⟨iL,R⟩,Za⟩ ⟨R,R,R,R,R,R,R,R,R,Za⟩ (by decide) (S0 a7) ?_
  intro i6 n1
  refine Ay [4,73] [4] ?_
  exact xX R<|xX R<|mA R<|mA R<|aZ<|c5 _<|Zj<|CB (P:=prog) (λ(r:(List AH) × Int)=>qd r.1) (λ(r:(List AH) × Int)=>rI r.2) h2 iL (.t<|.d R)<|.t<|.d R
 refine ZL (λ(Y:Int) (q:Ac) j=>⟨[(4,.ptr 4 l 0 0),(8,qd d1),(9,rL d1),(10,rI Y)],[(4,some<|.box l 193 [.own 3040<|j 0,.own 3041<|j 1,rI q.cut]),(3040,some<|.arr (j 0) 100 4<|q.out.map AH.row),(3041,some<|.arr (j 1) 51 3<|q.add.map AC.row)],(j 2),76⟩) (AG [(l+1),(l+2),(l+3)]) V (Zm (Zm (Ek 4 0 3040 100 4 (by decide) R R<|by decide)<|by exact ZC (e':=[(0,qd d1),(2,cZ),(3,rI 0),(4,.ptr 4 l 0 0),(8,qd d1),(9,rL d1),(10,rI 0)]) (h':=[(4,some<|.box l 193 [.own 3040<|l+1,cZ,rI 0]),(3040,some<|.arr (l+1) 100 4<|([]:List AH).map AH.row)]) ⟨jL,jL,jL,jL,jL,jL,jL,Za⟩ ⟨.inl R,.inl R,Za⟩ nL)<|Zm (Zm (Ek 4 1 3041 51 3 (by decide) R R<|by decide)<|by exact ZC (e':=[(0,qd d1),(2,cZ),(3,rI 0),(4,.ptr 4 l 0 0),(8,qd d1),(9,rL d1),(10,rI 0)]) (h':=[(4,some<|.box l 193 [.own 3040<|l+1,.own 3041<|l+2,rI 0]),(3040,some<|.arr (l+1) 100 4<|([]:List AH).map AH.row),(3041,some<|.arr (l+2) 51 3<|([]:List AC).map AC.row)]) ⟨jL,jL,jL,jL,jL,jL,jL,Za⟩ ⟨.inl R,.inl R,.inl R,Za⟩ nL) wk) ?_
 intro Y q j v1 a8 C
 have h3:FA d1 Y q=some v1:=a8;unfold FA at h3
 refine aU<|xS R<|aZ<|aT λc7=>cI R h3 (λh4=>?_) λh4=>?_
 ·refine Zd<|c7 _<|aS λK8 c8 E=>Zf<|A5 h4 λp1 aa ab Z=>?_
  have J2:∀(w6:Ac) (w:NN),p1=.nrm w6→K8 ⟨[(4,.ptr 4 l 0 0),(8,qd d1),(9,rL d1),(10,rI Y)],[(4,some<|.box l 193 [.own 3040<|w 0,.own 3041<|w 1,rI w6.cut]),(3040,some<|.arr (w 0) 100 4<|w6.out.map AH.row),(3041,some<|.arr (w 1) 51 3<|w6.add.map AC.row)],(w 2),76⟩:=by
   intro w6 w e
   have h5:=ab _ e
   exact c8 _<|aR<|Zc h5 λx4 ac h6=>xA R ac<|mM R<|Zh<|ZH h6 (AG [(w 0),(w 1),(w 2)]) wk
  refine aU<|Zc aa λF ad h7=>xI Bh R ad<|xB ((BZ F)) EI R<|sS R (Zq (cs:=Do) 6 R E0 R R)<|Zk R R (Zi (ds:=(BZ F)) R E3 iL R iL R R R R)<|aZ<|aU<|xC EI R<|Zc h7 λe1 ae h8=>cL (dG<|ae) R<|mA R<|aZ<|aS λaf ag B=>aT λah=>aR<|lF Bt AI R R<|xQ R<|mM R<|vF Dz Br R R<|vQ R (Bd R Ab.slice<|iR R)<|vQ R (Zs R (iR R) iL)<|xN R<|mM R<|vM R<|vQ R (Zs R (iR R) iL)<|xN R<|mM R<|vF Bt AI R R<|vQ R (CP R (iR R) iL)<|vQ R (Ze R<|iR R)<|wQ R (fB R D3 iL fR R)<|wQ R (Zg (a:=rI F.N) R AI (iR R) R R)<|wQ R (Zs R (iR R) iL)<|vQ R (ZG R (iR R)<|iR R)<|vQ R (Ze R<|iR R)<|wQ R (Ze R iL)<|wQ R (Zs R (iR R) iL)<|vQ R (ZG R (iR R)<|iR R)<|xO R<|aZ<|ah _<|Ar h8 λp2 a0 ai=>?_
  have J3:∀(e2:Int) (i8:NN),p2=e2→af ⟨[(4,.ptr 4 l 0 0),(6,.ptr 6 (j 2) 0 0),(7,rI e2),(8,qd d1),(9,rL d1),(10,rI Y)],[(4,some<|.box l 193 [.own 3040<|j 0,.own 3041<|j 1,rI q.cut]),(6,some<|.box (j 2) 100<|BZ F),(3040,some<|.arr (j 0) 100 4<|q.out.map AH.row),(3041,some<|.arr (j 1) 51 3<|q.add.map AC.row)],(i8 0),76⟩:=by
   intro e2 i8 e
   have h9:=ai _ e
   refine ag _<|aT λaj=>aU<|mM R<|xU R<|aZ<|cI R h9 (λI=>?_) λI=>?_
   ·exact aU<|mM R<|mA R<|mA R<|aZ<|Zj<|CB (P:=prog) (λ(r:(List AH) × Int)=>qd r.1) (λ(r:(List AH) × Int)=>rI r.2) (X _<|C _ (Zb<|Z _ (Zb I).symm).symm) iL (.t<|.one<|.nil)<|.t<|.d R
   refine Zd<|aj _<|aU<|lF Bt AI R R<|aZ<|Zf<|aU<|xQ R<|mA R<|aZ<|cI R I (λJ=>?_) λJ=>?_
   ·refine aR<|lF D3 AI R R<|lF DZ A1 R R<|Zc J λw7 ak al=>?_
    refine Zo [4,3040,3041] (hc:=[(1000,some<|.box l 193 [.own 1001<|j 0,.own 1002<|j 1,rI q.cut]),(1001,some<|.arr (j 0) 100 4<|q.out.map AH.row),(1002,some<|.arr (j 1) 51 3<|q.add.map AC.row)]) (bs:=[.ptr 1000 l 0 0,rI F.N,qa F.Attrs]) (caps:=[]) R R R R iL R ⟨.inl ⟨iL,R⟩,.inl ⟨iL,R⟩,.inl ⟨iL,R⟩,Za⟩ ⟨R,R,R,R,R,R,R,R,R,Za⟩ (by decide) (L0 ak) ?_
    intro i9 n2
    refine Ay [4,6,7,8,9,10,46,47,49,50,60,61,62,63,64,65,66] [4,6,3040,3041] ?_
    exact Zh<|E _ _ wk<|J2 _ (AG [(i9 0),(i9 1),n2]) (Zb al).symm
   refine aU<|xQ R<|mA R<|aZ<|cI R J (λM=>?_) λM=>?_
   ·refine aG [4,6,8,9,10] [4,6,3040,3041] ?_
    refine aR<|lF Dz Br R R<|Zc M λw8 an ao=>?_
    refine Zo [4,3040,3041] (hc:=[(1000,some<|.box l 193 [.own 1001<|j 0,.own 1002<|j 1,rI q.cut]),(1001,some<|.arr (j 0) 100 4<|q.out.map AH.row),(1002,some<|.arr (j 1) 51 3<|q.add.map AC.row)]) (bs:=[.ptr 1000 l 0 0,qb F.Elems]) (caps:=[]) R R R R iL R ⟨.inl ⟨iL,R⟩,.inl ⟨iL,R⟩,Za⟩ ⟨R,R,R,R,R,R,R,R,R,Za⟩ (by decide) (QN an) ?_
    intro a1 n3
    refine Ay [4,6,8,9,10,69,70,71] [4,6,3040,3041] ?_
    exact Zh<|E _ _ wk<|J2 _ (AG [(a1 0),(a1 1),n3]) (Zb ao).symm
   refine aT λaq=>aG [4,6,8,9,10] [4,6,3040,3041] ?_
   refine aR<|lF FQ AI R R<|lF D3 AI R R<|Zc M λx6 ar av=>xA R ar<|sQ R (fB R FQ iL fR R)<|Zk R R (Zi (ds:=[.own 3040<|j 0,.own 3041<|j 1,rI x6]) R Gl iL R iL R R R R)<|aZ<|aq _<|aU<|lF FQ AI R R<|sQ R (Zy R iL iL)<|aZ<|cI R av (λO=>?_) λO=>?_
   ·refine aT λaw=>aF [] ?_
    exact aR<|mA R<|mA R<|aZ<|aw _<|Zj<|CB (P:=prog) (λ(r:(List AH) × Int)=>qd r.1) (λ(r:(List AH) × Int)=>rI r.2) (X _<|C _ (Zb<|Z _ (Zb O).symm).symm) iL (.t<|.one<|.nil)<|.t<|.d R
   exact Zd<|E _ _ wk<|J2 _ (AG [(j 0),(j 1),(i8 0)]) (Zb O).symm
  refine aC R (λT=>?_) λT=>?_
  ·have U:=Ba T a0
   refine aG [4,6,8,9,10] [4,6,3040,3041] ?_
   exact aR<|lF DZ A1 R R<|Zc U λe3 ax ay=>cL (jI<|ax) R<|mA R<|Zh<|B _ _ wk<|J3 _ (AG [((j 2)+1)]) (Zb ay).symm
  ·have U:=Be T a0
   exact Zd<|B _ _ wk<|J3 _ (AG [((j 2)+1)]) (Zb U).symm
 exact Zn<|a2 _ _ wk<|J1 _ (AG [(j 0),(j 1),(j 2)])<|xH C h4
theorem rj{f1 p a r}(h:PI f1 p a=some r):AM prog 104 [qb f1,.r<|.sl<|p.map<|Ad .i64,rS a] (qd r):=by
 unfold PI at h
 refine mF func104 ntmps104 R λn0=>aU<|mA R<|aZ<|aU<|mM R<|xL Ab R<|Zc h λa7 F h1=>sS R (Sy 18 R Mi (f:=EH) (z0:=false) uM iL iL F)<|mA R<|aZ<|aS λK3 c3 a8=>aU<|mM R<|xL Bl R<|mM R<|aZ<|Zf<|Ar h1 λo1 Y aa=>?_
 have J1:∀(j:List Bool) (q:NN),o1=j→K3 ⟨[(0,qb f1),(2,rS a),(7,.own 18<|q 0)],[(18,some<|.arr (q 0) 4 1<|j.map EH)],(q 1),69⟩:=by
  intro j q e
  have h2:=aa _ e
  refine c3 _<|aU<|mA R<|aZ<|aS λK6 c6 ab=>aU<|mM R<|xL Ab R<|mM R<|aZ<|Zf<|Ar h2 λo2 Z ac=>?_
  have J2:∀(u:List AH) (I:NN),o2=u→K6 ⟨[(10,.own 5010<|I 0)],[(5010,some<|.arr (I 0) 100 4<|u.map AH.row)],(I 1),69⟩:=by
   intro u I e
   have h3:=ac _ e
   refine c6 _<|aT λc8=>aR<|mM R ?_
   refine AL.weak (by exact Ag.frz (e':=[(10,qd u),(64,qd u)]) (h':=[]) 5010 R ⟨.inl<|.inr<|.inr ⟨R,R⟩,.inl<|.inr<|.inr ⟨R,R⟩,Za⟩ Za) ?_
   exact Ch h3 λr1 r2 ad h4=>sS R (ZJ (r:=.tup [qd r1,rI r2]) (caps:=[]) (bs:=[qd u]) R iL R ⟨.inl ⟨iL,R⟩,Za⟩ λ_=>e8<|ad)<|mM R<|xX R<|xX R<|mA R<|mA R<|aZ<|c8 _<|aU<|mM R<|mA R<|aZ<|Zj<|CX (P:=prog) (λ(r:(List AH))=>qd r) h4 iL<|.t<|.d R
  refine ZL (λ(C:Int) (l:List AH) i8=>⟨[(2,rS a),(7,.own 18<|q 0),(10,.own 5010<|i8 0),(29,qb f1),(30,rL f1),(31,rI C)],[(18,some<|.arr (q 0) 4 1<|j.map EH),(5010,some<|.arr (i8 0) 100 4<|l.map AH.row)],(i8 1),69⟩) (AG [(q 1),((q 1)+1)]) Z (Zm (Zm (ZR 10 5010 100 4 (by decide) R)<|by exact ZC (e':=[(0,qb f1),(2,rS a),(7,.own 18<|q 0),(10,.own 5010<|q 1),(29,qb f1),(30,rL f1),(31,rI 0)]) (h':=[(18,some<|.arr (q 0) 4 1<|j.map EH),(5010,some<|.arr (q 1) 100 4<|([]:List AH).map AH.row)]) ⟨jL,jL,jL,jL,jL,jL,jL,Za⟩ ⟨.inl R,.inl R,Za⟩ nL) wk) ?_
  intro C l i8 v1 ae af
  have h5:Lh f1 a j C l=some v1:=ae;unfold Lh at h5
  refine aU<|xS R<|aZ<|aT λag=>cI R h5 (λh6=>?_) λh6=>?_
  ·refine Zd<|ag _<|aT λah=>Zf<|aU<|mM R<|Zc h6 λX ai h7=>xI Ab R ai<|xB ((Aa X)) CK R<|sS R (Zq (cs:=EC) 12 R ED R R)<|mA R<|Zk R R (Zi (ds:=(Aa X)) R Cp iL R iL R R R R)<|aZ<|aT λaj=>aR ?_
   refine sQ R (ZD R Kn (q:=[(0,_),(1,_)]) (by exact⟨R,R,R,iL,R,R,R,iL,Za⟩) (cs:=Up)<|by rfl) ?_
   refine sS R (Zq (cs:=Do) 13 R E0 R R)<|Zk R R (Zi (ds:=Up) R E3 iL R iL R R R R)<|aZ<|aj _<|aS λak al E=>Zf<|Ar h7 λp1 an ao=>?_
   have J3:∀(A:AH) (B:NN),p1=A→ak ⟨[(2,rS a),(7,.own 18<|q 0),(10,.own 5010<|i8 0),(13,.ptr 13 ((i8 1)+1) 0 0),(29,qb f1),(30,rL f1),(31,rI C)],[(13,some<|.box ((i8 1)+1) 100 [rI A.Kind,rI A.N,.own 39<|B 0,cZ]),(18,some<|.arr (q 0) 4 1<|j.map EH),(39,some<|.arr (B 0) 58 2<|A.Attrs.map AD.row),(5010,some<|.arr (i8 0) 100 4<|l.map AH.row)],(B 1),69⟩:=by
    intro A B e
    have h8:=ao _ e
    refine al _<|aR<|mM R<|xC EI R ?_
    refine AL.weak (by exact Ag.frz (e':=[(2,rS a),(7,.own 18<|q 0),(10,.own 5010<|i8 0),(13,.ptr 13 ((i8 1)+1) 0 0),(29,qb f1),(30,rL f1),(31,rI C),(58,.own 5010<|i8 0),(59,.agg [rI A.Kind,rI A.N,qa A.Attrs,cZ])]) (h':=[(13,some<|.box ((i8 1)+1) 100 [rI A.Kind,rI A.N,qa A.Attrs,cZ]),(18,some<|.arr (q 0) 4 1<|j.map EH),(5010,some<|.arr (i8 0) 100 4<|l.map AH.row)]) 39 R ⟨jL,jL,jL,jL,jL,jL,jL,jL,.inr ⟨_,_,R,R,⟨.inl R,.inl R,.inr<|.inr ⟨R,R⟩,.inl R,Za⟩⟩,Za⟩ ⟨R,.inr<|.inr<|.inl ⟨_,_,_,_,R,R,⟨.inl R,.inl R,.inr<|.inr ⟨R,R⟩,.inl R,Za⟩⟩,R,.inl R,R,.inl R,Za⟩) ?_
    exact sS R (ZK 60 R Bh (f:=AH.row) (l:=([(AH.mk A.Kind A.N A.Attrs [])]:List AH)) ⟨R,⟨_,iL,R⟩,Za⟩ R (λ_=>R) R)<|Zc h8 λb7 O h9=>sS R (B6 R Bh iL R (.inr<|.inl ⟨_,_,iL,R⟩) O)<|mA R<|aZ<|ah _<|aR<|Zc h9 λx8 aq ar=>xA R aq<|mM R<|Zh<|ZH ar (AG [((B 1)+1),((B 1)+2)]) wk
   refine aU<|mM R<|mM R<|Zc an λx9 a0 av=>sQ R (EJ R Mi.slice iL R iL λ_=>a0)<|sQ R (I3 (d:=.bool x9) R XZ iL fR (λ_=>a0) R)<|sQ R (Zu R iL)<|mA R<|aZ<|cI R av (λT=>?_) λT=>?_
   ·refine Zd ?_
    exact E _ _ (Zm (Zm (Ek 13 2 39 58 2 (by decide) R R<|by decide)<|by exact ZC (e':=[(2,rS a),(7,.own 18<|q 0),(10,.own 5010<|i8 0),(11,rI C),(12,.ptr 12 (i8 1) 0 0),(13,.ptr 13 ((i8 1)+1) 0 0),(29,qb f1),(30,rL f1),(31,rI C),(32,rB<|(decide<|C<(f1.length:Int))),(33,rI C),(34,.rop (AC.row X) 0),(35,.agg<|Aa X),(36,.agg Up),(41,rB<|(!x9)),(42,.own 18<|q 0),(43,rI C),(44,.ptr 18 (q 0) C.toNat 0),(45,rB x9),(46,rB<|(!x9))]) (h':=[(12,some<|.box (i8 1) 51<|Aa X),(13,some<|.box ((i8 1)+1) 100 [rI 0,rI 1,.own 39<|(i8 1)+2,cZ]),(18,some<|.arr (q 0) 4 1<|j.map EH),(39,some<|.arr ((i8 1)+2) 58 2<|([]:List AD).map AD.row),(5010,some<|.arr (i8 0) 100 4<|l.map AH.row)]) ⟨jL,jL,jL,jL,jL,jL,jL,jL,jL,jL,jL,jL,jL,jL,jL,jL,jL,jL,jL,jL,Za⟩ ⟨.inl R,.inl R,.inl R,.inl R,.inl R,Za⟩ nL) wk)<|J3 _ (AG [((i8 1)+2),((i8 1)+3)]) (Zb T).symm
   refine aT λaw=>aG [2,7,10,12,13,29,30,31] [12,13,18,5010] ?_
   refine aR<|mM R<|sQ R (ZI R iL iL)<|mM R<|vF B9 A1 R R<|Zc T λr3 ax ay=>vL (λhg=>Om<|AN ax hg) R<|vM R<|vQ R (ZI R (iR R)<|iR R)<|xO R<|mA R<|aZ<|aw _<|cI R ay (λU=>?_) λU=>?_
   ·refine aR<|sQ R (fB R Bt iL fR R)<|Zk R R (Zi (ds:=[rI 2,rI 1,cZ,cZ]) R Gl iL R iL R R R R)<|Zh ?_
    exact E _ _ (Zm (Zm (Ek 13 2 39 58 2 (by decide) R R<|by decide)<|by exact ZC (e':=[(2,rS a),(7,.own 18<|q 0),(10,.own 5010<|i8 0),(12,.ptr 12 (i8 1) 0 0),(13,.ptr 13 ((i8 1)+1) 0 0),(29,qb f1),(30,rL f1),(31,rI C),(47,rB<|((a=[])||(r3=a))),(48,rS a),(49,rB<|(decide<|a=[])),(50,rB<|(decide<|a=[])),(56,rB<|((a=[])||(r3=a))),(57,.ptr 13 ((i8 1)+1) 0 0)]) (h':=[(12,some<|.box (i8 1) 51<|Aa X),(13,some<|.box ((i8 1)+1) 100 [rI 2,rI 1,.own 39<|(i8 1)+2,cZ]),(18,some<|.arr (q 0) 4 1<|j.map EH),(39,some<|.arr ((i8 1)+2) 58 2<|([]:List AD).map AD.row),(5010,some<|.arr (i8 0) 100 4<|l.map AH.row)]) ⟨jL,jL,jL,jL,jL,jL,jL,jL,jL,jL,jL,jL,jL,jL,Za⟩ ⟨.inl R,.inl R,.inl R,.inl R,.inl R,Za⟩ nL) wk)<|J3 _ (AG [((i8 1)+2),((i8 1)+3)]) (Zb U).symm
   refine aR<|mM R ?_
   refine sQ R (ZD R Fy (q:=[(0,_),(1,_)]) (by exact⟨R,R,R,iL,R,R,R,iL,Za⟩) (cs:=[.r<|.str [99,117,116],rS a])<|by rfl) ?_
   exact sS R (ZK 39 R AZ (f:=AD.row) (l:=([(AD.mk [99,117,116] a)]:List AD)) ⟨R,⟨_,iL,R⟩,Za⟩ R (λ_=>R) R)<|sQ R (fB R DZ iL fR R)<|Zk R R (Zi (ds:=[rI 0,rI 1,.own 39<|(i8 1)+2,cZ]) R Fj iL R iL R R R R)<|Zh<|E _ _ wk<|J3 _ (AG [((i8 1)+2),((i8 1)+3)]) (Zb U).symm
  exact Zn<|ab _ _ wk<|J2 _ (AG [(i8 0),(i8 1)])<|xH af h6
 refine ZL (λ(x2:Int) (w:List Bool) J=>⟨[(0,qb f1),(2,rS a),(7,.own 18<|J 0),(19,.r<|.sl<|p.map<|Ad .i64),(20,rL p),(21,rI x2)],[(18,some<|.arr (J 0) 4 1<|w.map EH)],(J 1),69⟩) (AG [n0,(n0+1)]) Y wk ?_
 intro x2 w J v2 az b0
 have a1:LP p x2 w=some v2:=az;unfold LP at a1
 refine aU<|xS R<|aZ<|aT λb1=>cI R a1 (λV=>?_) λV=>?_
 ·exact Zd<|b1 _<|aT λb2=>Zf<|aU<|Zc V λb3 a2 b4=>xI Bl R a2<|xV (.int .i64 b3) AI R<|mA R<|aZ<|aR<|mM R<|mM R<|Zc b4 λb8 M b5=>sQ R (EJ R Mi.slice iL R iL λ_=>M)<|Zk R R (Kq (v:=true) R kE iL R M iL R R R R)<|aZ<|b2 _<|aR<|Zc b5 λb9 a6 b6=>xA R a6<|mM R<|Zh<|ZH b6 (AG [(J 0),(J 1)]) wk
 exact Zn<|a8 _ _ wk<|J1 _ (AG [(J 0),(J 1)])<|xH b0 V
theorem u7{p a r}(h:QJ p a=some r):AM prog 105 [.r<|.sl<|p.map<|Ad .i64,rI a] (rI r):=by
 unfold QJ at h
 refine mF func105 ntmps105 R λF=>aU<|mA R<|aZ<|aT λw=>aU<|mM R<|xQ R<|aZ<|cI R h (λj=>?_) λj=>?_
 ·exact zI j R id
 exact Zd<|w _<|aU<|mM R<|mM R<|Zc j λI l A=>sQ R (Bu R iL iL λ_=>l)<|Zc A λB q C=>xI Bl R q<|xV (.int .i64 B) AI R<|Zc C λJ u E=>xA R u<|mA R<|aZ<|Zj<|yI E R
theorem vO{f1 r}(h:Qw f1=some r):BL prog 66 1 [qb f1] [] (λJ h'=>∃(i:Nat→Nat),J=.own 1000 (i 0)∧h'=[(1000,some<|.arr (i 0) 51 3<|r.map AC.row)]):=by
 unfold Qw at h
 refine DU func66 R R ntmps66 (Zw R) λn0=>aU<|mA R<|aZ<|aU<|mM R<|xL Ab R<|Zc h λa0 C h1=>sS R (Sy 8 R Ab (f:=AC.row) (z0:=(AC.mk 0 0 [])) XV iL iL C)<|mA R<|aZ<|aS λK3 c3 M=>aU<|mM R<|xL Ab R<|mM R<|aZ<|Zf<|Ar h1 λo1 E O=>?_
 have J1:∀(q:List AC) (A:NN),o1=q→K3 ⟨[(3,.own 8<|A 0)],[(8,some<|.arr (A 0) 51 3<|q.map AC.row)],(A 1),29⟩:=by
  intro q A e
  have h2:=O _ e
  refine c3 _<|aU<|mM R<|mA R<|aZ ?_
  exact Zj<|ZM (s':=⟨[(2,.own 1000<|A 1)],[(1000,some<|.arr (A 1) 51 3<|q.map AC.row)],((A 1)+1),29⟩) (Zm (Zm (Ag.ren 2 8 1000 R R R)<|by exact ZC (e':=[(2,.own 1000<|A 1)]) (h':=[(1000,some<|.arr (A 1) 51 3<|q.map AC.row)]) ⟨jL,Za⟩ ⟨.inl R,Za⟩ nL) wk)<|ZE (λ(r:(List AC)) J h'=>∃(i:Nat→Nat),J=.own 1000 (i 0)∧h'=[(1000,some<|.arr (i 0) 51 3<|r.map AC.row)]) h2<|by exact⟨.own 1000<|A 1,[(1000,some<|.arr (A 1) 51 3<|q.map AC.row)],R,⟨.inr R,Za⟩,R,R,AG [(A 1)],R,R⟩
 refine ZL (λ(B:Int) (u:List AC) j=>⟨[(3,.own 8<|j 0),(9,qb f1),(10,rL f1),(11,rI B)],[(8,some<|.arr (j 0) 51 3<|u.map AC.row)],(j 1),29⟩) (AG [n0,(n0+1)]) E wk ?_
 intro B u j v1 T U
 have h3:Jc f1 B u=some v1:=T;unfold Jc at h3
 refine aU<|xS R<|aZ<|aT λc7=>cI R h3 (λV=>?_) λV=>?_
 ·refine Zd<|c7 _<|aT λc8=>Zf<|aU<|mM R<|Zc V λl X h5=>xI Ab R X<|xB ((Aa l)) CK R<|sS R (Zq (cs:=EC) 5 R ED R R)<|mA R<|Zk R R (Zi (ds:=(Aa l)) R Cp iL R iL R R R R)<|aZ<|Zc h5 λF Y h6=>?_
  refine Ip 10 [pO 16<|.own 8<|j 0,pO 17<|rI B,pO 18<|.ptr 5 (j 1) 0 0,pO 19<|rI l.Char,pO 20<|.ptr 5 (j 1) 0 1,pO 21<|rI l.Ref,pO 22<|.ptr 5 (j 1) 0 2,pO 23<|qa l.Attrs,⟨some 24,(λw=>.own 24<|w 8),some (24,(λw=>some<|.arr (w 8) 58 2<|F.map AD.row)),[8]⟩,⟨some 25,(λw=>.agg [rI l.Char,rI l.Ref,.own 24<|w 8]),none,[8]⟩] A8 (by kernel_rfl) (by exact⟨λ_ _ h=>⟨R,λ_ _ e=>by cases e⟩,λ_ _ h=>⟨R,λ_ _ e=>by cases e⟩,λ_ _ h=>⟨R,λ_ _ e=>by cases e⟩,λ_ _ h=>⟨R,λ_ _ e=>by cases e⟩,λ_ _ h=>⟨R,λ_ _ e=>by cases e⟩,λ_ _ h=>⟨R,λ_ _ e=>by cases e⟩,λ_ _ h=>⟨R,λ_ _ e=>by cases e⟩,λ_ _ h=>⟨R,λ_ _ e=>by cases e⟩,λ_ _ h=>⟨by simp only[h 8 R],λ_ _ e=>by cases e;simp only[h 8 R]⟩,λ_ _ h=>⟨by simp only[h 8 R],λ_ _ e=>by cases e⟩,Za⟩) R (by exact⟨oB [(3,.own 8<|j 0)] [(8,some<|.arr (j 0) 51 3<|u.map AC.row)]<|Ze R<|.inl R,oB [(4,rI B)] []<|Ze R<|.inl R,oB [(5,.ptr 5 (j 1) 0 0)] [(5,some<|.box (j 1) 51<|Aa l)]<|fB R De (.inl R) (λ_=>R) R,oB [(18,.ptr 5 (j 1) 0 0)] [(5,some<|.box (j 1) 51<|Aa l)]<|Zg (a:=rI l.Char) R AI (.inl R) R R,oB [(5,.ptr 5 (j 1) 0 0)] [(5,some<|.box (j 1) 51<|Aa l)]<|fB R D2 (.inl R) (λ_=>R) R,oB [(20,.ptr 5 (j 1) 0 1)] [(5,some<|.box (j 1) 51<|Aa l)]<|Zg (a:=rI l.Ref) R AI (.inl R) R R,oB [(5,.ptr 5 (j 1) 0 0)] [(5,some<|.box (j 1) 51<|Aa l)]<|fB R B9 (.inl R) (λ_=>R) R,oB [(22,.ptr 5 (j 1) 0 2)] [(5,some<|.box (j 1) 51<|Aa l)]<|Zg (a:=qa l.Attrs) R A1 (.inl R) R R,oM (λ_=>[(23,qa l.Attrs)]) (λ_=>[]) R λw e h' n=>PM 24 (f:=AD.row) R AZ (.inl R) (.inl ⟨(.inl R),λ_=>R⟩) Y,oC (λw=>[(19,rI l.Char),(21,rI l.Ref),(24,.own 24<|w 8)]) (λw=>[(24,some<|.arr (w 8) 58 2<|F.map AD.row)]) λw e h'=>ZD R H3 (q:=[(0,_),(1,_),(2,_)]) (by exact⟨R,R,R,(.inl R),R,R,R,(.inl R),R,R,R,(.inl R),Za⟩) (cs:=[rI l.Char,rI l.Ref,.own 24<|w 8])<|by rfl,Za⟩) λw n1=>?_
  refine Ay [3,4,5,9,10,11,12,13,14,15,16,17,18,19,20,21,22,23,24,25] [5,8,24] ?_
  refine Zc h6 λx5 I h7=>sQ R (EJ R Ab.slice iL R iL λ_=>I) ?_
  refine AL.weak (by exact Ag.frz (e':=[(3,.own 8<|j 0),(4,rI B),(5,.ptr 5 (j 1) 0 0),(9,qb f1),(10,rL f1),(11,rI B),(12,rB<|(decide<|B<(f1.length:Int))),(13,rI B),(14,.rop (AC.row l) 0),(15,.agg<|Aa l),(16,.own 8<|j 0),(17,rI B),(18,.ptr 5 (j 1) 0 0),(19,rI l.Char),(20,.ptr 5 (j 1) 0 1),(21,rI l.Ref),(22,.ptr 5 (j 1) 0 2),(23,qa l.Attrs),(24,qa F),(25,.agg [rI l.Char,rI l.Ref,qa F]),(26,.ptr 8 (j 0) B.toNat 0)]) (h':=[(5,some<|.box (j 1) 51<|Aa l),(8,some<|.arr (j 0) 51 3<|u.map AC.row)]) 24 R ⟨jL,jL,jL,jL,jL,jL,jL,jL,jL,jL,jL,jL,jL,jL,jL,jL,jL,jL,.inl<|.inr<|.inr ⟨R,R⟩,.inr ⟨_,_,R,R,⟨.inl R,.inl R,.inr<|.inr ⟨R,R⟩,Za⟩⟩,jL,Za⟩ ⟨R,.inl R,R,.inl R,Za⟩) ?_
  refine Zk R R (WS (v:=(AC.mk l.Char l.Ref F)) R Cp iL R I iL R R R R)<|aZ<|c8 _<|aG [3,9,10,11] [8] ?_
  exact aR<|Zc h7 λx6 Z h8=>xA R Z<|mM R<|Zh<|ZH h8 (AG [(j 0),n1]) wk
 exact Zn<|M _ _ wk<|J1 _ (AG [(j 0),(j 1)])<|xH U V
theorem sp{f1 a b c r}(h:Pw f1 a b c=some r):AM prog 106 [qb f1,rI a,qb b,rS c] (qd r):=by
 unfold Pw at h
 refine mF func106 ntmps106 R λn0=>aU<|mA R<|aZ<|aT λc2=>aR<|mM R<|Zc h λE I h1=>?_
 refine Zo [14] (hc:=[]) (bs:=[qb b]) (caps:=[]) R R R R iL R ⟨.inl ⟨iL,R⟩,Za⟩ Za (by decide) (vO I) ?_
 intro i1 n1
 refine Ay [0,1,2,3,8,13,14] [14] ?_
 refine mA R<|aZ<|c2 _<|aS λK3 c3 J=>aU<|mM R<|sQ R (Kx R Ab.slice iL R)<|mM R<|aZ<|Zf<|Ar h1 λo1 A M=>?_
 have J1:∀(l:List AC) (B:NN),o1=l→K3 ⟨[(0,qb f1),(1,rI a),(9,.own 14<|B 0)],[(14,some<|.arr (B 0) 51 3<|l.map AC.row)],(B 1),50⟩:=by
  intro l B e
  have h2:=M _ e
  refine c3 _<|aT λc5=>aR<|mM R ?_
  refine sQ R (ZD R Kn (q:=[(0,_),(1,_)]) (by exact⟨R,R,R,iL,R,R,R,iL,Za⟩) (cs:=[rI 0,rI a,cZ,cZ])<|by rfl) ?_
  refine mM R ?_
  refine sQ R (ZD R Kn (q:=[(0,_),(3,_)]) (by exact⟨R,R,R,iL,R,R,R,iL,Za⟩) (cs:=[rI 1,rI 0,cZ,.own 14<|B 0])<|by rfl) ?_
  refine mM R<|xL Ab R<|mM R<|Zc h2 λw O h3=>sQ R (Bu R iL iL λ_=>O) ?_
  refine sQ R (ZD R Kn (q:=[(0,_),(1,_)]) (by exact⟨R,R,R,iL,R,R,R,iL,Za⟩) (cs:=[rI 0,rI w,cZ,cZ])<|by rfl) ?_
  refine AL.weak (by exact Ag.frz (e':=[(0,qb f1),(1,rI a),(9,qb l),(36,rI a),(37,.agg [rI 0,rI a,cZ,cZ]),(38,qb l),(39,.agg [rI 1,rI 0,cZ,qb l]),(40,qb f1),(41,rL f1),(42,rI a),(43,rI w),(44,.agg [rI 0,rI w,cZ,cZ])]) (h':=[]) 14 R ⟨jL,jL,.inl<|.inr<|.inr ⟨R,R⟩,jL,jL,.inl<|.inr<|.inr ⟨R,R⟩,.inr ⟨_,_,R,R,⟨.inl R,.inl R,.inl R,.inr<|.inr ⟨R,R⟩,Za⟩⟩,jL,jL,jL,jL,jL,Za⟩ Za) ?_
  refine sS R (ZK 45 R Bh (f:=AH.row) (l:=([(AH.mk 0 a [] []),(AH.mk 1 0 [] l),(AH.mk 0 w [] [])]:List AH)) ⟨R,⟨_,iL,R⟩,R,⟨_,iL,R⟩,R,⟨_,iL,R⟩,Za⟩ R (λ_=>R) R) ?_
  refine AL.weak (by exact Ag.frz (e':=[(0,qb f1),(1,rI a),(9,qb l),(36,rI a),(37,.agg [rI 0,rI a,cZ,cZ]),(38,qb l),(39,.agg [rI 1,rI 0,cZ,qb l]),(40,qb f1),(41,rL f1),(42,rI a),(43,rI w),(44,.agg [rI 0,rI w,cZ,cZ]),(45,.r<|.sl<|[(AH.mk 0 a [] []),(AH.mk 1 0 [] l),(AH.mk 0 w [] [])].map AH.row)]) (h':=[]) 45 R ⟨jL,jL,jL,jL,jL,jL,jL,jL,jL,jL,jL,jL,.inl<|.inr<|.inr ⟨R,R⟩,Za⟩ Za) ?_
  refine Ch h3 λr1 r2 T h4=>sS R (ZJ (r:=.tup [qd r1,rI r2]) (caps:=[]) (bs:=[.r<|.sl<|[(AH.mk 0 a [] []),(AH.mk 1 0 [] l),(AH.mk 0 w [] [])].map AH.row]) R iL R ⟨.inl ⟨iL,R⟩,Za⟩ λ_=>e8<|T)<|mM R<|xX R<|xX R<|mA R<|mA R<|aZ<|c5 _<|aT λc6=>aF [11] ?_
  exact aR<|mM R<|mA R<|aZ<|c6 _<|Zj<|CX (P:=prog) (λ(r:(List AH))=>qd r) h4 iL<|.t<|.d R
 refine ZL (λ(q:Int) (F:List AC) j=>⟨[(0,qb f1),(1,rI a),(3,rS c),(9,.own 14<|j 0),(16,rL E),(17,rI q)],[(14,some<|.arr (j 0) 51 3<|F.map AC.row)],(j 1),50⟩) (AG [(i1 0),n1]) A wk ?_
 intro q F j v1 U V
 have h5:KZ c E q F=some v1:=U;unfold KZ at h5
 refine aU<|xS R<|aZ<|aT λc8=>cI R h5 (λX=>?_) λX=>?_
 ·refine Zd<|c8 _<|aT λc9=>Zf<|aU<|mM R<|mA R<|aZ<|aR<|mM R<|mM R<|mM R<|mM R<|Zc X λC u h7=>sQ R (EJ R Ab.slice iL R iL λ_=>u)<|sQ R (FG (ob:=.arr _ _ _ _) R B9 iL fR R)<|sQ R (I3 (d:=.sl<|C.Attrs.map AD.row) R A1 iL fR (λ_=>u) R)<|mM R ?_
  refine sQ R (ZD R Fy (q:=[(0,_),(1,_)]) (by exact⟨R,R,R,iL,R,R,R,iL,Za⟩) (cs:=[.r<|.str [97,100,100],rS c])<|by rfl) ?_
  refine sQ R (ZD R Fy (q:=[(0,_)]) (by exact⟨R,R,R,iL,Za⟩) (cs:=Tl)<|by rfl) ?_
  refine sS R (ZK 30 R AZ (f:=AD.row) (l:=([(AD.mk [97,100,100] c),(AD.mk [99,117,116] [])]:List AD)) ⟨R,⟨_,iL,R⟩,R,⟨_,iL,R⟩,Za⟩ R (λ_=>R) R) ?_
  refine AL.weak (by exact Ag.frz (e':=[(0,qb f1),(1,rI a),(3,rS c),(9,.own 14<|j 0),(10,rI q),(16,rL E),(17,rI q),(18,rB<|(decide<|q<(E.length:Int))),(19,rI q),(20,.own 14<|j 0),(21,rI q),(22,.own 14<|j 0),(23,rI q),(24,.ptr 14 (j 0) q.toNat 0),(25,.ptr 14 (j 0) q.toNat 2),(26,qa C.Attrs),(27,rS c),(28,.agg [.r<|.str [97,100,100],rS c]),(29,.agg Tl),(30,.r<|.sl<|[(AD.mk [97,100,100] c),(AD.mk [99,117,116] [])].map AD.row)]) (h':=[(14,some<|.arr (j 0) 51 3<|F.map AC.row)]) 30 R ⟨jL,jL,jL,jL,jL,jL,jL,jL,jL,jL,jL,jL,jL,jL,jL,jL,jL,jL,jL,.inl<|.inr<|.inr ⟨R,R⟩,Za⟩ ⟨R,.inl R,Za⟩) ?_
  refine Zc h7 λr3 Y h8=>sS R (ZJ (r:=qa r3) (caps:=[]) (bs:=[qa C.Attrs,.r<|.sl<|[(AD.mk [97,100,100] c),(AD.mk [99,117,116] [])].map AD.row]) R iL R ⟨.inl ⟨iL,R⟩,.inl ⟨iL,R⟩,Za⟩ λ_=>XG<|Y)<|sQ R (EJ R Ab.slice iL R iL λ_=>u)<|sQ R (FG (ob:=.arr _ _ _ _) R B9 iL fR R)<|Zk R R (Kq (v:=(AC.mk C.Char C.Ref r3)) R Fj iL R u iL R R R R)<|aZ<|c9 _<|aG [0,1,3,9,16,17] [14] ?_
  exact aR<|Zc h8 λx6 Z h9=>xA R Z<|mM R<|Zh<|ZH h9 (AG [(j 0),((j 1)+1)]) wk
 exact Zn<|J _ _ wk<|J1 _ (AG [(j 0),(j 1)])<|xH V X
theorem RZ{d1 r}(h:I1 d1=some r):AM prog 148 [qd d1] (.tup [rI r.1,rI r.2]):=by
 unfold I1 at h
 refine mF func148 ntmps148 R λn0=>aU<|mA R<|mA R<|aZ<|aU<|mA R<|mA R<|aZ<|aS λK3 c3 a0=>aU<|mM R<|xL Bh R<|mM R<|aZ<|Zf<|Lb h λo1 O a1=>?_
 have J1:∀(l:Int) (A:Int) (i5:NN),o1=(l,A)→K3 ⟨[(4,rI l),(5,rI A)],[],(i5 0),31⟩:=by
  intro l A i5 e
  have h1:=a1 _ _ e
  exact c3 _<|aU<|mM R<|mM R<|mA R<|mA R<|aZ<|Zj<|CB (P:=prog) (λ(r:Int × Int)=>rI r.1) (λ(r:Int × Int)=>rI r.2) h1 iL (.t<|.d R)<|.t<|.d R
 refine H0 (λ(q:Int) (j:Int) (T:Int) I=>⟨[(4,rI q),(5,rI j),(8,qd d1),(9,rL d1),(10,rI T)],[],(I 0),31⟩) (AG [n0]) O wk ?_
 intro q j T I v1 a2 a6
 have h2:Jj d1 q j T=some v1:=a2;unfold Jj at h2
 refine aU<|xS R<|aZ<|aT λc7=>cI R h2 (λh3=>?_) λh3=>?_
 ·refine Zd<|c7 _<|aS λK8 c8 U=>Zf<|Lb h3 λp1 a7 a8=>?_
  have J2:∀(u:Int) (B:Int) (i6:NN),p1=(u,B)→K8 ⟨[(4,rI u),(5,rI B),(8,qd d1),(9,rL d1),(10,rI T)],[],(i6 0),31⟩:=by
   intro u B i6 e
   have h4:=a8 _ _ e
   exact c8 _<|aR<|Zc h4 λx4 aa h5=>xA R aa<|mM R<|Zh<|DO.mk h5 (AG [(i6 0)]) wk
  refine aU<|Zc a7 λx5 ab h6=>xI Bh R ab<|xB ((BZ x5)) EI R<|sS R (Zq (cs:=Do) 7 R E0 R R)<|Zk R R (Zi (ds:=(BZ x5)) R E3 iL R iL R R R R)<|aZ<|aS λac ad F=>aU<|lF Bt AI R R<|xU R<|aZ<|Ar h6 λp2 V ae=>?_
  have J3:∀(w:Int) (Y:NN),p2=w→ac ⟨[(4,rI w),(5,rI j),(7,.ptr 7 (I 0) 0 0),(8,qd d1),(9,rL d1),(10,rI T)],[(7,some<|.box (I 0) 100<|BZ x5)],(Y 0),31⟩:=by
   intro w Y e
   have h7:=ae _ e
   refine ad _<|aU<|lF Bt AI R R<|xU R<|aZ<|cI R h7 (λh8=>?_) λh8=>?_
   ·exact aR<|mM R<|xC EI R<|Zc h8 λr1 af h9=>cL (Tk<|af) R<|Zc h9 λZ E ag=>xA R E<|mA R<|Zh<|U _ _ wk<|J2 _ _ (AG [(Y 0)]) (Zb ag).symm
   exact Zd<|U _ _ wk<|J2 _ _ (AG [(Y 0)]) (Zb h8).symm
  refine aC R (λJ=>?_) λJ=>?_
  ·have M:=Ba J V
   exact aR<|mM R<|lF D3 AI R R<|Zc M λX C ah=>xA R C<|mA R<|Zh<|F _ _ wk<|J3 _ (AG [((I 0)+1)]) (Zb ah).symm
  ·have M:=Be J V
   exact Zd<|F _ _ wk<|J3 _ (AG [((I 0)+1)]) (Zb M).symm
 exact Zn<|a0 _ _ wk<|J1 _ _ (AG [(I 0)])<|xH a6 h3
theorem JT{l:BM}{r:Int}{j:Nat}(h:GB l=some r):BL prog 149 1 [.ptr 1000 j 0 0] [(1000,some<|.box j 196 [qd l.steps,rI l.used])] (λq h'=>∃(i:Nat→Nat),q=rI r∧h'=[(1000,some<|.box j 196 [qd l.steps,rI l.used])]):=by
 unfold GB at h
 refine DU func149 R R ntmps149 (Zw R) λB=>aU<|mA R<|aZ<|aT λC=>aU<|mM R<|sQ R (Zp (ob:=.box _ _ _) R iL fR R)<|lF Le Dl R R<|xL Bh R<|xQ R<|aZ<|cI R h (λu=>?_) λu=>?_
 ·refine aU<|mA R<|aZ ?_
  exact Zj<|ZM (s':=⟨[(2,rI<|(-1))],[(1000,some<|.box j 196 [qd l.steps,rI l.used])],B,16⟩) wk<|ZE (λ(r:Int) q h'=>∃(i:Nat→Nat),q=rI r∧h'=[(1000,some<|.box j 196 [qd l.steps,rI l.used])]) u<|by exact⟨rI<|(-1),[(1000,some<|.box j 196 [qd l.steps,rI l.used])],R,⟨.inr R,Za⟩,R,R,AG [],R,R⟩
 refine Zd<|C _<|aU<|mM R<|sQ R (Zp (ob:=.box _ _ _) R iL fR R)<|lF Le Dl R R<|Zc u λw A E=>xI Bh R A<|sQ R (Zl R Bt iL)<|xV (.int .i64 w.Kind) AI R<|mA R<|aZ ?_
 exact Zj<|ZM (s':=⟨[(2,rI w.Kind)],[(1000,some<|.box j 196 [qd l.steps,rI l.used])],B,16⟩) wk<|ZE (λ(r:Int) q h'=>∃(i:Nat→Nat),q=rI r∧h'=[(1000,some<|.box j 196 [qd l.steps,rI l.used])]) E<|by exact⟨rI w.Kind,[(1000,some<|.box j 196 [qd l.steps,rI l.used])],R,⟨.inr R,Za⟩,R,R,AG [],R,R⟩
theorem JB{l:BM}{r:Int}{j:Nat}(h:GJ l=some r):BL prog 151 1 [.ptr 1000 j 0 0] [(1000,some<|.box j 196 [qd l.steps,rI l.used])] (λu h'=>∃(i:Nat→Nat),u=rI r∧h'=[(1000,some<|.box j 196 [qd l.steps,rI l.used])]):=by
 unfold GJ at h
 refine DU func151 R R ntmps151 (Zw R) λE=>aU<|mA R<|aZ<|aT λF=>?_
 refine ZA A8 (by kernel_rfl) ?_
 refine qP R (Ze R iL)<|qP R (Zp (ob:=.box _ _ _) R iL fR R)<|qP R (fB R Le iL fR R)<|qP R (Zg (a:=qd l.steps) R Dl iL R R)<|Zc h λq w I=>qP R (Zr R Bh.slice iL iL (λ_=>R) λ_=>w)<|qP R (ZN (cs:=(BZ q)) R EI iL R R)<|Zc I λJ A M=>EQ R R R (r:=rI J) (caps:=[]) (bs:=(Ox q)) R iL R ⟨⟨_,iL,.g (cs:=[.int .i64 q.Kind,.int .i64 q.N,.sl<|q.Attrs.map AD.row,.sl<|q.Elems.map AC.row]) R R⟩,Za⟩ (λ_=>Tk<|A) R<|qP R (Ze R iL)<|qP R (Zp (ob:=.box _ _ _) R iL fR R)<|qP R (fB R Li iL fR R)<|qP R (Zg (a:=rI l.used) R AI iL R R)<|Zc M λC B O=>qP R (Bu R iL iL λ_=>B)<|qP R (DQ R iL)<|AQ.nil<|F _ ?_
 exact Zj<|ZM (s':=⟨[(2,rI C)],[(1000,some<|.box j 196 [qd l.steps,rI l.used])],E,15⟩) wk<|ZE (λ(r:Int) u h'=>∃(i:Nat→Nat),u=rI r∧h'=[(1000,some<|.box j 196 [qd l.steps,rI l.used])]) O<|by exact⟨rI C,[(1000,some<|.box j 196 [qd l.steps,rI l.used])],R,⟨.inr R,Za⟩,R,R,AG [],R,R⟩
theorem I0{u:BM}{n1:Int}{r:AH × BM}{j:Nat}(h:FY u n1=some r):BL prog 150 1 [.ptr 1000 j 0 0,rI n1] [(1000,some<|.box j 196 [qd u.steps,rI u.used])] (λT h'=>∃(i:Nat→Nat),T=.agg (BZ r.1)∧h'=[(1000,some<|.box j 196 [qd r.2.steps,rI r.2.used])]):=by
 unfold FY at h
 refine DU func150 R R ntmps150 (Zw R) λq=>aU<|sS R (Zq (cs:=Do) 4 R E0 R R)<|aZ<|aU<|mM R<|sQ R (Zp (ob:=.box _ _ _) R iL fR R)<|lF Le Dl R R<|Zc h λl E h1=>xI Bh R E<|xB ((BZ l)) EI R<|sS R (Zq (cs:=Do) 5 R E0 R R)<|Zk R R (Zi (ds:=(BZ l)) R E3 iL R iL R R R R)<|aZ<|aS λK3 c3 F=>aU<|lF Bt AI R R<|xQ R<|aZ<|Ar h1 λp1 I U=>?_
 have J1:∀(A:AH) (O:NN),p1=A→K3 ⟨[(0,.ptr 1000 j 0 0),(1,rI n1),(4,.ptr 4 q 0 0),(5,.ptr 5 (q+1) 0 0)],[(4,some<|.box q 100 Do),(5,some<|.box (q+1) 100<|BZ A),(1000,some<|.box j 196 [qd u.steps,rI u.used])],(O 0),63⟩:=by
  intro A O e
  have h2:=U _ e
  refine c3 _<|aS λK5 c5 J=>aU<|mM R<|sQ R (Zp (ob:=.box _ _ _) R iL fR R)<|lF Li AI R R<|mM R<|Zc h2 λV X h3=>xA R X<|sQ R (Zp (ob:=.box _ _ _) R iL fR R)<|sQ R (fB R Li iL fR R)<|Zk R R (Zi (ds:=[qd u.steps,rI V]) R Gl iL R iL R R R R)<|aZ<|aT λc7=>aG [0,4,5] [4,5,1000] ?_
  refine ZA A8 (by kernel_rfl) ?_
  refine qP R (Ze R iL)<|qP R (Zp (ob:=.box _ _ _) R iL fR R)<|qP R (fB R Li iL fR R)<|qP R (Zg (a:=rI V) R AI iL R R)<|qP R (Ze R iL)<|qP R (Zp (ob:=.box _ _ _) R iL fR R)<|qP R (fB R Le iL fR R)<|qP R (Zg (a:=qd u.steps) R Dl iL R R)<|qP R (Zr R Bh.slice iL iL (λ_=>R) λ_=>E)<|qP R (ZN (cs:=(BZ l)) R EI iL R R)<|Zc h3 λr1 Y h4=>EQ R R R (r:=rI r1) (caps:=[]) (bs:=(Ox l)) R iL R ⟨⟨_,iL,.g (cs:=[.int .i64 l.Kind,.int .i64 l.N,.sl<|l.Attrs.map AD.row,.sl<|l.Elems.map AC.row]) R R⟩,Za⟩ (λ_=>Tk<|Y) R<|qP R (Zs R iL iL)<|AQ.nil<|c7 _<|Ar h4 λp2 M Z=>?_
  have J2:∀(w:BM) (i2:NN),p2=w→K5 ⟨[(4,.ptr 4 q 0 0),(5,.ptr 5 (q+1) 0 0)],[(4,some<|.box q 100 Do),(5,some<|.box (q+1) 100<|BZ A),(1000,some<|.box j 196 [qd w.steps,rI w.used])],(i2 0),63⟩:=by
   intro w i2 e
   have h5:=Z _ e
   refine c5 _<|aU<|xC EI R<|Zk R R (Zi (ds:=(BZ A)) R E3 iL R iL R R R R)<|aZ ?_
   exact Zj<|ZM (s':=⟨[(4,.ptr 4 q 0 0)],[(4,some<|.box q 100<|BZ A),(1000,some<|.box j 196 [qd w.steps,rI w.used])],(i2 0),63⟩) wk<|ZE (λ(r:AH × BM) T h'=>∃(i:Nat→Nat),T=.agg (BZ r.1)∧h'=[(1000,some<|.box j 196 [qd r.2.steps,rI r.2.used])]) h5<|by exact⟨.agg<|BZ A,[(1000,some<|.box j 196 [qd w.steps,rI w.used])],.inr ⟨_,R,EI,_,_,_,R,R⟩,⟨.inr R,Za⟩,R,R,AG [],R,R⟩
  refine aC R (λB=>?_) λB=>?_
  ·have h6:=Ba B M
   refine aG [0,4,5] [4,5,1000] ?_
   refine aR<|mM R<|mM R<|mM R<|sQ R (Zp (ob:=.box _ _ _) R iL fR R)<|lF Le Dl R R<|Zc h6 λl1 a0 h7=>?_
   refine sQ R (R7 R Bh.slice iL (by exact⟨_,iL⟩) (by exact R) (λ_=>R) λ_=>a0) ?_
   exact sQ R (Zp (ob:=.box _ _ _) R iL fR R)<|sQ R (fB R Le iL fR R)<|Zk R R (Zi (ds:=[qd l1,rI V]) R Rj iL R iL R R R R)<|sQ R (Zp (ob:=.box _ _ _) R iL fR R)<|sQ R (fB R Li iL fR R)<|Zk R R (Zi (ds:=[qd l1,rI 0]) R Gl iL R iL R R R R)<|Zh<|J _ _ wk<|J2 _ (AG [(O 0)]) (Zb h7).symm
  ·have h6:=Be B M
   exact Zd<|J _ _ wk<|J2 _ (AG [(O 0)]) (Zb h6).symm
 refine aC R (λC=>?_) λC=>?_
 ·have h8:=Ba C I
  refine aG [0,1,4,5] [4,5,1000] ?_
  refine Lm 14 A8 (by kernel_rfl) R R ?_
  refine Zt R R R (fB R Dz iL fR R)<|Zt R R R (Zg (a:=qb l.Elems) R Br iL R R)<|Zt R R R (Ze R iL)<|Zt R R R (Zp (ob:=.box _ _ _) R iL fR R)<|Zt R R R (fB R Li iL fR R)<|Zt R R R (Zg (a:=rI u.used) R AI iL R R)<|Zt R R R (Ze R iL)<|Zt R R R (Zp (ob:=.box _ _ _) R iL fR R)<|Zt R R R (fB R Li iL fR R)<|Zt R R R (Zg (a:=rI u.used) R AI iL R R)<|Zt R R R (Ze R iL)<|Zc h8 λx3 a1 h9=>Zt R R R (Ga R iL iL λ_=>a1)<|Zc h9 λl2 a2 a6=>?_
  refine Zt R R R (R7 R Ab.slice iL (by exact⟨_,iL⟩) (by exact⟨_,iL⟩) (λ_=>R) λ_=>a2) ?_
  exact Zt R R R (fB R Dz iL fR R)<|AT.nil<|Zk R R (Zi (ds:=[rI l.Kind,rI l.N,qa l.Attrs,qb l2]) R T4 iL R iL R R R R)<|Zh<|F _ _ wk<|J1 _ (AG [(q+2)]) (Zb a6).symm
 ·have h8:=Be C I
  refine aG [0,1,4,5] [4,5,1000] ?_
  exact aR<|mM R<|sQ R (fB R D3 iL fR R)<|Zk R R (Zi (ds:=[rI l.Kind,rI n1,qa l.Attrs,qb l.Elems]) R Gl iL R iL R R R R)<|Zh<|F _ _ wk<|J1 _ (AG [(q+2)]) (Zb h8).symm
theorem Wi{w:List AD}{A:AD}{B:AD}{r:(List AD)}{j:Nat}{l:Nat}(h:Kk w A B=some r):BL prog 188 2 [.agg<|A4 A,.agg<|A4 B,.ptr 1000 j 0 0] [(1000,some<|.box j 39 [.own 1001 l]),(1001,some<|.arr l 58 2<|w.map AD.row)] (λu h'=>∃(i:Nat→Nat),u=.tup []∧h'=[(1000,some<|.box j 39 [.own 1001<|i 0]),(1001,some<|.arr (i 0) 58 2<|r.map AD.row)]):=by
 unfold Kk at h
 refine DU func188 R R ntmps188 (Zw R) λq=>aU<|sS R (Zv (cs:=(A4 A)) 3 R iL R R)<|sS R (Zv (cs:=(A4 B)) 4 R iL R R)<|aZ<|aU<|lF B0 A2 R R<|sQ R (ZI R iL iL)<|aZ<|cI R h (λC=>?_) λC=>?_
 ·refine aR<|sQ R (Zg (a:=.own 1001 l) R A1 iL R R)<|xC By R<|sS R (ZK 10 R AZ (f:=AD.row) (l:=([A]:List AD)) ⟨R,⟨_,iL,R⟩,Za⟩ R (λ_=>R) R)<|Zc C λF E I=>sS R (B6 R AZ iL R (.inr<|.inl ⟨_,_,iL,R⟩) E)<|Zk R R (Zi (ds:=[.own 1001<|q+3]) R Fj iL R iL R R R R)<|Zh ?_
  exact ZM (s':=⟨[],[(1000,some<|.box j 39 [.own 1001<|q+3]),(1001,some<|.arr (q+3) 58 2<|F.map AD.row)],(q+4),12⟩) wk<|ZE (λ(r:(List AD)) u h'=>∃(i:Nat→Nat),u=.tup []∧h'=[(1000,some<|.box j 39 [.own 1001<|i 0]),(1001,some<|.arr (i 0) 58 2<|r.map AD.row)]) I<|by exact⟨.tup [],[(1000,some<|.box j 39 [.own 1001<|q+3]),(1001,some<|.arr (q+3) 58 2<|F.map AD.row)],⟨_,R,Za⟩,⟨.inr R,.inr R,Za⟩,R,R,AG [(q+3)],R,R⟩
 refine Zd ?_
 exact ZM (s':=⟨[],[(1000,some<|.box j 39 [.own 1001 l]),(1001,some<|.arr l 58 2<|w.map AD.row)],(q+2),12⟩) wk<|ZE (λ(r:(List AD)) u h'=>∃(i:Nat→Nat),u=.tup []∧h'=[(1000,some<|.box j 39 [.own 1001<|i 0]),(1001,some<|.arr (i 0) 58 2<|r.map AD.row)]) C<|by exact⟨.tup [],[(1000,some<|.box j 39 [.own 1001 l]),(1001,some<|.arr l 58 2<|w.map AD.row)],⟨_,R,Za⟩,⟨.inr R,.inr R,Za⟩,R,R,AG [l],R,R⟩
theorem nm{c1:List AD}{B:List AD}{C:List AD}{r:(List AD)}{j:Nat}{l:Nat}(h:Qc c1 B C=some r):BL prog 144 2 [qa B,qa C,.fn 188 [.ptr 1000 j 0 0]] [(1000,some<|.box j 39 [.own 1001 l]),(1001,some<|.arr l 58 2<|c1.map AD.row)] (λE h'=>∃(i:Nat→Nat),E=.tup []∧h'=[(1000,some<|.box j 39 [.own 1001<|i 0]),(1001,some<|.arr (i 0) 58 2<|r.map AD.row)]):=by
 unfold Qc at h
 refine DU func144 R R ntmps144 (Zw R) λn0=>aU<|mA R<|mA R<|aZ<|Zf<|A5 h λo4 w av F=>H0 (λ(I:Int) (J:Int) (o2:List AD) q=>⟨[(0,qa B),(1,qa C),(2,.fn 188 [.ptr 1000 j 0 0]),(6,rI I),(7,rI J)],[(1000,some<|.box j 39 [.own 1001<|q 0]),(1001,some<|.arr (q 0) 58 2<|o2.map AD.row)],(q 1),92⟩) (AG [l,n0]) w wk ?_
 intro I J o2 q v1 M O
 have h1:O8 B C I J o2=some v1:=M;unfold O8 at h1
 refine aT λC2=>aU<|mM R<|mM R<|xL AZ R<|xS R<|mM R<|vM R<|vM R<|vQ R (Bd R AZ.slice<|iR R)<|vQ R (Bp R (iR R)<|iR R)<|xO R<|aZ<|cI R h1 (λT=>?_) λT=>?_
 ·refine Zd<|C2 _<|Zf<|Zf<|aT λC4=>?_
  refine ZA A8 (by kernel_rfl) ?_
  refine qP R (Ze R iL)<|qP R (Ze R iL)<|qP R (Bd R AZ.slice iL)<|qP R (Zs R iL iL)<|qP R (Ze R iL)<|qO R (Ze R iL)<|qO R (Ze R iL)<|qO R (Bd R AZ.slice<|iR R)<|qO R (Bp R (iR R)<|iR R)<|qO R (Ze R<|iR R)<|qT R (Ze R iL)<|qT R (Ze R iL)<|Zc T λx1 U h3=>qT R (Zr R AZ.slice (iR R) (iR R) (λ_=>R)<|AN U)<|qT R (Zl R B0<|iR R)<|qT R (ZB (d:=.str x1.Name) R A2 (iR R) R)<|qT R (Ze R iL)<|qT R (Ze R iL)<|Zc h3 λx2 V h4=>qT R (Zr R AZ.slice (iR R) (iR R) (λ_=>R)<|AN V)<|qT R (Zl R B0<|iR R)<|qT R (ZB (d:=.str x2.Name) R A2 (iR R) R)<|qT R (Jw R (iR R)<|iR R)<|qO R (ZG R (iR R)<|iR R)<|qP R (B1 R iL<|iR R)<|qP R (DQ R iL)<|AQ.nil<|C4 _<|cI R h4 (λX=>?_) λX=>?_
  ·refine aT λC5=>aG [0,1,2,6,7] [1000,1001] ?_
   refine aR<|mM R<|mM R<|mM R<|Zc X λx3 Y h6=>xI AZ R Y<|xB ((A4 x3)) By R ?_
   refine sQ R (ZD R Fy (q:=[]) (by exact Za) (cs:=[.r<|.str [],.r<|.str []])<|by rfl) ?_
   refine Zc h6 λw1 Z h7=>?_
   refine Zo [1000,1001] (hc:=[(1000,some<|.box j 39 [.own 1001<|q 0]),(1001,some<|.arr (q 0) 58 2<|o2.map AD.row)]) (bs:=(VS x3)) (caps:=[.ptr 1000 j 0 0]) R R R R iL R ⟨.inl ⟨iL,R⟩,.inl ⟨iL,R⟩,Za⟩ ⟨R,R,R,R,R,R,Za⟩ (by decide) (Wi Z) ?_
   intro i8 n1
   refine Ay [0,1,2,6,7,56,57,58,59,60,61,62] [1000,1001] ?_
   exact aZ<|C5 _<|aR<|mM R<|Zc h7 λi9 a0 h8=>xA R a0<|mA R<|Zh<|DO.mk h8 (AG [(i8 0),n1]) wk
  refine aT λC6=>aG [0,1,2,6,7] [1000,1001] ?_
  refine ZA A8 (by kernel_rfl) ?_
  refine qP R (Ze R iL)<|qP R (Ze R iL)<|qP R (Bd R AZ.slice iL)<|qP R (Zs R iL iL)<|qP R (Ze R iL)<|qO R (Ze R iL)<|qO R (Ze R iL)<|Zc X λx4 a2 h9=>qO R (Zr R AZ.slice (iR R) (iR R) (λ_=>R)<|AN a2)<|qO R (Zl R B0<|iR R)<|qO R (ZB (d:=.str x4.Name) R A2 (iR R) R)<|qO R (Ze R iL)<|qO R (Ze R iL)<|Zc h9 λx5 a6 a7=>qO R (Zr R AZ.slice (iR R) (iR R) (λ_=>R)<|AN a6)<|qO R (Zl R B0<|iR R)<|qO R (ZB (d:=.str x5.Name) R A2 (iR R) R)<|qO R (Jw R (iR R)<|iR R)<|qP R (B1 R iL<|iR R)<|qP R (DQ R iL)<|AQ.nil<|C6 _<|cI R a7 (λu=>?_) λu=>?_
  ·refine aT λC7=>aR<|mM R ?_
   refine sQ R (ZD R Fy (q:=[]) (by exact Za) (cs:=[.r<|.str [],.r<|.str []])<|by rfl) ?_
   refine mM R<|mM R<|Zc u λx6 a8 aa=>xI AZ R a8<|xB ((A4 x6)) By R<|Zc aa λw2 ab ac=>?_
   refine Zo [1000,1001] (hc:=[(1000,some<|.box j 39 [.own 1001<|q 0]),(1001,some<|.arr (q 0) 58 2<|o2.map AD.row)]) (bs:=(Wr x6)) (caps:=[.ptr 1000 j 0 0]) R R R R iL R ⟨.inl ⟨iL,R⟩,.inl ⟨iL,R⟩,Za⟩ ⟨R,R,R,R,R,R,Za⟩ (by decide) (Wi ab) ?_
   intro ad n2
   refine Ay [0,1,2,6,7,65,66,67,68,69,70,82,83,84,85,86,87,88,89] [1000,1001] ?_
   refine aZ<|C7 _<|aG [0,1,2,6,7] [1000,1001] ?_
   exact aR<|mM R<|Zc ac λj4 ae af=>xA R ae<|mA R<|Zh<|DO.mk af (AG [(ad 0),n2]) wk
  refine aT λC8=>?_
  refine Lm 9 A8 (by kernel_rfl) R R ?_
  refine Zt R R R (Ze R iL)<|Zt R R R (Ze R iL)<|Zt R R R (Ze R iL)<|Zc u λx7 ag ah=>Zt R R R (Zr R AZ.slice iL iL (λ_=>R) λ_=>ag)<|Zt R R R (ZN (cs:=(A4 x7)) R By iL R R)<|Zt R R R (Ze R iL)<|Zt R R R (Ze R iL)<|Zc ah λx8 ai aj=>Zt R R R (Zr R AZ.slice iL iL (λ_=>R) λ_=>ai)<|Zt R R R (ZN (cs:=(A4 x8)) R By iL R R)<|AT.nil<|Zc aj λw3 ak al=>?_
  refine Zo [1000,1001] (hc:=[(1000,some<|.box j 39 [.own 1001<|q 0]),(1001,some<|.arr (q 0) 58 2<|o2.map AD.row)]) (bs:=[.agg<|A4 x7,.agg<|A4 x8]) (caps:=[.ptr 1000 j 0 0]) R R R R iL R ⟨.inl ⟨iL,R⟩,.inl ⟨iL,R⟩,Za⟩ ⟨R,R,R,R,R,R,Za⟩ (by decide) (Wi ak) ?_
  intro an n3
  refine Ay [0,1,2,6,7,18,19,20,21,22,23,24,25,26,27,65,66,67,68,69,70,82] [1000,1001] ?_
  refine aZ<|C8 _<|aG [0,1,2,6,7] [1000,1001] ?_
  exact aR<|mM R<|Zc al λaw A ao=>xA R A<|mM R<|Zc ao λj5 aq ar=>xA R aq<|mA R<|mA R<|Zh<|DO.mk ar (AG [(an 0),n3]) wk
 refine Zn ?_
 exact ZM (s':=⟨[],[(1000,some<|.box j 39 [.own 1001<|q 0]),(1001,some<|.arr (q 0) 58 2<|o2.map AD.row)],(q 1),92⟩) wk<|ZE (λ(r:(List AD)) E h'=>∃(i:Nat→Nat),E=.tup []∧h'=[(1000,some<|.box j 39 [.own 1001<|i 0]),(1001,some<|.arr (i 0) 58 2<|r.map AD.row)]) (F _<|xH O T)<|by exact⟨.tup [],[(1000,some<|.box j 39 [.own 1001<|q 0]),(1001,some<|.arr (q 0) 58 2<|o2.map AD.row)],⟨_,R,Za⟩,⟨.inr R,.inr R,Za⟩,R,R,AG [(q 0)],R,R⟩
theorem lZ{l q r}(h:Ot l q=some r):AM prog 154 [qa l,qa q] (qa r):=by
 unfold Ot at h
 refine mF func154 ntmps154 R λj=>aU<|mA R<|aZ<|aU<|sS R (Zq (cs:=[cZ]) 5 R Xu R R)<|aZ<|aT λw=>aR<|mM R<|mM R ?_
 refine sQ R (N9 (bs:=[.ptr 5 j 0 0]) R<|by exact⟨iL,Za⟩) ?_
 refine AL.weak (Zm (Ek 5 0 3050 58 2 (by decide) R R<|by decide)<|by exact ZC (e':=[(0,qa l),(1,qa q),(4,cZ),(5,.ptr 5 j 0 0),(6,qa l),(7,qa q),(8,.fn 188 [.ptr 5 j 0 0])]) (h':=[(5,some<|.box j 39 [.own 3050<|j+1]),(3050,some<|.arr (j+1) 58 2<|([]:List AD).map AD.row)]) ⟨jL,jL,jL,jL,jL,jL,jL,Za⟩ ⟨.inl R,.inl R,Za⟩ nL) ?_
 refine Zc h λC u A=>?_
 refine Zo [5,3050] (hc:=[(1000,some<|.box j 39 [.own 1001<|j+1]),(1001,some<|.arr (j+1) 58 2<|([]:List AD).map AD.row)]) (bs:=[qa l,qa q,.fn 188 [.ptr 1000 j 0 0]]) (caps:=[]) R R R R iL R ⟨.inl ⟨iL,R⟩,.inl ⟨iL,R⟩,.inl ⟨iL,R⟩,Za⟩ ⟨R,R,R,R,R,R,Za⟩ (by decide) (nm u) ?_
 intro B E
 refine Ay [0,1,4,5,6,7,8,9] [5,3050] ?_
 exact aZ<|w _<|aU<|sQ R (Zg (a:=.own 3050<|B 0) R A1 iL R R)<|mA R<|aZ<|Zj<|CX (P:=prog) (λ(r:(List AD))=>qa r) A iL<|.t<|.one<|.own R
end Go.Proofs.YtdafahjmopdleaaGreatDoor.Al
