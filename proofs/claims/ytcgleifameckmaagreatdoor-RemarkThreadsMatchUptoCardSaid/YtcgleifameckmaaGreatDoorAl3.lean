/- The program logic, a part of it. -/
import Derived.Test.YtcgleifameckmaaGreatDoorAl2
import Derived.Lib.Bytealg
import Derived.Lib.LaidU8
import Derived.Shelf.SlGeneric
import Derived.Shelf.SlSortCmp.NoneTotal
import Derived.Shelf.Strconv.AtoiAll
import Derived.Shelf.Strconv.Itoa3
import Derived.Shelf.Unicode.ValidAny
import Derived.Test.YtcgleifameckmaaGreatDoorProg
set_option linter.all false
namespace Go.Proofs.YtcgleifameckmaaGreatDoor.Al
open Go.Shelf Go.Proofs
def jy:Go.Shelf.Ren:=⟨fun | 196=>199 | 259=>232 | n=>n,fun | 9=>9 | 4=>4 | 3=>3 | 5=>5 | 12=>12 | 119=>267 | 0=>0 | 46=>181 | 139=>270 | 138=>269 | 53=>208 | n=>n,fun | 3=>3 | 4=>4 | n=>n⟩
theorem qp:Go.Proofs.Lays.n196 Tryz.prog jy:={
 mixed:=by kernel_rfl
 f196:=Tryz.func199.trans (xc some (by kernel_rfl))
 f259:=Tryz.func232.trans (xc some (by kernel_rfl))
 t0:=Tryz.underlying0
 a0:=Tryz.isAgg0
 z0:=Tryz.sizeOf0
 v0:=Tryz.zeroValue0
 t3:=Tryz.underlying3
 a3:=Tryz.isAgg3
 z3:=Tryz.sizeOf3
 v3:=Tryz.zeroValue3
 t4:=Tryz.underlying4
 a4:=Tryz.isAgg4
 z4:=Tryz.sizeOf4
 v4:=Tryz.zeroValue4
 t5:=Tryz.underlying5
 a5:=Tryz.isAgg5
 z5:=Tryz.sizeOf5
 v5:=Tryz.zeroValue5
 t9:=Tryz.underlying9
 a9:=Tryz.isAgg9
 z9:=Tryz.sizeOf9
 v9:=Tryz.zeroValue9
 t12:=Tryz.underlying12
 a12:=Tryz.isAgg12
 z12:=Tryz.sizeOf12
 v12:=Tryz.zeroValue12
 t46:=Tryz.underlying181
 a46:=Tryz.isAgg181
 z46:=Tryz.sizeOf181
 v46:=Tryz.zeroValue181
 t53:=Tryz.underlying208
 a53:=Tryz.isAgg208
 z53:=Tryz.sizeOf208
 v53:=Tryz.zeroValue208
 t119:=Tryz.underlying267
 a119:=Tryz.isAgg267
 z119:=Tryz.sizeOf267
 t138:=Tryz.underlying269
 a138:=Tryz.isAgg269
 z138:=Tryz.sizeOf269
 v138:=Tryz.zeroValue269
 t139:=Tryz.underlying270
 a139:=Tryz.isAgg270
 z139:=Tryz.sizeOf270
 v139:=Tryz.zeroValue270
 g3:=by kernel_rfl
 g4:=by kernel_rfl }
def nq:Go.Shelf.Ren:=⟨fun | 171=>27 | 243=>54 | 246=>105 | 283=>151 | 284=>152 | 285=>153 | 286=>154 | 129=>195 | 317=>194 | 318=>196 | 319=>197 | 320=>198 | 337=>230 | 338=>231 | n=>n,fun | 3=>3 | 9=>9 | 2=>2 | 4=>4 | 171=>215 | 0=>0 | 53=>208 | 37=>92 | 5=>5 | 173=>218 | 212=>262 | 51=>263 | 20=>20 | 213=>264 | 46=>181 | 232=>322 | 233=>323 | n=>n,fun | 17=>2 | 18=>5 | 19=>6 | n=>n⟩
theorem YR:Go.Proofs.LaysM.n171 Tryz.prog nq:={
 mixed:=by kernel_rfl
 f129:=Tryz.func195.trans (xc some (by kernel_rfl))
 f171:=Tryz.func27.trans (xc some (by kernel_rfl))
 f243:=Tryz.func54.trans (xc some (by kernel_rfl))
 f246:=Tryz.func105.trans (xc some (by kernel_rfl))
 f283:=Tryz.func151.trans (xc some (by kernel_rfl))
 f284:=Tryz.func152.trans (xc some (by kernel_rfl))
 f285:=Tryz.func153.trans (xc some (by kernel_rfl))
 f286:=Tryz.func154.trans (xc some (by kernel_rfl))
 f317:=Tryz.func194.trans (xc some (by kernel_rfl))
 f318:=Tryz.func196.trans (xc some (by kernel_rfl))
 f319:=Tryz.func197.trans (xc some (by kernel_rfl))
 f320:=Tryz.func198.trans (xc some (by kernel_rfl))
 f337:=Tryz.func230.trans (xc some (by kernel_rfl))
 f338:=Tryz.func231.trans (xc some (by kernel_rfl))
 t0:=Tryz.underlying0
 a0:=Tryz.isAgg0
 z0:=Tryz.sizeOf0
 v0:=Tryz.zeroValue0
 t2:=Tryz.underlying2
 a2:=Tryz.isAgg2
 z2:=Tryz.sizeOf2
 v2:=Tryz.zeroValue2
 t3:=Tryz.underlying3
 a3:=Tryz.isAgg3
 z3:=Tryz.sizeOf3
 v3:=Tryz.zeroValue3
 t4:=Tryz.underlying4
 a4:=Tryz.isAgg4
 z4:=Tryz.sizeOf4
 v4:=Tryz.zeroValue4
 t5:=Tryz.underlying5
 a5:=Tryz.isAgg5
 z5:=Tryz.sizeOf5
 v5:=Tryz.zeroValue5
 t9:=Tryz.underlying9
 a9:=Tryz.isAgg9
 z9:=Tryz.sizeOf9
 v9:=Tryz.zeroValue9
 t20:=Tryz.underlying20
 a20:=Tryz.isAgg20
 z20:=Tryz.sizeOf20
 v20:=Tryz.zeroValue20
 t37:=Tryz.underlying92
 a37:=Tryz.isAgg92
 z37:=Tryz.sizeOf92
 v37:=Tryz.zeroValue92
 t46:=Tryz.underlying181
 a46:=Tryz.isAgg181
 z46:=Tryz.sizeOf181
 v46:=Tryz.zeroValue181
 t51:=Tryz.underlying263
 a51:=Tryz.isAgg263
 z51:=Tryz.sizeOf263
 v51:=Tryz.zeroValue263
 t53:=Tryz.underlying208
 a53:=Tryz.isAgg208
 z53:=Tryz.sizeOf208
 v53:=Tryz.zeroValue208
 t171:=Tryz.underlying215
 a171:=Tryz.isAgg215
 z171:=Tryz.sizeOf215
 v171:=Tryz.zeroValue215
 t173:=Tryz.underlying218
 a173:=Tryz.isAgg218
 z173:=Tryz.sizeOf218
 v173:=Tryz.zeroValue218
 t212:=Tryz.underlying262
 a212:=Tryz.isAgg262
 z212:=Tryz.sizeOf262
 v212:=Tryz.zeroValue262
 t213:=Tryz.underlying264
 a213:=Tryz.isAgg264
 z213:=Tryz.sizeOf264
 t232:=Tryz.underlying322
 a232:=Tryz.isAgg322
 z232:=Tryz.sizeOf322
 v232:=Tryz.zeroValue322
 t233:=Tryz.underlying323
 a233:=Tryz.isAgg323
 z233:=Tryz.sizeOf323
 v233:=Tryz.zeroValue323
 g17:=by kernel_rfl
 g18:=by kernel_rfl
 g19:=by kernel_rfl
 i0:=by kernel_rfl
 i2:=by kernel_rfl
 i3:=by kernel_rfl
 i4:=by kernel_rfl
 i5:=by kernel_rfl
 i9:=by kernel_rfl
 i20:=by kernel_rfl
 i37:=by kernel_rfl
 i46:=by kernel_rfl
 i51:=by kernel_rfl
 i53:=by kernel_rfl
 i171:=by kernel_rfl
 i173:=by kernel_rfl
 i212:=by kernel_rfl
 i232:=by kernel_rfl
 i233:=by kernel_rfl
 m17:=by kernel_rfl
 m18:=by kernel_rfl
 m19:=by kernel_rfl }
def oR:Go.Shelf.Ren:=⟨fun | 172=>26 | 244=>52 | 245=>53 | 247=>100 | 279=>101 | 280=>102 | 281=>103 | 282=>104 | 287=>148 | 316=>149 | 171=>27 | 205=>150 | 321=>192 | 322=>193 | 243=>54 | 246=>105 | 283=>151 | 284=>152 | 285=>153 | 286=>154 | 129=>195 | 317=>194 | 318=>196 | 319=>197 | 320=>198 | 337=>230 | 338=>231 | n=>n,fun | 9=>9 | 3=>3 | 75=>82 | 76=>83 | 4=>4 | 5=>5 | 167=>163 | 37=>92 | 0=>0 | 85=>164 | 2=>2 | 168=>166 | 53=>208 | 175=>209 | 46=>181 | 210=>213 | 127=>257 | 145=>260 | 143=>258 | 21=>21 | 171=>215 | 173=>218 | 212=>262 | 51=>263 | 20=>20 | 213=>264 | 232=>322 | 233=>323 | 80=>360 | n=>n,fun | 15=>0 | 16=>1 | 17=>2 | 18=>5 | 19=>6 | n=>n⟩
theorem lx:Go.Proofs.LaysC.n172 Tryz.prog oR:={
 mixed:=by kernel_rfl
 f129:=Tryz.func195.trans (xc some (by kernel_rfl))
 f171:=Tryz.func27.trans (xc some (by kernel_rfl))
 f172:=Tryz.func26.trans (xc some (by kernel_rfl))
 f205:=Tryz.func150.trans (xc some (by kernel_rfl))
 f243:=Tryz.func54.trans (xc some (by kernel_rfl))
 f244:=Tryz.func52.trans (xc some (by kernel_rfl))
 f245:=Tryz.func53.trans (xc some (by kernel_rfl))
 f246:=Tryz.func105.trans (xc some (by kernel_rfl))
 f247:=Tryz.func100.trans (xc some (by kernel_rfl))
 f279:=Tryz.func101.trans (xc some (by kernel_rfl))
 f280:=Tryz.func102.trans (xc some (by kernel_rfl))
 f281:=Tryz.func103.trans (xc some (by kernel_rfl))
 f282:=Tryz.func104.trans (xc some (by kernel_rfl))
 f283:=Tryz.func151.trans (xc some (by kernel_rfl))
 f284:=Tryz.func152.trans (xc some (by kernel_rfl))
 f285:=Tryz.func153.trans (xc some (by kernel_rfl))
 f286:=Tryz.func154.trans (xc some (by kernel_rfl))
 f287:=Tryz.func148.trans (xc some (by kernel_rfl))
 f316:=Tryz.func149.trans (xc some (by kernel_rfl))
 f317:=Tryz.func194.trans (xc some (by kernel_rfl))
 f318:=Tryz.func196.trans (xc some (by kernel_rfl))
 f319:=Tryz.func197.trans (xc some (by kernel_rfl))
 f320:=Tryz.func198.trans (xc some (by kernel_rfl))
 f321:=Tryz.func192.trans (xc some (by kernel_rfl))
 f322:=Tryz.func193.trans (xc some (by kernel_rfl))
 f337:=Tryz.func230.trans (xc some (by kernel_rfl))
 f338:=Tryz.func231.trans (xc some (by kernel_rfl))
 t0:=Tryz.underlying0
 a0:=Tryz.isAgg0
 z0:=Tryz.sizeOf0
 v0:=Tryz.zeroValue0
 t2:=Tryz.underlying2
 a2:=Tryz.isAgg2
 z2:=Tryz.sizeOf2
 v2:=Tryz.zeroValue2
 t3:=Tryz.underlying3
 a3:=Tryz.isAgg3
 z3:=Tryz.sizeOf3
 v3:=Tryz.zeroValue3
 t4:=Tryz.underlying4
 a4:=Tryz.isAgg4
 z4:=Tryz.sizeOf4
 v4:=Tryz.zeroValue4
 t5:=Tryz.underlying5
 a5:=Tryz.isAgg5
 z5:=Tryz.sizeOf5
 v5:=Tryz.zeroValue5
 t9:=Tryz.underlying9
 a9:=Tryz.isAgg9
 z9:=Tryz.sizeOf9
 v9:=Tryz.zeroValue9
 t20:=Tryz.underlying20
 a20:=Tryz.isAgg20
 z20:=Tryz.sizeOf20
 v20:=Tryz.zeroValue20
 t21:=Tryz.underlying21
 a21:=Tryz.isAgg21
 z21:=Tryz.sizeOf21
 v21:=Tryz.zeroValue21
 t37:=Tryz.underlying92
 a37:=Tryz.isAgg92
 z37:=Tryz.sizeOf92
 v37:=Tryz.zeroValue92
 t46:=Tryz.underlying181
 a46:=Tryz.isAgg181
 z46:=Tryz.sizeOf181
 v46:=Tryz.zeroValue181
 t51:=Tryz.underlying263
 a51:=Tryz.isAgg263
 z51:=Tryz.sizeOf263
 v51:=Tryz.zeroValue263
 t53:=Tryz.underlying208
 a53:=Tryz.isAgg208
 z53:=Tryz.sizeOf208
 v53:=Tryz.zeroValue208
 t75:=Tryz.underlying82
 a75:=Tryz.isAgg82
 z75:=Tryz.sizeOf82
 v75:=Tryz.zeroValue82
 t76:=Tryz.underlying83
 a76:=Tryz.isAgg83
 z76:=Tryz.sizeOf83
 v76:=Tryz.zeroValue83
 t85:=Tryz.underlying164
 a85:=Tryz.isAgg164
 z85:=Tryz.sizeOf164
 v85:=Tryz.zeroValue164
 t127:=Tryz.underlying257
 a127:=Tryz.isAgg257
 z127:=Tryz.sizeOf257
 v127:=Tryz.zeroValue257
 t143:=Tryz.underlying258
 a143:=Tryz.isAgg258
 z143:=Tryz.sizeOf258
 v143:=Tryz.zeroValue258
 t145:=Tryz.underlying260
 a145:=Tryz.isAgg260
 z145:=Tryz.sizeOf260
 v145:=Tryz.zeroValue260
 t167:=Tryz.underlying163
 a167:=Tryz.isAgg163
 z167:=Tryz.sizeOf163
 v167:=Tryz.zeroValue163
 t168:=Tryz.underlying166
 a168:=Tryz.isAgg166
 z168:=Tryz.sizeOf166
 v168:=Tryz.zeroValue166
 t171:=Tryz.underlying215
 a171:=Tryz.isAgg215
 z171:=Tryz.sizeOf215
 v171:=Tryz.zeroValue215
 t173:=Tryz.underlying218
 a173:=Tryz.isAgg218
 z173:=Tryz.sizeOf218
 v173:=Tryz.zeroValue218
 t175:=Tryz.underlying209
 a175:=Tryz.isAgg209
 z175:=Tryz.sizeOf209
 v175:=Tryz.zeroValue209
 t210:=Tryz.underlying213
 a210:=Tryz.isAgg213
 z210:=Tryz.sizeOf213
 v210:=Tryz.zeroValue213
 t212:=Tryz.underlying262
 a212:=Tryz.isAgg262
 z212:=Tryz.sizeOf262
 v212:=Tryz.zeroValue262
 t213:=Tryz.underlying264
 a213:=Tryz.isAgg264
 z213:=Tryz.sizeOf264
 t232:=Tryz.underlying322
 a232:=Tryz.isAgg322
 z232:=Tryz.sizeOf322
 v232:=Tryz.zeroValue322
 t233:=Tryz.underlying323
 a233:=Tryz.isAgg323
 z233:=Tryz.sizeOf323
 v233:=Tryz.zeroValue323
 g15:=by kernel_rfl
 g16:=by kernel_rfl
 g17:=by kernel_rfl
 g18:=by kernel_rfl
 g19:=by kernel_rfl
 t80:=Tryz.underlying360
 a80:=Tryz.isAgg360
 z80:=Tryz.sizeOf360
 v80:=Tryz.zeroValue360
 i0:=by kernel_rfl
 i2:=by kernel_rfl
 i3:=by kernel_rfl
 i4:=by kernel_rfl
 i5:=by kernel_rfl
 i9:=by kernel_rfl
 i20:=by kernel_rfl
 i21:=by kernel_rfl
 i37:=by kernel_rfl
 i46:=by kernel_rfl
 i51:=by kernel_rfl
 i53:=by kernel_rfl
 i75:=by kernel_rfl
 i76:=by kernel_rfl
 i80:=by kernel_rfl
 i85:=by kernel_rfl
 i127:=by kernel_rfl
 i143:=by kernel_rfl
 i145:=by kernel_rfl
 i167:=by kernel_rfl
 i168:=by kernel_rfl
 i171:=by kernel_rfl
 i173:=by kernel_rfl
 i175:=by kernel_rfl
 i210:=by kernel_rfl
 i212:=by kernel_rfl
 i232:=by kernel_rfl
 i233:=by kernel_rfl
 m15:=by kernel_rfl
 m16:=by kernel_rfl
 m17:=by kernel_rfl
 m18:=by kernel_rfl
 m19:=by kernel_rfl
 c0:=by kernel_rfl
 c2:=by kernel_rfl
 c3:=by kernel_rfl
 c4:=by kernel_rfl
 c5:=by kernel_rfl
 c9:=by kernel_rfl
 c20:=by kernel_rfl
 c21:=by kernel_rfl
 c37:=by kernel_rfl
 c46:=by kernel_rfl
 c51:=by kernel_rfl
 c53:=by kernel_rfl
 c75:=by kernel_rfl
 c76:=by kernel_rfl
 c80:=by kernel_rfl
 c85:=by kernel_rfl
 c127:=by kernel_rfl
 c143:=by kernel_rfl
 c145:=by kernel_rfl
 c167:=by kernel_rfl
 c168:=by kernel_rfl
 c171:=by kernel_rfl
 c173:=by kernel_rfl
 c175:=by kernel_rfl
 c210:=by kernel_rfl
 c212:=by kernel_rfl
 c213:=by kernel_rfl
 c232:=by kernel_rfl
 c233:=by kernel_rfl }
def rn:Go.Shelf.Ren:=⟨fun | 6=>181 | 15=>227 | 14=>226 | 28=>255 | 29=>195 | 20=>247 | 21=>248 | 22=>249 | 23=>250 | 24=>251 | 25=>252 | 26=>253 | 27=>254 | 46=>276 | 47=>277 | 48=>278 | 49=>279 | 50=>280 | 57=>292 | n=>n,fun | 22=>129 | 24=>133 | 25=>253 | 3=>3 | 39=>181 | 0=>0 | 53=>263 | 55=>208 | 4=>4 | 46=>317 | 45=>316 | 50=>85 | 5=>5 | 9=>9 | 66=>339 | 70=>343 | 76=>361 | 77=>276 | n=>n,fun | n=>n⟩
theorem qF:Go.Proofs.SlLaysF0.n6 Tryz.prog rn:={
 mixed:=by kernel_rfl
 f6:=⟨Tryz.f181.name,by decide,Tryz.func181.trans (xc some (by kernel_rfl))⟩
 f14:=⟨Tryz.f226.name,by decide,Tryz.func226.trans (xc some (by kernel_rfl))⟩
 f15:=Tryz.func227.trans (xc some (by kernel_rfl))
 f20:=⟨Tryz.f247.name,by decide,Tryz.func247.trans (xc some (by kernel_rfl))⟩
 f21:=⟨Tryz.f248.name,by decide,Tryz.func248.trans (xc some (by kernel_rfl))⟩
 f22:=⟨Tryz.f249.name,by decide,Tryz.func249.trans (xc some (by kernel_rfl))⟩
 f23:=⟨Tryz.f250.name,by decide,Tryz.func250.trans (xc some (by kernel_rfl))⟩
 f24:=⟨Tryz.f251.name,by decide,Tryz.func251.trans (xc some (by kernel_rfl))⟩
 f25:=⟨Tryz.f252.name,by decide,Tryz.func252.trans (xc some (by kernel_rfl))⟩
 f26:=⟨Tryz.f253.name,by decide,Tryz.func253.trans (xc some (by kernel_rfl))⟩
 f27:=⟨Tryz.f254.name,by decide,Tryz.func254.trans (xc some (by kernel_rfl))⟩
 f28:=Tryz.func255.trans (xc some (by kernel_rfl))
 f29:=Tryz.func195.trans (xc some (by kernel_rfl))
 f46:=⟨Tryz.f276.name,by decide,Tryz.func276.trans (xc some (by kernel_rfl))⟩
 f47:=Tryz.func277.trans (xc some (by kernel_rfl))
 f48:=Tryz.func278.trans (xc some (by kernel_rfl))
 f49:=⟨Tryz.f279.name,by decide,Tryz.func279.trans (xc some (by kernel_rfl))⟩
 f50:=⟨Tryz.f280.name,by decide,Tryz.func280.trans (xc some (by kernel_rfl))⟩
 f57:=⟨Tryz.f292.name,by decide,Tryz.func292.trans (xc some (by kernel_rfl))⟩
 t0:=Tryz.underlying0
 a0:=Tryz.isAgg0
 z0:=Tryz.sizeOf0
 v0:=Tryz.zeroValue0
 t3:=Tryz.underlying3
 a3:=Tryz.isAgg3
 z3:=Tryz.sizeOf3
 v3:=Tryz.zeroValue3
 t4:=Tryz.underlying4
 a4:=Tryz.isAgg4
 z4:=Tryz.sizeOf4
 v4:=Tryz.zeroValue4
 t5:=Tryz.underlying5
 a5:=Tryz.isAgg5
 z5:=Tryz.sizeOf5
 v5:=Tryz.zeroValue5
 t9:=Tryz.underlying9
 a9:=Tryz.isAgg9
 z9:=Tryz.sizeOf9
 v9:=Tryz.zeroValue9
 t22:=Tryz.underlying129
 a22:=Tryz.isAgg129
 z22:=Tryz.sizeOf129
 v22:=Tryz.zeroValue129
 t25:=Tryz.underlying253
 a25:=Tryz.isAgg253
 z25:=Tryz.sizeOf253
 v25:=Tryz.zeroValue253
 t39:=Tryz.underlying181
 a39:=Tryz.isAgg181
 z39:=Tryz.sizeOf181
 v39:=Tryz.zeroValue181
 t45:=Tryz.underlying316
 a45:=Tryz.isAgg316
 z45:=Tryz.sizeOf316
 v45:=Tryz.zeroValue316
 t46:=Tryz.underlying317
 a46:=Tryz.isAgg317
 z46:=Tryz.sizeOf317
 v46:=Tryz.zeroValue317
 t50:=Tryz.underlying85
 a50:=Tryz.isAgg85
 z50:=Tryz.sizeOf85
 v50:=Tryz.zeroValue85
 t53:=Tryz.underlying263
 a53:=Tryz.isAgg263
 z53:=Tryz.sizeOf263
 v53:=Tryz.zeroValue263
 t55:=Tryz.underlying208
 a55:=Tryz.isAgg208
 z55:=Tryz.sizeOf208
 v55:=Tryz.zeroValue208
 t66:=Tryz.underlying339
 a66:=Tryz.isAgg339
 z66:=Tryz.sizeOf339
 v66:=Tryz.zeroValue339
 t70:=Tryz.underlying343
 a70:=Tryz.isAgg343
 z70:=Tryz.sizeOf343
 v70:=Tryz.zeroValue343
 t76:=Tryz.underlying361
 a76:=Tryz.isAgg361
 z76:=Tryz.sizeOf361
 v76:=Tryz.zeroValue361
 t77:=Tryz.underlying276
 a77:=Tryz.isAgg276
 z77:=Tryz.sizeOf276
 v77:=Tryz.zeroValue276 }
end Go.Proofs.YtcgleifameckmaaGreatDoor.Al

namespace Go.Proofs.YtcgleifameckmaaGreatDoor.Al
section
variable{P:Program}{ops:Array Oper}{rest:List Oper}{s:St}{K:St->Prop}{o:Oper}
def QZ(R:Aa)(L:List Nat)(id n:Nat):List Operand->List AV->Prop
 | [],[]=>True
 | x::xs,b::j=>(((Ev true R x (ren L b)/\b.canon L.length=true)\/(Ev true R x (.cst (.slice none 0 0))/\b=.r (.sl [])))\/(Ev true R x (.cst (.slice none 0 0))/\ren L b=.own id n/\b.canon L.length=true))/\QZ R L id n xs j
 | _,_=>False
theorem QZ.get{R}{L:List Nat}{id n}{xs:List Operand}{bs:List AV}(j:QZ R L id n xs bs) :
  xs.length=bs.length/\∀(i:Nat) (b:AV),bs[i]?=some b->∃x,xs[i]?=some x/\(((Ev true R x (ren L b)/\b.canon L.length=true)\/(Ev true R x (.cst (.slice none 0 0))/\b=.r (.sl [])))\/(Ev true R x (.cst (.slice none 0 0))/\ren L b=.own id n/\b.canon L.length=true)):=by
 induction xs generalizing bs with
 | nil=>cases bs with | nil=>exact⟨rfl,by simp⟩ | cons _ _=>exact j.elim
 | cons x l w=>
  cases bs with
  | nil=>exact j.elim
  | cons b m=>
   obtain⟨A,B⟩:=w j.2
   refine⟨by simp[A],λi c q=>?_⟩
   cases i with
   | zero=>simp at q;subst q;exact⟨x,rfl,j.1⟩
   | succ i=>simpa using B i c (by simpa using q)
theorem rD{f}{fo}{xs:Array Operand}{ac}{caps bs:List AV}{L:List Nat}{hc}{Post}{R}{h}{a:Act}{z:Cx}(id:Nat)(e:TypeId)(sz:Nat)(ad:Nat.blt 0 sz=true)
 (ho:o.op=.call { callee := .value fo, args := xs, argTypes := ac }) (ae:Ev true R fo (.fn f (EK L caps))) (af:FM L.length caps=true) (hx:QZ R L id z.n xs.toList bs) (F:Fe ((id, some (.arr z.n e sz []))::h) L hc) (I:L.Nodup)
 (w:BI P f L.length (bs++caps) hc Post) (ag:z.ok) (hH:z.H=hget h) (he:Bv z R a) (K:Act->World->Prop) (Q:Exit->Act->World->Prop)
 (hK:∀(u:Value) (y:Cx) (r:AV) (X:AL), z.le y->y.ok->y.H=hget (E4 L X 1000 L++((id, some (.arr z.n e sz []))::h))->AP y (ren L r) u->Post r X->K (a.put o.dst u) y.w):o.wp P a z.w K Q := by
  have A := ES ag id (.arr z.n e sz []) z.w none (z.n+1) (wy _) rfl rfl rfl (λ_ _ _ => rfl) (λb k hb => by cases hb) (by omega) (by simp[AU.gen]) (λhg => absurd hg (by simp[AU.gen]))
    (λZ => ⟨B8 ad, by simp, .slice none 0 0, [], ⟨rfl, rfl⟩, World.ownsRow_nil _ _ _ _, by simp⟩)
  generalize B:({ z with H := λi => if id=i then some (.arr z.n e sz []) else z.H i, β := λi => if id=i then none else z.β i, K := λi => if id=i then λ_ => none else z.K i, n := z.n+1 } : Cx)=m at A
  have j:m.H=hget ((id, some (.arr z.n e sz []))::h) := by rw[<- B];simp only[hH];exact Ck _ _ _
  have BR:m.H id=some (.arr z.n e sz []) := by rw[j, BG, ww rfl]
  have a0:m.β id=none := by rw[<- B];simp
  have a1:m.n=z.n+1 := by rw[<- B]
  have a2:m.w=z.w := by rw[<- B]
  have C := he.mono A.1
  obtain⟨J, w⟩ := w
  obtain⟨l, M⟩ := hx.get
  have hv := ae.rep C rfl
  generalize ah:a.eval fo=v at hv
  cases hv with
  | @fn _ _ us hl a6 =>
    have a7 := Na J ho ah z.w
    rw[GQ] at hl
    have O:∀ {b:AV} {u:Value}, AP m (ren L b) u->b.canon L.length=true->AP (m.view L hc) b u := λ{b u} T h2 => RL (x := m) (y := m.view L hc) (L := L) (k := L.length) rfl (λ_ h => h) (wy _) (Tc j F) T b rfl h2
    have U:Fy (m.view L hc) (bs++caps) (xs.map a.eval++us).toList := by
      refine⟨by simp[hl];simpa using l, λi b u T h2 => ?_⟩
      have q:((xs.toList.map a.eval)++us.toList)[i]?=some u := by simpa using h2
      by_cases hi:i<bs.length
      · rw[xT hi] at T
        obtain⟨x, k1, E⟩ := M i b T
        rw[xT (by simp at l ⊢;omega), xJ, k1] at q
        simp only[yF, xF] at q
        subst q
        rcases E with (⟨E, k3⟩ | ⟨E, rfl⟩) | ⟨E, k3, k4⟩
        · exact O (E.rep C rfl) k3
        · have := E.rep C rfl
          generalize a.eval x=v at this ⊢
          cases this;exact .r .snil
        · refine O ?_ k4
          rw[k3]
          have := E.rep C rfl
          generalize a.eval x=v at this ⊢
          cases this
          refine .own (by rw[a1];omega) rfl λo' a8 _ => ?_
          rw[BR] at a8;cases a8
          rw[a0];exact⟨rfl, rfl⟩
      · rw[xP (by omega)] at T
        rw[xP (by simp at l ⊢;omega)] at q
        have ai:(xs.toList.map a.eval).length=bs.length := by simpa using l
        rw[ai] at q
        exact O (a6 _ (ren L b) u (by rw[Gh, T];rfl) (by simpa using q)) (Gv af T)
    unfold Oper.wp
    rw[a7, <- a2]
    refine(w (m.view L hc) _ (Vf A.2 j F I) rfl U).mono λe' w' ⟨u, y, r, X, he', aj, Z, aa, ab, ak, al, an, V⟩ => ?_
    subst he'
    subst aj
    obtain⟨k1, E⟩ := Xp A.2 j F I Z aa ab an
    exact hK u (m.back y L X _) r X (A.1.trans k1) E rfl (Wj (x := y) (y := m.back y L X _) (L := L) (k := L.length) rfl (λ_ h => h) (wy _) (XB I ab) ak al) V
theorem iC{d:Nat}{f:FuncId}{fo:Operand}{xs:Array Operand}{C:Array TypeId}{caps bs:List AV}(id:Nat)(e:TypeId)(sz:Nat)(E:Nat.blt 0 sz=true)(L:List Nat){hc:AL}{F:(Nat->Nat)->AV}{G:(Nat->Nat)->AL}(hg:o.guard=none)(hd:o.dst=some d)(hN:Nat.blt d s.N=true)
  (ho:o.op=.call { callee:=.value fo,args:=xs,argTypes:=C }) (I:Ev true s.e fo (.fn f (EK L caps))) (J:FM L.length caps=true) (hx:QZ s.e L id s.n xs.toList bs) (l:Fe ((id,some (.arr s.n e sz []))::s.h) L hc) (M:L.Nodup)
  (m:BI P f L.length (bs++caps) hc (λr h'=>∃i,r=F i/\h'=G i))
  (hr:∀i n',AN P ops rest { e:=(d,ren L (F i))::s.e,h:=E4 L (G i) 1000 L++((id,some (.arr s.n e sz []))::s.h),n:=n',N:=s.N } K):AN P ops (o::rest) s K:=by
 intro c0 a w ⟨_,q,hsz,y,O,T,U,hH,hn,he⟩ Q hQ
 subst O
 rw[<- hn] at hx l hr
 refine wpList_plain hg λK' V=>?_
 refine rD id e sz E ho I J hx l M m U hH he K' Q λu z r h' A B X Z j=>?_
 refine V _ _ ?_
 have a0:d<a.tmps.size:=by rw[hsz];exact B8 hN
 obtain⟨i,rfl,rfl⟩:=j
 rw[hd]
 exact hr i z.n c0 (a.put (some d) u) z.w ⟨_,q,by simpa[Act.put] using hsz,z,rfl,T.trans A,B,X,rfl,(he.mono A).put a0 Z⟩ Q hQ
end
theorem tp{α:Type}{l j:List α}{z:Int}(h:Dl l 0 z=some j):j=l.take z.toNat:=by
 obtain⟨_,_,_,rfl⟩:=Tn h
 simp
section
variable{P:Program}{c:Bool}{o:Oper}{R:Aa}{h:AL}{n:Nat}
theorem l7{α:Type}{f}{t e e'}{sz C}{x y}{id g}{l l':List α}{q:Int}(ho:o.op=.slice t x none (some y) none)(ht:DU P t e sz)(hx:Ev c R x (.own id g))
 (hh:hget h id=some (.arr g e' C (l.map f))) (X:∃k, Ev c R y (.r (.int k q))) (hs:c=true->Dl l 0 q=some l'):AS P c o R h (.pre id g q.toNat) := by
  intro Z z w E hH he
  obtain⟨F, ii, I, a0⟩ := ht
  obtain⟨J, h2, h3, rfl⟩ := Tn (hs Z)
  have j:z.H id=some (.arr g e' C (l.map f)) := by rw[hH];exact hh
  obtain⟨h0, a2, us, hd, A, a7⟩ := MT E j (hx.rep he Z)
  have M := (E.obj _ _ j).1
  obtain⟨k, hk⟩ := X
  have hy := Ci (hk.rep he Z)
  have B:∀(len cap:Nat), q<=cap->∀W, (Instr.sliceBounds true len cap none (some (w.eval y)) none).run P W=.ok (0, q.toNat, cap) W := by
    intro len cap O W
    have hH:(Instr.sliceBound (w.eval y) cap .sliceAcap).run P W=.ok q.toNat W := by rw[hy, M6 h2 O]
    simp[Instr.sliceBounds, hH]
  rw[xk] at hd
  generalize T:w.eval x=xv at hd A
  unfold Bh at hd
  split at hd
  · rename_i heq
    obtain⟨hz, rfl⟩ := hd
    have U:q.toNat=0 := by omega
    refine⟨.slice none 0 0, λw2 a1 => ?_, .pre M rfl λo' m _ => ?_⟩
    · unfold execOp
      rw[ho]
      have V := B 0 0 (by omega) w2
      rw[U] at V
      simp[T, Instr.sliceAt, Instr.slice, run_underlying F, DY I, V]
    · rw[j] at m;cases m
      rw[heq, U]
      exact⟨yL _, rfl, rfl⟩
  · rename_i b cap heq
    subst hd
    have a8:l.length<=cap := by
      rcases A.2 with ⟨J, _⟩ | ⟨g', a6, aa, J, _, _, h2, h3, _⟩
      · cases J
      · simp only[Value.slice.injEq] at J;rw[J.2.2];simpa using h2
    refine⟨.slice (some ⟨b, 0, none⟩) q.toNat cap, λw2 a1 => ?_, .pre M rfl λo' m _ => ?_⟩
    · unfold execOp
      rw[ho]
      simp[T, Instr.sliceAt, Instr.slice, run_underlying F, DY I, a0, B _ cap (by omega), Addr.add_lit]
    · rw[j] at m;cases m
      rw[heq]
      exact⟨by simp[AU.shape];omega, rfl⟩
end
theorem Xc{x y:Cx}(C:x.ok)(M:Nat->Prop)(hw:y.w=x.w)(hS:y.S=x.S)(hF:y.F=x.F)(hn:x.n<=y.n)
  (B:∀i,¬ M i->y.H i=x.H i/\y.β i=x.β i/\y.K i=x.K i) (a1:∀i o,M i->y.H i=some o->o.gen<y.n)
  (a2:∀i m,M i->y.H i=some m->m.gen<x.n\/m.isCal=true->∃o,x.H i=some o/\o.gen=m.gen/\o.shape=m.shape/\y.β i=x.β i)
  (a6:∀i m,M i->y.H i=some m->m.isFam=false) (V:∀i o b k,M i->y.H i=some o->y.atk i b k->∃l m I,M l/\x.H l=some m/\x.atk l b I)
  (hβ:∀i l o m b k I,M i->M l->y.H i=some o->y.H l=some m->y.β i=some (b,k)->y.β l=some (b,I)->i=l)
  (hK:∀i o j b c,M i->y.H i=some o->y.K i j=some (b,c)->(∀l m k,M l->y.H l=some m->y.β l=some (b,k)->False)/\∀l m Z c',M l->y.H l=some m->y.K l Z=some (b,c')->l=i/\Z=j)
  (a7:x.le y->∀i o,M i->y.H i=some o->CL y (y.β i) (y.K i) o):x.le y/\y.ok:=by
 have U:x.le y:=by
  refine⟨by rw[hw];exact wy _,by rw[hw],by rw[hw],by rw[hw],λ_ _=>by rw[hw],λ_ h=>by rw[hS];exact h,hF,hn,λi m h hg=>?_,λi m h hf _ _=>?_⟩
  .by_cases w:M i
   .exact a2 i m w h hg
   .obtain⟨J,T,_⟩:=B i w
    exact⟨m,by rw[<- J];exact h,rfl,rfl,T⟩
  .by_cases w:M i
   .rw[a6 i m w h] at hf;cases hf
   .obtain⟨J,_,h3⟩:=B i w
    exact⟨m,by rw[<- J];exact h,hf,rfl,rfl,rfl,h3⟩
 have O:∀i o b k,¬ M i->y.H i=some o->y.atk i b k->x.H i=some o/\x.atk i b k:=by
  intro i o b k w h ha
  obtain⟨J,T,h3⟩:=B i w
  unfold Cx.atk at ha ⊢
  rw[<- J,<- T,<- h3]
  exact⟨h,ha⟩
 have X:∀i o b k,y.H i=some o->y.atk i b k->b<x.w.heap.size/\¬ x.S b/\¬ x.F b:=by
  intro i o b k h ha
  by_cases w:M i
  .obtain⟨l,m,I,_,J,T⟩:=V i o b k w h ha
   exact C.own' l m b I J T
  .obtain⟨J,T⟩:=O i o b k w h ha
   exact C.own' i o b k J T
 have BP:∀i l o m b k I,M i->¬ M l->y.H i=some o->y.H l=some m->y.atk i b k->y.atk l b I->False:=by
  intro i l o m b k I w q h E ha a8
  obtain⟨i2,o2,k2,aa,J,T⟩:=V i o b k w h ha
  obtain⟨h3,h4⟩:=O l m b I q E a8
  exact q (C.inj' J h3 T h4 ▸ aa)
 refine⟨U,by rw[hS,hw];exact C.S_lt,by rw[hF,hw];exact C.F_lt,by rw[hS,hF];exact C.SF,λi o h=>?_,λi o b k h F=>?_,λi l o m b k I h E F A=>?_,λi o j b c h F=>?_,C.tabs.le U⟩
 .by_cases w:M i
  .exact⟨a1 i o w h,a7 U i o w h⟩
  .obtain⟨J,T,h3⟩:=B i w
   obtain⟨k1,k2⟩:=C.obj i o (by rw[<- J];exact h)
   rw[T,h3]
   exact⟨xD k1 hn,k2.mono U (λ_ _ _=>by rw[hw]) λ_ _ _ _=>by rw[hw]⟩
 .rw[hw,hS,hF];exact X i o b k h (.inl F)
 .by_cases w:M i<;>by_cases q:M l
  .exact hβ i l o m b k I w q h E F A
  .exact(BP i l o m b k I w q h E (.inl F) (.inl A)).elim
  .exact(BP l i m o b I k q w E h (.inl A) (.inl F)).elim
  .exact C.inj' (O i o b k w h (.inl F)).1 (O l m b I q E (.inl A)).1 (O i o b k w h (.inl F)).2 (O l m b I q E (.inl A)).2
 .rw[hw,hS,hF]
  obtain⟨k1,k2,k3⟩:=X i o b c h (.inr ⟨j,F⟩)
  refine⟨k1,k2,k3,λl m k E A=>?_,λl m Z c' E A=>?_⟩
  .by_cases w:M i<;>by_cases q:M l
   .exact(hK i o j b c w h F).1 l m k q E A
   .exact BP i l o m b c k w q h E (.inr ⟨j,F⟩) (.inl A)
   .exact BP l i m o b k c q w E h (.inl A) (.inr ⟨j,F⟩)
   .obtain⟨e1,_,e3⟩:=B i w
    obtain⟨a0,ab,_⟩:=B l q
    exact(C.ext i o j b c (by rw[<- e1];exact h) (by rw[<- e3];exact F)).2.2.2.1 l m k (by rw[<- a0];exact E) (by rw[<- ab];exact A)
  .by_cases w:M i<;>by_cases q:M l
   .exact(hK i o j b c w h F).2 l m Z c' q E A
   .exact(BP i l o m b c c' w q h E (.inr ⟨j,F⟩) (.inr ⟨Z,A⟩)).elim
   .exact(BP l i m o b c' c q w E h (.inr ⟨Z,A⟩) (.inr ⟨j,F⟩)).elim
   .obtain⟨e1,_,e3⟩:=B i w
    obtain⟨a0,_,ac⟩:=B l q
    exact(C.ext i o j b c (by rw[<- e1];exact h) (by rw[<- e3];exact F)).2.2.2.2 l m Z c' (by rw[<- a0];exact E) (by rw[<- ac];exact A)
section
variable{g:Nat}{e:TypeId}{sz col:Nat}{e2:TypeId}{sz2:Nat}{hole:Option (Nat × Nat × Nat)}{xs:List (List RV)}
theorem v6{s:St}(id r k:Nat){row}{ys}(V:id≠r)(hh:hget s.h id=some (.rr g e sz col e2 sz2 none xs))(hr:hget s.h r=none)(hi:xs[k]?=some row)(hc:row[col]?=some (.sl ys)) :
  AZ s ⟨s.e,(r,some (.arr s.n e2 sz2 ys))::(id,some (.rr g e sz col e2 sz2 (some (k,r,s.n)) xs))::s.h,s.n+1,s.N⟩:=by
 intro c0 a w ⟨_,a0,hsz,y,a6,a7,E,hH,a8,a1⟩
 have l:y.H id=some (.rr g e sz col e2 sz2 none xs):=by rw[hH];exact hh
 have ae:y.H r=none:=by rw[hH];exact hr
 obtain⟨hg,⟨p1,p2,p3,p4⟩,aa,us,h1,h2,h3,h4⟩:=E.obj _ _ l
 obtain⟨uk,k1,⟨_,_,k2,_⟩ | ⟨_,af,k3,q1,q2,ab,q3,q4⟩⟩:=h4 k row hi
 .cases k2
 rw[hc] at k3;cases k3
 have hn:=V.symm
 generalize B:({ y with H:=hget ((r,some (.arr s.n e2 sz2 ys))::(id,some (.rr g e sz col e2 sz2 (some (k,r,s.n)) xs))::s.h),β:=λi=>if i=r then y.K id k else y.β i,K:=λi=>if i=r then λ_=>none else if i=id then λj=>if j=k then none else y.K id j else y.K i,n:=y.n+1 } : Cx)=z
 have U:z.w=y.w:=by rw[<- B]
 have z2:z.S=y.S:=by rw[<- B]
 have z3:z.F=y.F:=by rw[<- B]
 have z4:z.n=y.n+1:=by rw[<- B]
 have F:z.H r=some (.arr s.n e2 sz2 ys):=by rw[<- B];simp only[BG,ww]
 have O:z.H id=some (.rr g e sz col e2 sz2 (some (k,r,s.n)) xs):=by rw[<- B];simp only[BG,wv hn,ww]
 have q:z.β r=y.K id k:=by rw[<- B];simp
 have A:z.β id=y.β id:=by rw[<- B];simp[V]
 have X:z.K r=λ_=>none:=by rw[<- B];simp
 have T:z.K id=λj=>if j=k then none else y.K id j:=by rw[<- B];simp[V]
 have zo:∀i,¬ (i=id\/i=r)->z.H i=y.H i/\z.β i=y.β i/\z.K i=y.K i:=by
  intro i hm
  have e1:¬ i=id:=λh=>hm (.inl h)
  have e2:¬ i=r:=λh=>hm (.inr h)
  rw[<- B]
  exact⟨by simp only[BG,wv (λh=>e2 (Eq.symm h)),wv (λh=>e1 (Eq.symm h))];rw[hH],by simp[e2],by simp[e1,e2]⟩
 have I:=Xc (x:=y) (y:=z) E (λi=>i=id\/i=r) U z2 z3 (by omega) zo ?_ ?_ ?_ ?_ ?_ ?_ ?_
 .refine⟨‹_›,a0,hsz,z,U.trans a6,a7.trans I.1,I.2,?_,by rw[z4,a8],λt=>(a1 t).mono I.1⟩
  rw[<- B]
 .rintro i o (rfl | rfl) h
  .rw[O] at h;cases h;simp only[AU.gen] at hg ⊢;omega
  .rw[F] at h;cases h;simp only[AU.gen];omega
 .rintro i o (rfl | rfl) h J
  .rw[O] at h;cases h
   exact⟨_,l,rfl,rfl,A⟩
  .rw[F] at h;cases h
   simp only[AU.gen,AU.isCal] at J
   rcases J with J | J
   .omega
   .cases J
 .rintro i o (rfl | rfl) h
  .rw[O] at h;cases h;rfl
  .rw[F] at h;cases h;rfl
 .rintro i o b kk (rfl | rfl) h Z
  .refine⟨i,_,kk,.inl rfl,l,Z.imp (λh=>by rw[<- A];exact h) λ⟨j,h⟩=>⟨j,?_⟩⟩
   rw[T] at h
   dsimp only at h
   split at h
   .cases h
   .exact h
  .refine⟨id,_,kk,.inl rfl,l,.inr ⟨k,?_⟩⟩
   rcases Z with Z | ⟨j,Z⟩
   .rw[<- q];exact Z
   .rw[X] at Z;cases Z
 .rintro i i' o o' b kk ag (rfl | rfl) (rfl | rfl) h h' C m
  .rfl
  .rw[A] at C;rw[q] at m
   exact((E.ext _ _ _ _ _ l m).2.2.2.1 _ _ _ l C).elim
  .rw[A] at m;rw[q] at C
   exact((E.ext _ _ _ _ _ l C).2.2.2.1 _ _ _ l m).elim
  .rfl
 .rintro i o j b c (rfl | rfl) h C
  .rw[T] at C
   dsimp only at C
   split at C
   .cases C
   rename_i M
   obtain⟨_,_,_,e4,e5⟩:=E.ext _ _ _ _ _ l C
   refine⟨λi' o' kk hm h' m=>?_,λi' o' j' c' hm h' m=>?_⟩
   .rcases hm with rfl | rfl
    .rw[A] at m;exact e4 _ _ _ l m
    .rw[q] at m;exact M (e5 _ _ _ _ l m).2.symm
   .rcases hm with rfl | rfl
    .rw[T] at m
     dsimp only at m
     split at m
     .cases m
     .exact e5 _ _ _ _ l m
    .rw[X] at m;cases m
  .rw[X] at C;cases C
 .rintro ad i o (rfl | rfl) h
  .rw[O] at h;cases h
   rw[A,T]
   refine⟨⟨p1,p2,p3,p4⟩,aa,us,h1,by rw[U];exact h2,λi row c d hc k1 k2=>let ⟨u,k3,k4⟩:=h3 i row c d hc k1 k2;⟨u,k3,k4.mono (λ_ _=>by rw[U]) λb h=>by rw[z2];exact h⟩,λj a2 hj=>?_⟩
   by_cases M:j=k
   .subst M
    rw[hi] at hj;cases hj
    refine⟨uk,k1,.inl ⟨r,s.n,rfl,.own (by omega) ?_ λo ho ah=>?_⟩⟩
    .unfold Bh at q2
     split at q2
     .rw[q2.2];rfl
     .rw[q2];rfl
    .rw[F] at ho;cases ho
     rw[q];exact q2
   .obtain⟨u,e1,⟨_,_,e2,_⟩ | ⟨_,ac,e3,e4⟩⟩:=h4 j a2 hj
    .cases e2
    .refine⟨u,e1,.inr ⟨λr' g' h=>M (by cases h;rfl),ac,e3,?_⟩⟩
     dsimp only
     rw[wv M]
     exact e4.mono (λ_ _=>by rw[U]) (λb h=>by rw[z2];exact h) λ_ _ _=>by rw[U]
  .rw[F] at h;cases h
   rw[q]
   exact⟨p3,q1,uk,ab,q2,by rw[U];exact q3,λi row c d k1 k2=>let ⟨u,k3,k4⟩:=q4 i row c d k1 k2;⟨u,k3,k4.mono (λ_ _=>by rw[U]) λb h=>by rw[z2];exact h⟩⟩
theorem gy{s:St}(id r k:Nat){g'}{row row':List RV}{ys:List (List RV)}(a0:id≠r)(hh:hget s.h id=some (.rr g e sz col e2 sz2 (some (k,r,g')) xs))(hr:hget s.h r=some (.arr g' e2 sz2 ys))(hi:xs[k]?=some row)(hv:row.set col (.sl ys)=row') :
  AZ s ⟨s.e,(r,none)::(id,some (.rr g e sz col e2 sz2 none (xs.set k row')))::s.h,s.n,s.N⟩:=by
 subst hv
 intro c0 a w ⟨_,a1,hsz,y,ab,ac,q,hH,ad,a2⟩
 have l:y.H id=some (.rr g e sz col e2 sz2 (some (k,r,g')) xs):=by rw[hH];exact hh
 have C:y.H r=some (.arr g' e2 sz2 ys):=by rw[hH];exact hr
 obtain⟨hg,⟨p1,p2,p3,p4⟩,ae,us,h1,h2,h3,h4⟩:=q.obj _ _ l
 obtain⟨al,q0,q1,a6,af,q2,q3,q4⟩:=q.obj _ _ C
 obtain⟨uk,k1,ag⟩:=h4 k row hi
 have U:AP y (.own r g') uk:=by
  rcases ag with ⟨r',an,k2,U⟩ | ⟨k2,_⟩
  .cases k2;exact U
  .exact absurd rfl (k2 _ _)
 have a7:=(wx.1 hi).1
 have ah:=p4 row (xa hi)
 have a8:Bh (y.β r) ys.length uk:=by cases U with | own _ _ hv=>exact hv _ C rfl
 have ai:uk=a6:=by
  unfold Bh at a8 q2
  split at a8<;>simp_all
 subst ai
 have hn:=a0.symm
 generalize J:({ y with H:=hget ((r,none)::(id,some (.rr g e sz col e2 sz2 none (xs.set k (row.set col (.sl ys)))))::s.h),K:=λi=>if i=id then λj=>if j=k then y.β r else y.K id j else y.K i } : Cx)=z
 have Z:z.w=y.w:=by rw[<- J]
 have z2:z.S=y.S:=by rw[<- J]
 have z3:z.F=y.F:=by rw[<- J]
 have z4:z.n=y.n:=by rw[<- J]
 have m:z.H r=none:=by rw[<- J];simp only[BG,ww]
 have M:z.H id=some (.rr g e sz col e2 sz2 none (xs.set k (row.set col (.sl ys)))):=by rw[<- J];simp only[BG,wv hn,ww]
 have zβ:z.β=y.β:=by rw[<- J]
 have V:z.K id=λj=>if j=k then y.β r else y.K id j:=by rw[<- J];simp
 have zo:∀i,¬ (i=id\/i=r)->z.H i=y.H i/\z.β i=y.β i/\z.K i=y.K i:=by
  intro i hm
  have e1:¬ i=id:=λh=>hm (.inl h)
  have e2:¬ i=r:=λh=>hm (.inr h)
  rw[<- J]
  exact⟨by simp only[BG,wv (λh=>e2 (Eq.symm h)),wv (λh=>e1 (Eq.symm h))];rw[hH],rfl,by simp[e1]⟩
 have F:=Xc (x:=y) (y:=z) q (λi=>i=id\/i=r) Z z2 z3 (by omega) zo ?_ ?_ ?_ ?_ ?_ ?_ ?_
 .refine⟨‹_›,a1,hsz,z,Z.trans ab,ac.trans F.1,F.2,?_,by rw[z4,ad],λt=>(a2 t).mono F.1⟩
  rw[<- J]
 .rintro i o (rfl | rfl) h
  .rw[M] at h;cases h;simp only[AU.gen] at hg ⊢;omega
  .rw[m] at h;cases h
 .rintro i o (rfl | rfl) h ao
  .rw[M] at h;cases h
   exact⟨_,l,rfl,by simp[AU.shape],by rw[zβ]⟩
  .rw[m] at h;cases h
 .rintro i o (rfl | rfl) h
  .rw[M] at h;cases h;rfl
  .rw[m] at h;cases h
 .rintro i o b kk (rfl | rfl) h O
  .rcases O with O | ⟨j,O⟩
   .exact⟨i,_,kk,.inl rfl,l,.inl (by rw[<- zβ];exact O)⟩
   .rw[V] at O
    dsimp only at O
    split at O
    .exact⟨r,_,kk,.inr rfl,C,.inl O⟩
    .exact⟨i,_,kk,.inl rfl,l,.inr ⟨j,O⟩⟩
  .rw[m] at h;cases h
 .rintro i i' o o' b kk aq (rfl | rfl) (rfl | rfl) h T B E
  .rfl
  .rw[m] at T;cases T
  .rw[m] at h;cases h
  .rfl
 .rintro i o j b c (rfl | rfl) h B
  .have X:∀j b c,z.K i j=some (b,c)->(j=k/\y.β r=some (b,c))\/(j≠k/\y.K i j=some (b,c)):=by
    intro j b c B
    rw[V] at B
    dsimp only at B
    split at B
    .exact .inl ⟨‹_›,B⟩
    .exact .inr ⟨‹_›,B⟩
   refine⟨λi' o' kk hm T E=>?_,λi' o' j' c' hm T E=>?_⟩
   .rcases hm with rfl | rfl
    .rw[zβ] at E
     rcases X j b c B with ⟨_,e⟩ | ⟨_,e⟩
     .exact a0 (q.inj _ _ _ _ _ _ _ l C E e)
     .exact(q.ext _ _ _ _ _ l e).2.2.2.1 _ _ _ l E
    .rw[m] at T;cases T
   .rcases hm with rfl | rfl
    .rcases X j b c B with ⟨e0,e⟩ | ⟨e0,e⟩<;>rcases X j' b c' E with ⟨aa,e'⟩ | ⟨aa,e'⟩
     .exact⟨rfl,aa.trans e0.symm⟩
     .exact((q.ext _ _ _ _ _ l e').2.2.2.1 _ _ _ C e).elim
     .exact((q.ext _ _ _ _ _ l e).2.2.2.1 _ _ _ C e').elim
     .exact(q.ext _ _ _ _ _ l e).2.2.2.2 _ _ _ _ l e'
    .rw[m] at T;cases T
  .rw[m] at h;cases h
 .rintro ak i o (rfl | rfl) h
  .rw[M] at h;cases h
   rw[zβ,V]
   have B:∀b,y.S b->z.w.heap[b]?=y.w.heap[b]?:=λ_ _=>by rw[Z]
   have hS:∀b,y.S b->z.S b:=λb h=>by rw[z2];exact h
   refine⟨⟨p1,p2,p3,λr hr=>?_⟩,ae,us,by rw[yh];exact h1,by rw[Z,yh];exact h2,λj row' c d hc I hd=>?_,λj row' I=>?_⟩
   .rcases yp hr with hr | rfl
    .exact p4 r hr
    .rw[yh];exact ah
   .rw[yC] at I
    by_cases A:k=j
    .subst A
     rw[ww rfl,ww a7] at I;cases I
     rw[yr (λh=>hc h.symm)] at hd
     obtain⟨u,U,k4⟩:=h3 _ row c d hc hi hd
     exact⟨u,U,k4.mono B hS⟩
    .rw[wv A] at I
     obtain⟨u,U,k4⟩:=h3 _ row' c d hc I hd
     exact⟨u,U,k4.mono B hS⟩
   .rw[yC] at I
    by_cases A:k=j
    .subst A
     rw[ww rfl,ww a7] at I;cases I
     refine⟨uk,k1,.inr ⟨(λ_ _ h=>by cases h),ys,by rw[yC,ww rfl,ww (by omega)],?_⟩⟩
     dsimp only
     rw[ww rfl]
     exact KK.mono (w:=y.w) (S:=y.S) B hS (λ_ _ _=>by rw[Z]) ⟨q1,q2,af,q3,q4⟩
    .rw[wv A] at I
     obtain⟨u,e1,⟨_,_,e2,_⟩ | ⟨_,aj,e3,e4⟩⟩:=h4 j row' I
     .cases e2;exact absurd rfl A
     .refine⟨u,e1,.inr ⟨(λ_ _ h=>by cases h),aj,e3,?_⟩⟩
      dsimp only
      rw[wv (λh=>A h.symm)]
      exact e4.mono B hS λ_ _ _=>by rw[Z]
  .rw[m] at h;cases h
end
section
variable{P:Program}{c:Bool}{o:Oper}{R:Aa}{h:AL}{n:Nat}
theorem pv{t e}{sz}{x}{id g}{ob:AU}(A:o.op=.call { callee := .builtin .len, args := #[x], argTypes := #[t] })(m:DU P t e sz)(B:Ev c R x (.own id g))
 (C:hget h id=some ob) (hg:ob.gen=g):AS P c o R h (.r (.int .i64 ob.shape.2.2)) := by
  intro E z w F I J
  refine⟨.int .i64 ob.shape.2.2, λO M => ?_, .r (.int _ _)⟩
  unfold execOp
  rw[A]
  have l := B.rep J E
  generalize q:w.eval x=v at l
  cases l with
  | own _ _ l =>
    have j := l _ (by rw[I];exact C) hg
    unfold Bh at j
    split at j
    · simp[resolve, invoke, builtin, q, j.1, j.2, Builtin.len_, run_underlying m.1, goInt]
    · simp[resolve, invoke, builtin, q, j, Builtin.len_, run_underlying m.1, goInt]
theorem px{t e}{sz}{x y}{id g}{ob:AU}{k}{z:Int}(U:o.op=.indexAddr t x y)(V:DU P t e sz)(X:Ev c R x (.own id g))
 (Z:hget h id=some ob) (hg:ob.gen=g) (hs:ob.shape.2.1=sz) (hy:Ev c R y (.r (.int k z))) (h0:c=true->0<=z) (h1:c=true->z<ob.shape.2.2):AS P c o R h (.ptr id g z.toNat 0) := by
  intro A q w a0 hH O
  obtain⟨C, ii, E, F⟩ := V
  have I := h0 A
  have l := h1 A
  have j:q.H id=some ob := by rw[hH];exact Z
  have B := X.rep O A
  generalize hw:w.eval x=v at B
  cases B with
  | own J _ B =>
    have hd := B _ j hg
    cases M:q.β id with
    | none => rw[M] at hd;have := hd.1;omega
    | some p =>
      obtain⟨b, cap⟩ := p
      rw[M] at hd
      simp only[Bh] at hd
      refine⟨.pointer (some ⟨b, z.toNat * sz+0, none⟩), λw2 a1 => ?_, .ptr J rfl λo' m T => ?_⟩
      · unfold execOp
        rw[U]
        simp[hw, hd, Ci (hy.rep O A), Instr.indexAt, asIntOf, run_underlying C, I, l, DY E, F, Addr.add_lit]
      · rw[j] at m;cases m
        exact⟨b, cap, M, by rw[hs]⟩
variable{g:Nat}{e:TypeId}{sz col:Nat}{e2:TypeId}{sz2:Nat}{hole:Option (Nat × Nat × Nat)}{xs:List (List RV)}
theorem US{x:Cx}(j:x.ok){id i k}{v}(q:x.H id=some (.rr g e sz col e2 sz2 hole xs))(l:AP x (.ptr id g i k) v) :
  ∃b cap us,x.β id=some (b,cap)/\v=.pointer (some ⟨b,i * sz+k,none⟩)/\(0<sz/\col<sz/\0<sz2/\∀row∈xs,row.length=sz)/\x.w.ownsRow 0 e sz (.slice (some ⟨b,0,none⟩) xs.length cap) xs.length us /\
   (∀i row c d,c≠col->xs[i]?=some row->row[c]?=some d->∃u,us[i * sz+c]?=some u/\A4 x.w x.S d u) /\
   ∀i row,xs[i]?=some row->∃u,us[i * sz+col]?=some u/\((∃r g',hole=some (i,r,g')/\AP x (.own r g') u)\/((∀r g',hole≠some (i,r,g'))/\∃ys,row[col]?=some (.sl ys)/\KK x.w x.S (x.K id i) e2 sz2 ys u)):=by
 obtain⟨_,A,B,us,m,C,E,F⟩:=j.obj _ _ q
 cases l with
 | ptr _ _ l=>
  obtain⟨b,cap,w,I⟩:=l _ q rfl
  rw[w] at m
  simp only[Bh] at m
  subst m
  exact⟨b,cap,us,w,I,A,C,E,F⟩
theorem uW{t}{x}{id i r g'}{row}(C:o.op=.load t x)(E:BH P t)(F:Ev c R x (.ptr id g i col))(I:hget h id=some (.rr g e sz col e2 sz2 (some (i,r,g')) xs))(l:c=true->xs[i]?=some row) :
  AS P c o R h (.own r g'):=by
 intro B z w m J M
 have j:z.H id=some (.rr g e sz col e2 sz2 (some (i,r,g')) xs):=by rw[J];exact I
 obtain⟨b,cap,us,O,T,_,U,_,V⟩:=US m j (F.rep M B)
 obtain⟨u,X,Z⟩:=V i row (l B)
 have h8:AP z (.own r g') u:=by
  rcases Z with ⟨_,_,q,k2⟩ | ⟨q,_⟩
  .cases q;exact k2
  .exact absurd rfl (q _ _)
 refine⟨u,λw2 A=>?_,h8⟩
 unfold execOp
 rw[C]
 simp[T,Mj E ((A.cellO j O).trans (Jm U X))]
theorem vo{t}{x}{id i k}{row}{d}(B:o.op=.load t x)(C:BH P t)(E:Ev c R x (.ptr id g i k))(F:hget h id=some (.rr g e sz col e2 sz2 hole xs))(I:k≠col)
 (l:c=true->xs[i]?=some row) (J:row[k]?=some d):AS P c o R h (.r d) := by
  intro A z w m M O
  have j:z.H id=some (.rr g e sz col e2 sz2 hole xs) := by rw[M];exact F
  obtain⟨b, cap, us, T, U, _, V, X, _⟩ := US m j (E.rep O A)
  obtain⟨u, Z, h7⟩ := X _ _ _ _ I (l A) J
  refine⟨u, λw2 q => ?_, .r h7⟩
  unfold execOp
  rw[B]
  simp[U, Mj C ((q.cellO j T).trans (Jm V Z))]
theorem tb{t}{x y}{id i k m r g' r0 g0:Nat}{row row':List RV}{a}(ho:o.op=.store t x y)(ht:∃i, P.info? t=some i/\i.size=m)(hx:Ev c R x (.ptr id g i k))
 (hh:hget h id=some (.rr g e sz col e2 sz2 (some (i, r0, g0)) xs)) (V:xs[i]?=some row) (hy:Ev c R y a) (hm:(BQ a).length=m) (hk:k+m<=row.length) (hl:row'.length=row.length) (az:k<=col) (a6:(BQ a)[col - k]?=some (.own r g'))
 (ai:∀b ∈ BQ a, b.one=true) (a1:∀j d, j≠col->row'[j]?=some d->(k<=j/\j<k+m/\∃b, (BQ a)[j - k]?=some b/\IF b=some d)\/((j<k\/k+m<=j)/\row[j]?=some d)) :
    Az P c o R h n .any ((id, some (.rr g e sz col e2 sz2 (some (i, r, g')) (xs.set i row')))::h) n := by
  intro hc z w T hH hn he K Q hK
  obtain⟨ii, hi, aj⟩ := ht
  have l:z.H id=some (.rr g e sz col e2 sz2 (some (i, r0, g0)) xs) := by rw[hH];exact hh
  have ak:i<xs.length := (wx.1 V).1
  obtain⟨b, cap, us, hβ, b0, ⟨hsz, a7, al, I⟩, ae, J, an⟩ := US T l (hx.rep he hc)
  have b1 := (T.obj _ _ l).1
  obtain⟨bc, af⟩ := ae
  rcases af with ⟨hv, _⟩ | ⟨M, b9, U, hv, _, a8, ao, b2, aq, X⟩
  · cases hv
  simp only[Value.slice.injEq, xF, Addr.mk.injEq, true_and, zt] at hv
  obtain⟨rfl, rfl⟩ := hv
  have b3 := I row (xa V)
  have b4 := hy.rep he hc
  obtain⟨Z, ar, b5⟩ := Kj b4 ai
  have au:(w.eval y).cells.toList.length=m := by rw[xq (xs := (w.eval y).cells), Z, hm]
  have b6:i * sz+sz<=xs.length * sz := by
    have:(i+1) * sz<=xs.length * sz := xi _ ak
    rwa [yU, yn] at this
  have ba:xs.length * sz<=U.size := by rw[aq];exact xi _ ao
  have aa := O1 (P := P) (k := i * sz+k) hi a8 (v := w.eval y) (by rw[Z, aj, hm]) b5 (by rw[Z, hm];omega)
  rw[show(w.eval y).cells.size=m by rw[Z, hm]] at aa
  have ab := λj => Jq U.toList (w.eval y).cells.toList (i * sz+k) j (by have := xq (xs := U);rw[au];omega)
  rw[au] at ab
  let q:Array Value := (U.toList.take (i * sz+k)++(w.eval y).cells.toList++U.toList.drop (i * sz+k+m)).toArray
  have O:q.size=U.size := by
    have av:(w.eval y).cells.size=m := by rw[Z, hm]
    simp[q, av];omega
  have hget:∀B C, B<xs.length->C<sz->(q.toList.take (xs.length * sz))[B * sz+C]?=if B=i/\k<=C/\C<k+m then(w.eval y).cells[C - k]? else us[B * sz+C]? := by
    intro B C E ac
    have ag:B * sz+C<xs.length * sz := by
      calc B * sz+C<B * sz+sz := by omega
        _=(B+1) * sz := by rw[yU, yn]
        _<=xs.length * sz := xi _ E
    rw[xn, ww ag]
    simp only[q]
    rw[ab]
    by_cases A:B=i
    · subst A
      by_cases a1:k<=C/\C<k+m
      · rw[ww (by omega), ww ⟨rfl, a1⟩, xo, show B * sz+C - (B * sz+k)=C - k by omega]
      · rw[wv (by omega), wv (λh => a1 h.2), <- X, xn, ww ag]
    · rw[wv (c := B=i/\_) (λh => A h.1), wv, <- X, xn, ww ag]
      intro h
      rcases Nat.lt_or_gt_of_ne A with a0 | a0
      · have := xi sz (show B+1<=i from a0)
        rw[yU, yn] at this
        omega
      · have := xi sz (show i+1<=B from a0)
        rw[yU, yn] at this
        omega
  have aw:col<k+m := by have := (wx.1 a6).1;omega
  have ax := HB T id (.rr g e sz col e2 sz2 (some (i, r, g')) (xs.set i row')) (z.w.setRow b q) (some (b, cap)) (z.K id) z.n (by simp[World.setRow]) rfl rfl rfl
    (λM _ b7 => setRow_other _ _ _ _ (λe => b7 _ l (.inl ⟨cap, by rw[e];exact hβ⟩))) (λM k' hb => by
      cases hb
      exact⟨by simpa[World.setRow] using(T.own id _ b cap l hβ).1, .inr ⟨_, l, .inl ⟨_, hβ⟩⟩⟩)
    (λj M C hb => by
      obtain⟨F, _, _, k4, k5⟩ := T.ext _ _ _ _ _ l hb
      exact⟨⟨by simpa[World.setRow] using F, .inr ⟨_, l, .inr ⟨j, C, hb⟩⟩⟩, λk' h => by cases h;exact k4 _ _ _ l hβ, λj' k' h => (k5 _ _ _ _ l h).2⟩)
    (wy _) b1 (λ_ => ⟨_, l, rfl, by simp[AU.shape], hβ.symm⟩) (λh => by cases h)
    (λay => by
      have a2:∀M, z.S M->(z.w.setRow b q).heap[M]?=z.w.heap[M]? := λM hb => ay.blk M (.inl hb)
      have b8:∀j M C, z.K id j=some (M, C)->(z.w.setRow b q).heap[M]?=z.w.heap[M]? := λj M C hb => setRow_other _ _ _ _ (λe => (T.ext _ _ _ _ _ l hb).2.2.2.1 _ _ _ l (e ▸ hβ))
      refine⟨⟨hsz, a7, al, λr hr => ?_⟩, .slice (some ⟨b, 0, none⟩) xs.length cap, q.toList.take (xs.length * sz), by simp[Bh], ⟨by simp[O];omega, .inr ⟨b, cap, q, by simp, yL _, setRow_heap _ _ _ _ _ _ a8, by simpa using ao, b2, by rw[O, aq], by simp⟩⟩, λB ad C d' ah F k2 => ?_, λB ad F => ?_⟩
      · rcases yp hr with hr | rfl
        · exact I r hr
        · rw[hl];exact b3
      · have E:B<xs.length := by simpa using(wx.1 F).1
        have ac:C<sz := by
          have := (wx.1 k2).1
          rw[yC] at F
          split at F
          · cases F;omega
          · rw[<- I ad (xa F)];exact this
        rw[hget B C E ac]
        rw[yC] at F
        by_cases A:i=B
        · subst A
          rw[ww rfl, ww ak] at F
          cases F
          rcases a1 C d' ah k2 with ⟨q1, q2, bb, q3, q4⟩ | ⟨q1, q2⟩
          · obtain⟨u, h3, _, h5⟩ := ar _ _ q3
            exact⟨u, by rw[ww ⟨rfl, q1, q2⟩];exact h3, (RT q4 h5).mono a2 (λ_ h => h)⟩
          · obtain⟨u, k5, k6⟩ := J _ _ _ _ ah V q2
            exact⟨u, by rw[wv (by omega)];exact k5, k6.mono a2 (λ_ h => h)⟩
        · rw[wv A] at F
          obtain⟨u, k5, k6⟩ := J _ _ _ _ ah F k2
          exact⟨u, by rw[wv (λh => A h.1.symm)];exact k5, k6.mono a2 (λ_ h => h)⟩
      · have E:B<xs.length := by simpa using(wx.1 F).1
        rw[hget B col E a7]
        rw[yC] at F
        by_cases A:i=B
        · subst A
          obtain⟨u, h3, _, h5⟩ := ar _ _ a6
          exact⟨u, by rw[ww ⟨rfl, az, aw⟩];exact h3, .inl ⟨r, g', rfl, h5.mono ay⟩⟩
        · rw[wv A] at F
          obtain⟨u, q1, ⟨r1, g1, q2, _⟩ | ⟨_, ys, q3, q4⟩⟩ := an _ _ F
          · cases q2;exact absurd rfl A
          · exact⟨u, by rw[wv (λh => A h.1.symm)];exact q1, .inr ⟨λ_ _ h => A (by cases h;rfl), ys, q3, q4.mono a2 (λ_ h => h) (b8 B)⟩⟩)
  unfold Oper.wp execOp
  rw[ho]
  simp only[b0, Sem.run_bind, aa, Result.andThen_ok, Sem.run_pure]
  exact hK undef _ ax.1 ax.2 (by simp only[hH];exact Ck _ _ _) hn (.any _)
end
theorem KK.frozen{w}{S S'}{β}{e}{sz}{ys:List (List RV)}{u}(h:KK w S β e sz ys u)(J:∀b,S b->S' b)(E:∀b k,β=some (b,k)->S' b):A4 w S' (.sl ys) u:=by
 obtain⟨q,hd,C,l,M⟩:=h
 unfold Bh at hd
 split at hd
 .have:ys=[]:=yX hd.1
  subst this
  rw[hd.2];exact .snil
 .rename_i b cap
  subst hd
  have A:ys.length<=cap/\cap<=maxLen:=by
   rcases l.2 with ⟨j,_⟩ | ⟨U,I,O,j,_,_,m,F,_⟩
   .cases j
   .simp only[Value.slice.injEq] at j;rw[j.2.2];exact⟨m,F⟩
  have B:∀i row k d,ys[i]?=some row->row[k]?=some d->C[i * sz+k]?=some (C.getD (i * sz+k) undef)/\A4 w S d (C.getD (i * sz+k) undef):=by
   intro i row k d j m
   obtain⟨u,F,T⟩:=M i row k d j m
   simp only[List.getD,F,yP]
   exact⟨trivial,T⟩
  refine .sl b 0 ys cap sz (λi k=>C.getD (i * sz+k) undef) (λ_=>E b cap rfl) A.1 A.2 q (λi row k d j m=>?_) (λi row k d j m=>(B i row k d j m).2.mono (λ_ _=>rfl) J)
  rw[xd]
  exact Jm l (B i row k d j m).1
section
variable{g:Nat}{e:TypeId}{sz col:Nat}{e2:TypeId}{sz2:Nat}{hole:Option (Nat × Nat × Nat)}{xs:List (List RV)}
theorem jn{y:Cx}(J:y.ok){id}{v}(V:y.H id=some (.rr g e sz col e2 sz2 none xs))(M:AP y (.own id g) v){S'}(X:∀b,y.S b->S' b)(q:∀b k,y.atk id b k->S' b):A4 y.w S' (.sl xs) v:=by
 obtain⟨_,⟨p1,p2,p3,w⟩,O,I,T,l,hc,A⟩:=J.obj _ _ V
 have hd:Bh (y.β id) xs.length v:=by cases M with | own _ _ M=>exact M _ V rfl
 have:v=O:=by
  unfold Bh at hd T
  split at hd<;>simp_all
 subst this
 unfold Bh at hd
 split at hd
 .have:xs=[]:=yX hd.1
  subst this
  rw[hd.2];exact .snil
 .rename_i b cap heq
  subst hd
  have B:xs.length<=cap/\cap<=maxLen:=by
   rcases l.2 with ⟨j,_⟩ | ⟨g',Z,a0,j,_,_,m,C,_⟩
   .cases j
   .simp only[Value.slice.injEq] at j;rw[j.2.2];exact⟨m,C⟩
  have E:∀i row k d,xs[i]?=some row->row[k]?=some d->I[i * sz+k]?=some (I.getD (i * sz+k) undef)/\A4 y.w S' d (I.getD (i * sz+k) undef):=by
   intro i row k d j m
   by_cases F:k=col
   .subst F
    obtain⟨u,C,⟨_,_,U,_⟩ | ⟨_,ys,h5,h6⟩⟩:=A i row j
    .cases U
    .rw[m] at h5;cases h5
     simp only[List.getD,C,yP]
     exact⟨trivial,h6.frozen X λb k hb=>q b k (.inr ⟨i,hb⟩)⟩
   .obtain⟨u,C,U⟩:=hc i row k d F j m
    simp only[List.getD,C,yP]
    exact⟨trivial,U.mono (λ_ _=>rfl) X⟩
  refine .sl b 0 xs cap sz (λi k=>I.getD (i * sz+k) undef) (λ_=>q b cap (.inl heq)) B.1 B.2 w (λi row k d j m=>?_) (λi row k d j m=>(E i row k d j m).2)
  rw[xd]
  exact Jm l (E i row k d j m).1
theorem wc{s:St} t id(ht:get s.e t=.own id g)(hh:hget s.h id=some (.rr g e sz col e2 sz2 none xs)) :
  AZ s ⟨(t,.r (.sl xs))::s.e,(id,none)::s.h,s.n,s.N⟩:=by
 intro c0 a w ⟨_,F,hsz,y,O,T,l,hH,U,C⟩
 have A:y.H id=some (.rr g e sz col e2 sz2 none xs):=by rw[hH];exact hh
 let E:Cx:={ y with S:=λb=>y.S b\/∃k,y.atk id b k,H:=hget ((id,none)::s.h) }
 have j:∀i o,E.H i=some o->i≠id/\y.H i=some o:=by
  intro i o m
  simp only[E,BG] at m
  split at m
  .cases m
  .rename_i V;rw[hH];exact⟨λe=>V e.symm,m⟩
 have B:y.le E:=⟨wy _,rfl,rfl,rfl,λ_ _=>rfl,λ_ h=>.inl h,rfl,wy _,λi o m _=>⟨o,(j i o m).2,rfl,rfl,rfl⟩,λi o m hf _ _=>⟨o,(j i o m).2,hf,rfl,rfl,rfl,rfl⟩⟩
 have I:E.ok:=by
  have J:∀i o b k,E.H i=some o->y.atk i b k->¬ E.S b:=λi o b k m M hS=>hS.elim (l.own' i o b k (j i o m).2 M).2.1 λ⟨k',q⟩=>(j i o m).1 (l.inj' (j i o m).2 A M q)
  refine⟨λb q=>?_,l.F_lt,λb q=>?_,λi o m=>?_,λi o b k m q=>?_,λi i' o o' b k k' m X=>l.inj i i' o o' b k k' (j _ _ m).2 (j _ _ X).2,l.extOf (λi o m=>⟨o,(j i o m).2⟩) rfl rfl (wy _) J (λi o b k m M=>(l.own' i o b k (j i o m).2 M).2.2),l.tabs.le B⟩
  .rcases q with q | ⟨k,q⟩
   .exact l.S_lt b q
   .exact(l.own' id _ b k A q).1
  .rcases q with q | ⟨k,q⟩
   .exact l.SF b q
   .exact(l.own' id _ b k A q).2.2
  .obtain⟨Z,k2⟩:=l.obj i o (j _ _ m).2
   exact⟨Z,k2.mono B (λ_ _ _=>rfl) λ_ _ _ _=>rfl⟩
  .obtain⟨Z,k2,k3⟩:=l.own i o b k (j _ _ m).2 q
   exact⟨Z,J i o b k m (.inl q),k3⟩
 refine⟨_,F,hsz,E,O,T.trans B,I,rfl,U,λt'=>?_⟩
 rw[CE]
 split
 .rename_i a0;subst a0
  have h1:=C t
  rw[ht] at h1
  exact .r (jn l A h1 (λ_ h=>.inl h) (λb k q=>.inr ⟨k,q⟩))
 .exact(C t').mono B
end
section
variable{P:Program}{c:Bool}{o:Oper}{R:Aa}{h:AL}{n:Nat}{α γ:Type}{f:α->List RV}{f2:γ->List RV}{g:Nat}{e:TypeId}{sz col:Nat}{e2:TypeId}{sz2:Nat}{hole:Option (Nat × Nat × Nat)}
theorem UI{t e'}{j}{x}{id}{l:List α}(m:o.op=.call { callee:=.builtin .len,args:=#[x],argTypes:=#[t] })(q:DU P t e sz)(w:Ev c R x (.own id g))(A:hget h id=some (.rr g e' j col e2 sz2 hole (l.map f))) :
  AS P c o R h (.r (.int .i64 l.length)):=by
 have:=pv m q w A rfl
 simpa[AU.shape] using this
theorem H9{t e'}{x y}{id}{l:List α}{k}{z:Int}{a}(q:o.op=.indexAddr t x y)(w:DU P t e sz)(A:Ev c R x (.own id g))(B:hget h id=some (.rr g e' sz col e2 sz2 hole (l.map f)))
 (C:Ev c R y (.r (.int k z))) (m:c=true->AO l z=some a):AS P c o R h (.ptr id g z.toNat 0) :=
  px q w A B rfl rfl C (λj => (EZ (m j)).1) λj => by simpa[AU.shape] using(EZ (m j)).2.2
theorem dS{β:Type}{l:List β}{k}{b}(h:l[k]?=some b):l.set k b=l:=by
 apply yg
 intro j
 rw[yC]
 split
 .rename_i e;subst e;rw[ww (wx.1 h).1,h]
 .rfl
theorem L6{l:List α}{z:Int}{a}(j:AO l z=some a):(l.map f)[z.toNat]?=some (f a):=by rw[xJ,(EZ j).2.1];rfl
theorem OY{t}{x}{id r g'}{l:List α}{z:Int}{a}(j:o.op=.load t x)(m:BH P t)(q:Ev c R x (.ptr id g z.toNat col))(w:hget h id=some (.rr g e sz col e2 sz2 (some (z.toNat,r,g')) (l.map f)))(A:c=true->AO l z=some a) :
  AS P c o R h (.own r g'):=uW j m q w λB=>L6 (A B)
theorem XF{t}{x}{id k}{l:List α}{z:Int}{a}{d}(j:o.op=.load t x)(m:BH P t)(q:Ev c R x (.ptr id g z.toNat k))(w:hget h id=some (.rr g e sz col e2 sz2 hole (l.map f)))(A:Nat.beq k col=false)(B:c=true->AO l z=some a)(hd:(f a)[k]?=some d) :
  AS P c o R h (.r d):=vo j m q w (ym A) (λC=>L6 (B C)) hd
theorem cJ{t}{x y}{id r g' w g0}{l:List α}{z:Int}{a}(A:o.op=.store t x y)(B:∃i,P.info? t=some i/\i.size=1)(C:Ev true R x (.ptr id g z.toNat col))(E:hget h id=some (.rr g e sz col e2 sz2 (some (z.toNat,w,g0)) (l.map f)))(F:AO l z=some a)(I:Ev true R y (.own r g'))(J:Nat.blt col (f a).length=true) :
  Az P true o R h n .any ((id,some (.rr g e sz col e2 sz2 (some (z.toNat,r,g')) (l.map f)))::h) n:=by
 have m:=L6 (f:=f) F
 have:=tb (n:=n) (r:=r) (g':=g') (row':=f a) A B C E m I rfl (by have:=B8 J;omega) rfl (wy _) (by simp[BQ]) (λb q=>by simp[BQ] at q;subst q;rfl) (λj d M hd=>.inr ⟨by omega,hd⟩)
 rwa [dS m] at this
theorem Qu{s:St} id r(z:Int){l:List α}{a}{ys:List γ}(j:Nat.beq id r=false)(m:hget s.h id=some (.rr g e sz col e2 sz2 none (l.map f)))(q:hget s.h r=none)(w:AO l z=some a)(hc:(f a)[col]?=some (.sl (ys.map f2))) :
  AZ s ⟨s.e,(r,some (.arr s.n e2 sz2 (ys.map f2)))::(id,some (.rr g e sz col e2 sz2 (some (z.toNat,r,s.n)) (l.map f)))::s.h,s.n+1,s.N⟩:=
 v6 id r z.toNat (ym j) m q (L6 w) hc
theorem gz{s:St} id r(z:Int){g'}{l:List α}{a v}{ys:List γ}(j:Nat.beq id r=false)(m:hget s.h id=some (.rr g e sz col e2 sz2 (some (z.toNat,r,g')) (l.map f)))(q:hget s.h r=some (.arr g' e2 sz2 (ys.map f2)))(w:AO l z=some a)(A:(f a).set col (.sl (ys.map f2))=f v) :
  AZ s ⟨s.e,(r,none)::(id,some (.rr g e sz col e2 sz2 none ((l.set z.toNat v).map f)))::s.h,s.n,s.N⟩:=by
 have:=gy id r z.toNat (ym j) m q (L6 w) A
 rwa [<- WAS] at this
end
section
variable{g:Nat}{e:TypeId}{sz col:Nat}{e2:TypeId}{sz2:Nat}
theorem iA{s:St} id col e2 sz2(hh:hget s.h id=some (.arr g e sz []))(hc:Nat.blt col sz=true)(h2:Nat.blt 0 sz2=true):AZ s ⟨s.e,(id,some (.rr g e sz col e2 sz2 none []))::s.h,s.n,s.N⟩:=by
 intro c0 a w ⟨_,E,hsz,y,O,T,C,hH,U,F⟩
 have l:y.H id=some (.arr g e sz []):=by rw[hH];exact hh
 obtain⟨hg,q0,q1,V,us,q2,q3,q4⟩:=C.obj _ _ l
 generalize A:({ y with H:=hget ((id,some (.rr g e sz col e2 sz2 none []))::s.h) } : Cx)=z
 have X:z.w=y.w:=by rw[<- A]
 have z2:z.S=y.S:=by rw[<- A]
 have z3:z.F=y.F:=by rw[<- A]
 have z4:z.n=y.n:=by rw[<- A]
 have B:z.H id=some (.rr g e sz col e2 sz2 none []):=by rw[<- A];simp only[BG,ww]
 have I:z.β=y.β:=by rw[<- A]
 have M:z.K=y.K:=by rw[<- A]
 have q:=Xc (x:=y) (y:=z) C (λi=>i=id) X z2 z3 (by omega) (λi J=>by
  refine⟨?_,by rw[I],by rw[M]⟩
  rw[<- A];simp only[BG,wv (λh=>J (Eq.symm h))];rw[hH]) ?_ ?_ ?_ ?_ ?_ ?_ ?_
 .refine⟨‹_›,E,hsz,z,X.trans O,T.trans q.1,q.2,?_,by rw[z4,U],λt=>(F t).mono q.1⟩
  rw[<- A]
 .rintro i o rfl h;rw[B] at h;cases h;rw[z4];exact hg
 .rintro i o rfl h _;rw[B] at h;cases h;exact⟨_,l,rfl,rfl,by rw[I]⟩
 .rintro i o rfl h;rw[B] at h;cases h;rfl
 .rintro i o b kk rfl h ha;exact⟨i,_,kk,rfl,l,by unfold Cx.atk at ha ⊢;rwa [I,M] at ha⟩
 .rintro i i' o o' b k k' rfl rfl h h' Z m;rfl
 .rintro i o j b c rfl h Z
  rw[M] at Z
  obtain⟨_,_,_,e4,e5⟩:=C.ext _ _ _ _ _ l Z
  refine⟨λi' o' k J h' m=>?_,λi' o' j' c' J h' m=>?_⟩
  .subst J;rw[I] at m;exact e4 _ _ _ l m
  .subst J;rw[M] at m;exact e5 _ _ _ _ l m
 .rintro _ i o rfl h
  rw[B] at h;cases h
  exact⟨⟨q0,B8 hc,B8 h2,λ_ h=>by cases h⟩,V,us,by rw[I];exact q2,by rw[X];exact q3,(λi row c d _ h=>by simp at h),λi row h=>by simp at h⟩
variable{α γ:Type}{f:α->List RV}{f2:γ->List RV}
theorem T4{s:St} id r(z:Int){g'}{l:List α}{a}{ys:List γ}(j:Nat.beq id r=false)(q:hget s.h id=some (.rr g e sz col e2 sz2 (some (z.toNat,r,g')) (l.map f)))(w:hget s.h r=some (.arr g' e2 sz2 (ys.map f2)))(m:AO l z=some a)(A:(f a).set col (.sl (ys.map f2))=f a) :
  AZ s ⟨s.e,(r,none)::(id,some (.rr g e sz col e2 sz2 none (l.map f)))::s.h,s.n,s.N⟩:=by
 have:=gy id r z.toNat (ym j) q w (L6 m) A
 rwa [dS (L6 m)] at this
variable{P:Program}{c:Bool}{o:Oper}{R:Aa}{h:AL}{n:Nat}
theorem rH{t}{a7}{parts:Array (Nat × Operand)}{x}(id:Nat)(e2 sz2:Nat){a}{row:List RV}(ho:o.op=.buildSlice t 1 parts)(ht:Ba P t e sz a7)(hp:parts.toList=[(0, x)])(hy:Ev c R x a)
 (I:(BQ a)[col]?=some (.cst (.slice none 0 0))) (hd:GR a=some row) (hl:row.length=sz) (a8:row[col]?=some (.sl [])) (T:0<sz2) (E:Nat.ble sz 16777216=true) :
    Az P c o R h n (.own id n) ((id, some (.rr n e sz col e2 sz2 none [row]))::h) (n+1) := by
  intro hc z w U hH hn he K Q hK
  obtain⟨aa, ii, zv, hi, V, _, hz, ae, _, h0⟩ := ht
  have af:1 * sz<=16777216 := by have := xu E;omega
  have J:∃init:Array Value, init.size=1 * sz/\∀W, (Instr.buildSlice t 1 (parts.map λ(i, x) => (i, w.eval x))).run P W =
      match Instr.fill (λi => some (i * sz, sz)) init (parts.toList.map λ(i, x) => (i, w.eval x)) with
      | some cells => .ok (.slice (some ⟨W.heap.size, 0, none⟩) 1 1) (W.alloc (.cells cells e))
      | none => .halt (.stuck "buildSlice: a part of the wrong size") W := by
    refine⟨(Array.range (1 * sz)).map (λi => (if 1 * sz=0 then #[] else zv.cells)[i % (if 1 * sz=0 then #[] else zv.cells).size]!), by simp, λW => ?_⟩
    have X:¬ 2 ^ 24<1 * sz := by omega
    have ab:¬ 1 * sz=0 := by omega
    simp only[Instr.buildSlice, Sem.run_bind, run_underlying aa, Result.andThen_ok, DY hi, V]
    simp only[X, ab, zeroValue, typeInfo, WAF, Sem.run_bind, run_program, Result.andThen_ok, hi, hz, Sem.run_pure, WAG]
    generalize Instr.fill _ _ _=r
    cases r<;>simp[newRow]
  obtain⟨init, l, A⟩ := J
  rw[hp] at A
  simp only[xj, yd] at A
  have Z := hy.rep he hc
  obtain⟨r1, r2⟩ := MM hd Z
  have hm:(BQ a).length=sz := by have := (Sw hd).1;omega
  have a0:∀b ∈ BQ a, b.one=true := λb F => by
    obtain⟨j, O⟩ := yM.1 F
    have ag := (wx.1 O).1
    obtain⟨b', e1, e2⟩ := (Sw hd).2 j (row[j]'(by omega)) (wz _)
    rw[O] at e1;cases e1
    exact Rp e2
  obtain⟨ac, ad, ah⟩ := Kj Z a0
  obtain⟨m, f1, f2, _, f4⟩ := Ra sz [(0, w.eval x)] 0 init (λj p O => by
    cases j with
    | zero => simp at O;subst O;exact⟨rfl, by rw[ac, hm]⟩
    | succ j => simp at O) (by rw[l];simp)
  have B:∀k, k<sz->m[k]?=(w.eval x).cells[k]? := λk hk => by
    have := f4 0 (0, w.eval x) k rfl hk
    simpa using this
  have C:m.size=1 * sz := by rw[f2, l]
  have a1:col<sz := by rw[<- hm];exact(wx.1 I).1
  have a2 := HB U id (.rr z.n e sz col e2 sz2 none [row]) (z.w.alloc (.cells m e)) (some (z.w.heap.size, 1)) (λ_ => none) (z.n+1) (by simp) rfl rfl rfl
    (λb F _ => heap_alloc_old _ _ F) (λb k F => by cases F;simp) (λj b k F => by cases F) (by omega) (by simp[AU.gen]) (λhg => absurd hg (by simp[AU.gen, AU.isCal])) (λhf => by cases hf)
    (λai => ⟨⟨h0, a1, T, λq hq => by rw[zA] at hq;rw[hq];exact hl⟩, _, m.toList, rfl,
      ⟨by rw[xq];exact C, .inr ⟨z.w.heap.size, 1, _, rfl, yL _, heap_alloc_new _ _, wy _, by unfold maxLen;omega, C, by show m.toList.take (1 * sz)=m.toList;rw[<- C, <- xq];exact WAb⟩⟩,
      λi q k d aj M h2 => by
        cases i with
        | succ i => simp at M
        | zero =>
          simp at M;subst M
          obtain⟨u, e5, e6⟩ := r2 k d h2
          exact⟨u, by rw[zM, xd, xo, B k (by rw[<- hl];exact(wx.1 h2).1)];exact e5, e6.mono (λb F => heap_alloc_old _ _ (U.S_lt b F)) (λ_ h => h)⟩,
      λi q M => by
        cases i with
        | succ i => simp at M
        | zero =>
          simp at M;subst M
          obtain⟨u, e5, _, e6⟩ := ad col _ I
          have hu:u=.slice none 0 0 := by cases e6;rfl
          exact⟨u, by rw[zM, xd, xo, B col a1];exact e5, .inr ⟨(λ_ _ h => by cases h), [], a8, (λ_ h => by cases h), ⟨rfl, hu⟩, [], ⟨by simp, .inl ⟨hu, rfl⟩⟩, (λi row c d h => by cases h)⟩⟩⟩)
  unfold Oper.wp execOp
  simp only[ho, Sem.run_bind, A, f1, Result.andThen_ok, Sem.run_pure]
  refine hK _ _ a2.1 a2.2 (by simp only[hH, hn];exact Ck _ _ _) (by simp[hn]) (.own (by simp[hn]) rfl λo' a6 _ => ?_)
  simp only[ww] at a6 ⊢
  cases a6
  simp[Bh, AU.shape]
theorem Z9{t}{q}{parts:Array (Nat × Operand)}{x}(id:Nat){b}{v}(A:o.op=.buildSlice t 1 parts)(B:Ba P t e sz q)(hp:parts.toList=[(0, x)])(C:Ev c R x b)
 (l:(BQ b)[col]?=some (.cst (.slice none 0 0))) (hd:GR b=some (f v)) (E:(f v).length=sz) (w:(f v)[col]?=some (.sl [])) (m:Nat.blt 0 sz2=true) (j:Nat.ble sz 16777216=true) :
    Az P c o R h n (.own id n) ((id, some (.rr n e sz col e2 sz2 none ([v].map f)))::h) (n+1) := rH id e2 sz2 A B hp C l hd E w (B8 m) j
theorem kx{t}{ac}{s x}{id id' gx r g'}{e'}{xs:List (List RV)}{row:List RV}(ho:o.op=.call { callee := .builtin .append, args := #[s, x], argTypes := #[t, t] })(ht:Ba P t e sz ac)
 (hs:Ev c R s (.own id g)) (hh:hget h id=some (.rr g e sz col e2 sz2 none xs)) (hx:Ev c R x (.own id' gx)) (az:hget h id'=some (.rr gx e' sz col e2 sz2 (some (0, r, g')) [row])) (hm:(xs.length+1) * ac<=140737488355328) (b0:xs.length+1<=maxLen) :
    Az P c o R h n (.own id n) ((id, some (.rr n e sz col e2 sz2 (some (xs.length, r, g')) (xs++[row])))::h) (n+1) := by
  intro hc z w T hH hn he K Q hK
  have m:z.H id=some (.rr g e sz col e2 sz2 none xs) := by rw[hH];exact hh
  have a0:z.H id'=some (.rr gx e' sz col e2 sz2 (some (0, r, g')) [row]) := by rw[hH];exact az
  obtain⟨bd, ⟨p1, p2, p3, p4⟩, ad, us, q1, a7, q3, q4⟩ := T.obj _ _ m
  obtain⟨_, ⟨_, _, _, b1⟩, a8, E, a1, F, b2, b3⟩ := T.obj _ _ a0
  have ah:∀ {i ge:Nat} {ob:AU} {v hd:Value}, z.H i=some ob->ob.gen=ge->Bh (z.β i) ob.shape.2.2 hd->AP z (.own i ge) v->v=hd := by
    intro i ge ob v hd A U J hv
    cases hv with
    | own _ _ hv =>
      have h4 := hv _ A U
      unfold Bh at J h4
      split at J<;>simp_all
  have hv:w.eval s=ad := ah m rfl q1 (hs.rep he hc)
  have hu:w.eval x=a8 := ah a0 rfl a1 (hx.rep he hc)
  obtain⟨b4, ii, zv, hi, ai, aj, hz, b5, _, h0⟩ := ht
  obtain⟨b', ak, be, al⟩:∃b cap, z.β id'=some (b, cap)/\a8=.slice (some ⟨b, 0, none⟩) 1 cap := by
    unfold Bh at a1
    split at a1
    · have := a1.1;simp at this
    · rename_i heq;exact⟨_, _, heq, a1⟩
  have an:row.length=sz := b1 row (zA.2 rfl)
  have ao:E.length=1 * sz := F.1
  have B:∀k, k<sz->∃u, E[k]?=some u/\u.oneCell'=true/\(k≠col->∀d, row[k]?=some d->A4 z.w z.S d u)/\(k=col->AP z (.own r g') u) := by
    intro k hk
    by_cases V:k=col
    · subst V
      obtain⟨u, M, ⟨r1, g1, O, k3⟩ | ⟨O, _⟩⟩ := b3 0 row rfl
      · cases O
        rw[zM, xd] at M
        exact⟨u, M, k3.one rfl, λh => absurd rfl h, λ_ => k3⟩
      · exact absurd rfl (O _ _)
    · obtain⟨u, M, O⟩ := b2 0 row k (row[k]'(by omega)) V rfl (wz _)
      rw[zM, xd] at M
      exact⟨u, M, O.one, λ_ d hd => by rw[wz (show k<row.length by omega)] at hd;cases hd;exact O, λh => absurd h V⟩
  have aq:∀u ∈ E, u.oneCell'=true := by
    intro u b6
    obtain⟨j, hj⟩ := yM.1 b6
    have bf := (wx.1 hj).1
    obtain⟨u2, M, O, _⟩ := B j (by omega)
    rw[hj] at M;cases M;exact O
  rw[al] at F
  obtain⟨v', w', ar, C, I, au⟩ := run_append_own_at (P := P) z.w 0 t o.type e ii zv sz ac b4 hi hz ai aj b5 h0 ad xs.length us a7 ⟨b', 0, none⟩ 1 ak E ao (F.cells (by rfl)) aq b0 hm (yL _)
  have a2 := au.2
  have b7 := C.lt
  have aa:Bh (HR v') (xs++[row]).length v' := by
    rw[xy]
    rcases C.2 with ⟨rfl, A⟩ | ⟨gg, cap, b8, rfl, _⟩
    · exact⟨A, rfl⟩
    · simp[Bh, HR]
  have av:∀b k, HR v'=some (b, k)->v'.ownBlock=some b := by
    intro b k X
    cases v' with
    | slice a l cp =>
      cases a with
      | none => cases X
      | some a => simp only[HR, xF, xM] at X;simp[Value.ownBlock, X.1]
    | _ => cases X
  have a6:∀b, ad.ownBlock=some b->∃k, z.β id=some (b, k) := by
    intro b Z
    unfold Bh at q1
    split at q1
    · rw[q1.2] at Z;cases Z
    · rename_i heq;rw[q1] at Z;simp only[Value.ownBlock, xF] at Z;subst Z;exact⟨_, heq⟩
  have aw := HB T id (.rr z.n e sz col e2 sz2 (some (xs.length, r, g')) (xs++[row])) w' (HR v') (z.K id) (z.n+1) I.size I.os I.tape I.output
    (λb b9 ba => I.block b b9 (λheq => by
      obtain⟨k, A⟩ := a6 b heq.symm
      exact ba _ m (.inl ⟨k, A⟩)))
    (λb k X => by
      have A := av b k X
      refine⟨(b7 b A).2, ?_⟩
      rcases a2 with U | U
      · rw[U] at A
        obtain⟨k', J⟩ := a6 b A
        exact .inr ⟨_, m, .inl ⟨k', J⟩⟩
      · rw[U] at A;cases A;exact .inl (wy _))
    (λj b k Z => by
      obtain⟨M, _, _, k4, k5⟩ := T.ext _ _ _ _ _ m Z
      refine⟨⟨xD M I.size, .inr ⟨_, m, .inr ⟨j, k, Z⟩⟩⟩, λk' h => ?_, λj' k' h => (k5 _ _ _ _ m h).2⟩
      have A := av b k' h
      rcases a2 with U | U
      · rw[U] at A
        obtain⟨O, J⟩ := a6 b A
        exact k4 _ _ _ m J
      · rw[U] at A;cases A;omega)
    (by omega) (by simp[AU.gen]) (λhg => absurd hg (by simp[AU.gen, AU.isCal])) (λhf => by cases hf)
    (λax => by
      have ae:∀b, z.S b->w'.heap[b]?=z.w.heap[b]? := λb Z => ax.blk b (.inl Z)
      have bb:∀j b c, z.K id j=some (b, c)->w'.heap[b]?=z.w.heap[b]? := λj b c Z => I.block b (T.ext _ _ _ _ _ m Z).1 λheq => by
        obtain⟨O, J⟩ := a6 b heq.symm
        exact(T.ext _ _ _ _ _ m Z).2.2.2.1 _ _ _ m J
      have bc := a7.1
      have ab:∀k, (us++E)[xs.length * sz+k]?=E[k]? := λk => by rw[xP (by omega), bc, zw]
      refine⟨⟨p1, p2, p3, λq hq => (yY.1 hq).elim (p4 q) λhq => by rw[zA.1 hq];exact an⟩, v', us++E, aa, by rw[xy];exact C, λi q k d V A U => ?_, λi q A => ?_⟩
      · by_cases af:i<xs.length
        · rw[xT af] at A
          obtain⟨u, J, h4⟩ := q3 i q k d V A U
          exact⟨u, by rw[xT ((wx.1 J).1)];exact J, h4.mono ae (λ_ h => h)⟩
        · have ag:i=xs.length := by have := (wx.1 A).1;simp at this;omega
          subst ag
          rw[xP (wy _), zW] at A
          simp at A;subst A
          obtain⟨u, M, _, O, _⟩ := B k (by rw[<- an];exact(wx.1 U).1)
          exact⟨u, by rw[ab];exact M, (O V d U).mono ae (λ_ h => h)⟩
      · by_cases af:i<xs.length
        · rw[xT af] at A
          obtain⟨u, J, ⟨_, _, h4, _⟩ | ⟨_, ys, h5, h6⟩⟩ := q4 i q A
          · cases h4
          · exact⟨u, by rw[xT ((wx.1 J).1)];exact J, .inr ⟨λ_ _ h => by simp at h;omega, ys, h5, h6.mono ae (λ_ h => h) (bb i)⟩⟩
        · have ag:i=xs.length := by have := (wx.1 A).1;simp at this;omega
          subst ag
          obtain⟨u, M, _, _, O⟩ := B col p2
          exact⟨u, by rw[ab];exact M, .inl ⟨r, g', rfl, (O rfl).mono ax⟩⟩)
  unfold Oper.wp execOp
  simp only[ho, resolve, invoke, builtin, Sem.run_bind, Sem.run_pure, Result.andThen_ok, WAE, xj, yd, hv, hu, al, ar]
  refine hK v' _ aw.1 aw.2 (by simp only[hH, hn];exact Ck _ _ _) (by simp[hn]) (.own (by simp[hn]) ?_ λo' ay _ => ?_)
  · rcases C.2 with ⟨rfl, _⟩ | ⟨gg, cap, b8, rfl, _⟩<;>rfl
  · simp only[ww] at ay ⊢
    cases ay
    simpa[AU.shape] using aa
theorem gV{t}{j}{s x}{id id' q r g'}{e'}{l w:List α}{v}(A:o.op=.call { callee := .builtin .append, args := #[s, x], argTypes := #[t, t] })(B:Ba P t e sz j)
 (C:Ev c R s (.own id g)) (E:hget h id=some (.rr g e sz col e2 sz2 none (l.map f))) (F:Ev c R x (.own id' q)) (m:hget h id'=some (.rr q e' sz col e2 sz2 (some ((0:Int).toNat, r, g')) ([v].map f))) (I:app j l [v]=some w) :
    Az P c o R h n (.own id n) ((id, some (.rr n e sz col e2 sz2 (some ((l.length:Int).toNat, r, g')) (w.map f)))::h) (n+1) := by
  obtain⟨J, M, rfl⟩ := Qo I
  have := kx (n := n) A B C E F m (by simpa using J) (by unfold maxLen;simpa using M)
  rw[xk] at this
  rw[yq, yo]
  exact this
theorem ci{j}{l m:List α}{v}(q:app j l [v]=some m):AO m (l.length:Int)=some v:=by
 obtain⟨_,_,rfl⟩:=Qo q
 unfold AO
 rw[ww (by omega),yo,xP (wy _),zW]
 rfl
end
def Qd(P:Program):Nat->List Field->List (Option Nat)->List (Option TypeDesc)->Prop
 | _,[],[],[]=>True
 | i, f :: l, none :: q, d :: j => (f.name == "_") = false /\ f.offset = i /\ P.underlying f.type = d /\ Qd P (i + 1) l q j
 | i, f :: l, some m :: q, j => (f.name == "_") = false /\ f.offset = i /\ BW P f.type m /\ m <= j.length /\ Fm P f.type (j.take m) /\ Qd P (i + m) l q (j.drop m)
 | _,_,_,_=>False
def NX(P:Program)(t:TypeId)(ds:List (Option TypeDesc)):Prop:=P.underlying t=some (.struct (P.fieldsOf t))/\P.stoodInHeld t=false/\P.eqGuardType P.depth t=false/\∃j,Qd P 0 (P.fieldsOf t).toList j ds
theorem dV:∀(k ks:List (Option TypeDesc)) (cs j:List AV) (r:Bool),CW (k++ks) cs j=some r->∃q w,CW k (cs.take k.length) (j.take k.length)=some q/\CW ks (cs.drop k.length) (j.drop k.length)=some w/\r=(q&&w)
 | [],ks,cs,j,r,h=>⟨true,r,by simp[CW],by simpa using h,by simp⟩
 | d::k,ks,cs,j,r,h=>by
  cases cs with
  | nil=>simp[CW] at h
  | cons a l=>
   cases j with
   | nil=>simp[CW] at h
   | cons b m=>
    simp only[yV,CW] at h
    split at h
    .rename_i x y A e2
     cases h
     obtain⟨q,w,B,C,rfl⟩:=dV k ks l m y e2
     refine⟨x&&q,w,?_,C,by rw[Bool.and_assoc]⟩
     simp only[xz,WAU,CW,A,B]
    .cases h
theorem V6:∀(k:List (Option TypeDesc)) (cs j:List AV) (r:Bool),CW k cs j=some r->cs.length=k.length/\j.length=k.length
 | [],cs,j,r,h=>by
  cases cs<;>cases j<;>simp[CW] at h ⊢
 | d::k,cs,j,r,h=>by
  cases cs with
  | nil=>simp[CW] at h
  | cons a l=>
   cases j with
   | nil=>simp[CW] at h
   | cons b m=>
    simp only[CW] at h
    split at h
    .rename_i x y q e2
     have:=V6 k l m y e2
     exact⟨by simp[this.1],by simp[this.2]⟩
    .cases h
theorem VZ{P}{x}{d}{us vs:Array Value} w:∀(J:List Field) (M:List (Option Nat)) (ds:List (Option TypeDesc)) (i:Nat) (cs E:List AV) (r:Bool),Qd P i J M ds->cs.length+i=us.size->E.length+i=vs.size ->
  (∀(j:Nat) (c:AV) (u:Value),cs[j]?=some c->us[i+j]?=some u->AP x c u)->(∀(j:Nat) (c:AV) (u:Value),E[j]?=some c->vs[i+j]?=some u->AP x c u) ->
  CW ds cs E=some r->(Op.eqFields (d+2) us vs J).run P w=.ok r w
 | [],M,ds,i,cs,E,r,I,Z,hm,O,T,C=>by
  cases M with
  | cons _ _=>exact I.elim
  | nil=>
   cases ds with
   | cons _ _=>exact I.elim
   | nil=>
    unfold CW at C
    split at C
    .cases C;simp[Op.eqFields]
    .rename_i h;cases h
    .cases C
 | f::J,[],ds,i,cs,E,r,I,Z,hm,O,T,C=>by cases ds<;>exact I.elim
 | f::J,none::M,ds,i,cs,E,r,I,Z,hm,O,T,C=>by
  cases ds with
  | nil=>exact I.elim
  | cons dd ds=>
   obtain⟨h1,h2,h3,h4⟩:=I
   cases cs with
   | nil=>simp[CW] at C
   | cons a l=>
    cases E with
    | nil=>simp[CW] at C
    | cons b m=>
     simp only[CW] at C
     split at C
     .rename_i xb yb X e2
      cases C
      have a0:i<us.size:=by simp at Z;omega
      have a1:i<vs.size:=by simp at hm;omega
      have ra:=O 0 a us[i] rfl (by simp)
      have rb:=T 0 b vs[i] rfl (by simp)
      subst h3
      obtain⟨k1,e,k2,k3⟩:=aA (d:=d+1) ra rb X w
      have a2:(part f.type us f.offset).run P w=.ok us[i] w:=by
       rw[h2];simp[part,IV k2,k3,xe a0]
      have a6:(part f.type vs f.offset).run P w=.ok vs[i] w:=by
       rw[h2];simp[part,IV k2,k3,xe a1]
      have ih:=VZ (d:=d) (x:=x) (us:=us) (vs:=vs) w J M ds (i+1) l m yb h4 (by simp at Z;omega) (by simp at hm;omega)
       (λj c u A B=>O (j+1) c u (by simpa using A) (by rw[<- B,show i+1+j=i+(j+1) by omega])) (λj c u A B=>T (j+1) c u (by simpa using A) (by rw[<- B,show i+1+j=i+(j+1) by omega])) e2
      have U : f.name ≠ "_" := by intro h; rw [h] at h1; simp at h1
      simp only[Op.eqFields,ww U,Sem.run_bind,a2,a6,Result.andThen_ok,k1]
      cases xb
      .simp
      .simpa using ih
     .cases C
 | f::J,some q::M,ds,i,cs,E,r,I,Z,hm,O,T,C=>by
  obtain⟨h1,h2,⟨_,ii,_,_,h5,h6⟩,h8,⟨h3,a7,_,h7⟩,h4⟩:=I
  have aa:=V6 ds cs E r C
  rw[<- List.take_append_drop q ds] at C
  obtain⟨r1,r2,X,e2,rfl⟩:=dV _ _ _ _ _ C
  have hq:q<=ds.length\/ds.length<q:=by omega
  have a8:=V6 _ _ _ _ X
  rw[yZ] at X e2 a8
  have ab:min q ds.length<=cs.length:=by omega
  have U : f.name ≠ "_" := by intro h; rw [h] at h1; simp at h1
  by_cases V:ds.length<q
  .exact absurd V (by omega)
  have V:q<=ds.length:=by omega
  rw[Nat.min_eq_left V] at X e2
  have F:∀(ws:Array Value),ws.size=us.size\/ws.size=vs.size->(part f.type ws f.offset).run P w=.ok (.agg (ws.extract i (i+q))) w:=λws _=>by
   rw[h2];simp[part,IV h3,H3,DY h5,h6]
  have k1:(Op.equalIn (d+2) f.type (.agg (us.extract i (i+q))) (.agg (vs.extract i (i+q)))).run P w=.ok r1 w:=by
   rw[run_equalIn_agg w (d+1) f.type _ _ h3 a7]
   refine WU (d:=d) (x:=x) w _ _ 0 (cs.take q) (E.take q) r1 h7 ?_ ?_ (λj c u A B=>?_) (λj c u A B=>?_) X
   .rw[yZ,Array.size_extract];omega
   .rw[yZ,Array.size_extract];omega
   .rw[xn] at A
    split at A
    .rw[xd,z7] at B
     split at B
     .exact O j c u A B
     .cases B
    .cases A
   .rw[xn] at A
    split at A
    .rw[xd,z7] at B
     split at B
     .exact T j c u A B
     .cases B
    .cases A
  have ih:=VZ (d:=d) (x:=x) (us:=us) (vs:=vs) w J M (ds.drop q) (i+q) (cs.drop q) (E.drop q) r2 h4 (by rw[WAc];omega) (by rw[WAc];omega)
   (λj c u A B=>O (q+j) c u (by rw[xr] at A;exact A) (by rw[<- B,yz])) (λj c u A B=>T (q+j) c u (by rw[xr] at A;exact A) (by rw[<- B,yz])) e2
  simp only[Op.eqFields,ww U,Sem.run_bind,F us (.inl rfl),F vs (.inr rfl),Result.andThen_ok,k1]
  cases r1
  .simp
  .simpa using ih
section
variable{P:Program}{c:Bool}{o:Oper}{R:Aa}{h:AL}
theorem NX.of{t}{j:Array Field}{ds}(l:List (Option Nat))(m:P.underlying t=some (.struct j))(q:P.stoodInHeld t=false)(w:P.eqGuardType P.depth t=false)(A:Qd P 0 j.toList l ds):NX P t ds:=by
 have:P.fieldsOf t=j:=by unfold Program.fieldsOf;rw[m]
 exact⟨by rw[this];exact m,q,w,l,by rw[this];exact A⟩
theorem tr{t}{x y}{cs ds}{q}{r}{z}{a:Act}(F:NX P t q)(C:AP z (.agg cs) (a.eval x))(E:AP z (.agg ds) (a.eval y))(I:CW q cs ds=some r) :
  ∃us vs,a.eval x=.agg us/\a.eval y=.agg vs/\∀w,(Op.equalIn 10000 t (.agg us) (.agg vs)).run P w=.ok r w:=by
 generalize a.eval x=u at C
 generalize a.eval y=v at E
 cases C with
 | @agg _ us J l=>
  cases E with
  | @agg _ vs M m=>
   obtain⟨O,T,_,U,V⟩:=F
   refine⟨us,vs,rfl,rfl,λw=>?_⟩
   rw[run_equalIn_agg w 9999 t us vs O T]
   exact VZ (x:=z) w _ U q 0 cs ds r V J M (λj b u A B=>l j b u A (by simpa using B)) (λj b u A B=>m j b u A (by simpa using B)) I
theorem mn{t w}{x y}{cs ds}{l}{r}(A:o.op=.binOp .neq t x y w)(m:NX P t l)(B:Ev c R x (.agg cs))(C:Ev c R y (.agg ds))(E:CW l cs ds=some r):AS P c o R h (.r (.bool (!r))):=by
 intro q z a _ _ j
 obtain⟨F,I,J,M,O⟩:=tr m (B.rep j q) (C.rep j q) E
 refine⟨.bool (!r),λT _=>?_,.r (.bool _)⟩
 unfold execOp
 rw[A]
 simp only[J,M]
 simp[run_eqGuard_agg T .neq t x y F I m.2.2.1,run_neq_struct,O]
end
end Go.Proofs.YtcgleifameckmaaGreatDoor.Al

set_option linter.unusedVariables false
namespace Go.Proofs.YtcgleifameckmaaGreatDoor.Al
def HM(P:Program)(t:TypeId):Option (Option Value × Nat × Nat):=(P.info? t).map λi=>(i.zero,i.size,i.bytes)
def Ll(P:Program)(t:TypeId):Bool:=match P.underlying t,HM P t with
 | some d,some (some _,sz,_)=>H3 d&&Nat.beq sz 1
 | _,_=>false
def KX(P:Program)(t:TypeId):Option Nat:=match P.underlying t,HM P t with
 | some d,some (some _,sz,_)=>if H3 d then none else some sz
 | _,_=>none
def Uo(P:Program)(t:TypeId):Option Nat:=match HM P t with
 | some (some _,sz,_)=>some sz
 | _=>none
def Q7(P:Program)(t:TypeId):Option Value:=match HM P t with
 | some (some z,_,_)=>some z
 | _=>none
def IB(P:Program)(t:TypeId):Option (TypeId × Nat × Nat):=match P.underlying t with
 | some (.slice e)=>match HM P e with
  | some (some z,sz,b)=>if z.cells.size=sz/\z.cells.toList.all Value.oneCell'=true/\0<sz then some (e,sz,b) else none
  | _=>none
 | _=>none
def Vl(P:Program)(t:TypeId)(f:Nat):Option Nat:=match P.underlying t with
 | some (.struct l)=>match l[f]? with
  | some j=>match HM P j.type with
   | some (some _,sz,_)=>if sz=0 then none else some j.offset
   | _=>none
  | none=>none
 | _=>none
section
variable{P:Program}{t:TypeId}
theorem PG(h:Ll P t=true):BH P t:=by
 unfold Ll at h
 split at h
 .rename_i d z sz b j l
  simp only[xE] at h
  have:=xR h.2
  subst this
  exact BH.of j h.1 l
 .cases h
theorem PA{sz}(h:KX P t=some sz):BW P t sz:=by
 unfold KX at h
 split at h
 .rename_i d z j b l m
  split at h
  .cases h
  .rename_i q;cases h
   exact BW.of l (by simpa using q) m
 .cases h
theorem gi{sz}(h:Uo P t=some sz):∃i,P.info? t=some i/\i.size=sz:=by
 unfold Uo at h
 split at h
 .rename_i z j b l;cases h;exact Co l
 .cases h
theorem eC{z}(h:Q7 P t=some z):Cj P t z:=by
 unfold Q7 at h
 split at h
 .rename_i m j b l;cases h;exact Cj.of l
 .cases h
theorem Iu{e}{sz b}(h:IB P t=some (e,sz,b)):Ba P t e sz b:=by
 unfold IB at h
 split at h
 .rename_i w l
  split at h
  .rename_i z m A q
   split at h
   .rename_i j;cases h;exact Ba.of l q j.1 j.2.1 j.2.2
   .cases h
  .cases h
 .cases h
theorem ZJ{f off}(h:Vl P t f=some off):An P t f off:=by
 unfold Vl at h
 split at h
 .rename_i w j
  split at h
  .rename_i A l
   split at h
   .rename_i z sz b m
    split at h
    .cases h
    .rename_i q;cases h;exact An.of j l rfl m q
   .cases h
  .cases h
 .cases h
end
def pq:List UInt8->UInt8->Int->Int
 | [],_,_=>-1
 | b::l,c,k=>match b==c with
  | true=>k
  | false=>pq l c (k+1)
section
variable{P:Program}{c:Bool}{o:Oper}{R:Aa}{h:AL}
end
def A5(R:Aa)(x:Operand):AV:=match BE R x with
 | .whn true v=>v
 | v=>v
theorem Bf c R x:Ev c R x (A5 R x):=by
 unfold A5 Ev
 split
 .rename_i v h;exact .inr ⟨true,λ_=>rfl,h⟩
 .exact .inl rfl
section
variable{P:Program}{c:Bool}{o:Oper}{R:Aa}{h:AL}
def W8(P:Program)(op:BinOp)(t:TypeId):AV->AV->Option AV
 | .r (.int k m),.r (.int j n)=>if k=j then match op with
   | .add=>some (.r (.int k (k.wrap (m+n))))
   | .sub=>some (.r (.int k (k.wrap (m-n))))
   | .mul=>if k.wrap (m * n)=m * n then some (.r (.int k (m * n))) else none
   | .quo=>if n≠0/\k.wrap (m.tdiv n)=m.tdiv n then some (.r (.int k (m.tdiv n))) else none
   | .rem=>if n≠0 then some (.r (.int k (m.tmod n))) else none
   | .eql=>some (.r (.bool (decide (m=n))))
   | .neq=>some (.r (.bool (!(m=n))))
   | .lss=>some (.r (.bool (decide (m<n))))
   | .leq=>some (.r (.bool (decide (m<=n))))
   | .gtr=>some (.r (.bool (decide (n<m))))
   | .geq=>some (.r (.bool (decide (n<=m))))
   | _=>none
  else none
 | .r (.str a),.r (.str b)=>match op with
   | .eql=>some (.r (.bool (decide (a=b))))
   | .neq=>some (.r (.bool (!(a=b))))
   | .lss=>some (.r (.bool (Ay a b)))
   | .geq=>some (.r (.bool (!Ay a b)))
   | .leq=>some (.r (.bool (Ay a b||(a=b))))
   | .gtr=>some (.r (.bool (!(Ay a b||(a=b)))))
   | .add=>if a.length+b.length<=9223372036854775807 then some (.r (.str (a++b))) else none
   | _=>none
 | .r (.bool m),.r (.bool n)=>match P.underlying t with
   | some .bool=>match op with
    | .eql=>some (.r (.bool (m==n)))
    | .neq=>some (.r (.bool (!(m==n))))
    | _=>none
   | _=>none
 | _,_=>none
theorem jO{op}{t B}{x y}{a b v}(l:o.op=.binOp op t x y B)(m:Ev c R x a)(q:Ev c R y b)(j:W8 P op t a b=some v):AS P c o R h v := by
  unfold W8 at j
  split at j
  · split at j
    · rename_i C;subst C
      cases op<;>dsimp only at j<;>first
        | (cases j;first | exact rN l m q | exact X5 l m q | exact BB l m q | exact Cm l m q | exact B6 l m q | exact FA l m q | exact Bd l m q | exact DE l m q)
        | (split at j
           · rename_i w;cases j;first | exact dM l m q w | exact aV l m q w.1 w.2 | exact gk l m q w
           · cases j)
        | (cases j;done)
    · cases j
  · cases op<;>dsimp only at j<;>first
      | (cases j;first | exact EM l m q | exact D7 l m q | exact Nr l m q | exact U6 l m q | exact ZL l m q | exact ZW l m q)
      | (split at j
         · rename_i w;cases j;exact gR l m q w
         · cases j)
      | (cases j;done)
  · split at j
    · rename_i A
      cases op<;>dsimp only at j<;>first
        | (cases j;first | exact cB l A m q | exact W2 l A m q)
        | (cases j;done)
    · cases j
  · cases j
def Ts:Nat->List Field->Bool
 | _,[]=>true
 | i, f :: j => (!(f.name == "_") && Nat.beq f.offset i) && Ts (i + 1) j
def Wo(P:Program)(t:TypeId):Option (List (Option TypeDesc)):=match P.underlying t with
 | some (.struct j)=>if(P.stoodInHeld t=false/\P.eqGuardType P.depth t=false)/\Ts 0 j.toList=true then some (j.toList.map λf=>P.underlying f.type) else none
 | _=>none
theorem cC:∀ {j:List Field} {i:Nat},Ts i j=true->PI P i j (j.map λf=>P.underlying f.type)
 | [],_,_=>trivial
 | f::j,i,h=>by
  simp only[Ts,xE,yc] at h
  exact⟨h.1.1,xR h.1.2,rfl,cC h.2⟩
theorem aB{t}{l}(h:Wo P t=some l):Fm P t l:=by
 unfold Wo at h
 split at h
 .rename_i q m
  split at h
  .rename_i j;cases h;exact Fm.of m j.1.1 j.1.2 (cC j.2)
  .cases h
 .cases h
def WR(P:Program)(op:BinOp)(t:TypeId):AV->AV->Option AV
 | .agg j,.agg l=>match Wo P t with
  | some m=>match CW m j l with
   | some r=>match op with
    | .eql=>some (.r (.bool r))
    | .neq=>some (.r (.bool (!r)))
    | _=>none
   | none=>none
  | none=>none
 | _,_=>none
theorem rE{op}{t B}{x y}{a b v}(l:o.op=.binOp op t x y B)(m:Ev c R x a)(q:Ev c R y b)(j:WR P op t a b=some v):AS P c o R h v:=by
 unfold WR at j
 split at j
 .split at j
  .rename_i C w
   split at j
   .rename_i r A
    split at j
    .cases j;exact od l (aB w) m q A
    .cases j;exact U8 l (aB w) m q A
    .cases j
   .cases j
  .cases j
 .cases j
def UK(op:BinOp):AV->AV->Option AV
 | .r (.int k m),.r (.int _ n)=>if 0<=n then match op with
   | .shl=>some (.r (.int k (Di k m n.toNat)))
   | .shr=>some (.r (.int k (Fh k m n.toNat)))
   | _=>none
  else none
 | _,_=>none
def XM(op:BinOp):AV->AV->Option AV
 | .r (.int k m),.r (.int j n)=>if k=j then match op with
   | .and=>some (.r (.int k (CR k m n)))
   | .or=>some (.r (.int k (EJ k m n)))
   | .xor=>some (.r (.int k (XH k m n)))
   | .andNot=>some (.r (.int k (Pa k m n)))
   | _=>none
  else none
 | _,_=>none
theorem sC{op}{t w}{x y}{a b v}(l:o.op=.binOp op t x y w)(m:Ev c R x a)(q:Ev c R y b)(j:XM op a b=some v):AS P c o R h v:=by
 unfold XM at j
 split at j
 .split at j
  .rename_i A;subst A
   split at j
   .cases j;exact GV l m q
   .cases j;exact KI l m q
   .cases j;exact lw l m q
   .cases j;exact gM l m q
   .cases j
  .cases j
 .cases j
theorem nv{op}{t w}{x y}{a b v}(m:o.op=.binOp op t x y w)(q:Ev c R x a)(l:Ev c R y b)(j:UK op a b=some v):AS P c o R h v:=by
 unfold UK at j
 split at j
 .split at j
  .rename_i A
   rw[<- Int.toNat_of_nonneg A] at l
   split at j
   .cases j;exact KM m q l
   .cases j;exact SQ m q l
   .cases j
  .cases j
 .cases j
def wu:AV->Option Bool
 | .r (.bool b)=>some b
 | .whn _ (.r (.bool b))=>some b
 | _=>none
def Wd(R:Aa)(x y z:Operand):Option AV:=
 match A5 R x with
 | .r (.bool a)=>
  match z with
  | .const (.bool false)=>match a,BE R y with
   | true,.r (.bool b)=>some (.r (.bool b))
   | true,.whn true (.r (.bool b))=>some (.r (.bool b))
   | false,.r (.bool _)=>some (.r (.bool false))
   | false,.whn _ (.r (.bool _))=>some (.r (.bool false))
   | _,_=>none
  | _=>match y with
   | .const (.bool true)=>match a,BE R z with
    | false,.r (.bool b)=>some (.r (.bool b))
    | false,.whn true (.r (.bool b))=>some (.r (.bool b))
    | true,.r (.bool _)=>some (.r (.bool true))
    | true,.whn _ (.r (.bool _))=>some (.r (.bool true))
    | _,_=>none
   | _=>none
 | _=>none
theorem pL{x y z}{v}(q:o.op=.pick x y z)(j:Wd R x y z=some v):AS P c o R h v:=by
 unfold Wd at j
 have m:=Bf c R x
 split at j
 .rename_i a A
  rw[A] at m
  split at j
  .split at j
   .rename_i b l;cases j;exact BZ (a:=true) (b:=b) q m (.inl l)
   .rename_i b l;cases j;exact BZ (a:=true) (b:=b) q m (.inr ⟨true,λ_=>rfl,l⟩)
   .rename_i b l;cases j;exact BZ (a:=false) (b:=b) q m (.inl l)
   .rename_i w b l;cases j;exact BZ (a:=false) (b:=b) q m (.inr ⟨w,λe=>by simp at e,l⟩)
   .cases j
  .split at j
   .split at j
    .rename_i b l;cases j;exact CS (a:=false) (b:=b) q m (.inl l)
    .rename_i b l;cases j;exact CS (a:=false) (b:=b) q m (.inr ⟨true,λ_=>rfl,l⟩)
    .rename_i b l;cases j;exact CS (a:=true) (b:=b) q m (.inl l)
    .rename_i w b l;cases j;exact CS (a:=true) (b:=b) q m (.inr ⟨w,λe=>by simp at e,l⟩)
    .cases j
   .cases j
 .cases j
def WT(P:Program)(t:TypeId)(h:AL):AV->Option AV
 | .rop row k=>match Ll P t with
  | true=>match row[k]? with
   | some d=>some (.r d)
   | none=>none
  | false=>match KX P t with
   | some sz=>if k=0/\row.length=sz then some (.agg (row.map .r)) else none
   | none=>none
 | .ptr id g i k=>match hget h id with
  | some (.box j e l)=>if g=j/\i=0 then match Ll P t with
    | true=>l[k]?
    | false=>match KX P t with
     | some sz=>if((l.drop k).take sz).length=sz then some (.agg ((l.drop k).take sz)) else none
     | none=>none
   else none
  | some (.arr j e sz xs)=>if g=j then match xs[i]? with
    | some row=>match Ll P t with
     | true=>match row[k]? with
      | some d=>some (.r d)
      | none=>none
     | false=>match KX P t with
      | some m=>if k=0/\m=sz then some (.agg (row.map .r)) else none
      | none=>none
    | none=>none
   else none
  | _=>none
 | _=>none
theorem jQ{t}{x}{a v}(q:o.op=.load t x)(w:Ev c R x a)(j:WT P t h a=some v):AS P c o R h v:=by
 unfold WT at j
 split at j
 .split at j
  .rename_i l
   split at j
   .rename_i d hd;cases j;exact YE q (PG l) w (λ_=>hd)
   .cases j
  .split at j
   .rename_i sz l
    split at j
    .rename_i A;obtain⟨rfl,B⟩:=A;cases j;exact bO q (PA l) w B
    .cases j
   .cases j
 .split at j
  .rename_i C
   split at j
   .rename_i A;obtain⟨rfl,rfl⟩:=A
    split at j
    .rename_i l;exact ZU q (PG l) w (λ_=>C) (λ_=>j)
    .split at j
     .rename_i sz l
      split at j
      .rename_i B;cases j;exact eV q (PA l) w (λ_=>C) rfl B
      .cases j
     .cases j
   .cases j
  .rename_i C
   split at j
   .rename_i A;subst A
    split at j
    .rename_i row m
     split at j
     .rename_i l
      split at j
      .rename_i d hd;cases j;exact gU q (PG l) w (λ_=>C) (λ_=>m) (λ_=>hd)
      .cases j
     .split at j
      .rename_i E l
       split at j
       .rename_i B;obtain⟨rfl,rfl⟩:=B;cases j;exact fM q (PA l) w (λ_=>C) (λ_=>m)
       .cases j
      .cases j
    .cases j
   .cases j
  .cases j
 .cases j
def S2(h:AL)(id g:Nat):Bool:=match hget h id with
 | some j=>Nat.beq j.gen g
 | none=>false
theorem ZI{id g}(hp:S2 h id g=true):∃ob,hget h id=some ob/\ob.gen=g:=by
 unfold S2 at hp
 split at hp
 .rename_i ob j;exact⟨ob,j,xR hp⟩
 .cases hp
def Vp(h:AL):AV->Option AV
 | .rop row k=>some (.rop row k)
 | .ptr id g i k=>if S2 h id g=true then some (.ptr id g i k) else none
 | _=>none
theorem s4{x}{a v}(l:o.op=.nilCheck x)(m:Ev c R x a)(j:Vp h a=some v):AS P c o R h v:=by
 unfold Vp at j
 split at j
 .cases j;exact j9 l m
 .split at j
  .rename_i hp;cases j
   obtain⟨A,q,w⟩:=ZI hp
   exact Ku l m (λ_=>q) w
  .cases j
 .cases j
def WX(P:Program)(t:TypeId)(f:Nat)(h:AL)(a:AV):Option AV:=match Vl P t f with
 | some off=>match a with
  | .rop row k=>some (.rop row (k+off))
  | .ptr id g i k=>if S2 h id g=true then some (.ptr id g i (k+off)) else none
  | _=>none
 | none=>none
theorem qZ{t}{x}{f}{a v}(l:o.op=.fieldAddr t x f)(m:Ev c R x a)(j:WX P t f h a=some v):AS P c o R h v:=by
 unfold WX at j
 split at j
 .rename_i off q
  split at j
  .cases j;exact BL l (ZJ q) m
  .split at j
   .rename_i hp;cases j
    obtain⟨B,w,A⟩:=ZI hp
    exact CO l (ZJ q) m (λ_=>w) A
   .cases j
  .cases j
 .cases j
def Ub(P:Program)(t:TypeId)(h:AL)(a i:AV):Option AV:=match IB P t with
 | some (_,sz,_)=>match i with
  | .r (.int _ n)=>if 0<=n then match a with
    | .r (.sl xs)=>match xs[n.toNat]? with
     | some row=>if row.length=sz then some (.rop row 0) else none
     | none=>none
    | .own id g=>match hget h id with
     | some (.arr l _ j xs)=>if(l=g/\j=sz)/\n<xs.length then some (.ptr id g n.toNat 0) else none
     | _=>none
    | _=>none
   else none
  | _=>none
 | none=>none
theorem um{t}{x i}{a b v}(m:o.op=.indexAddr t x i)(q:Ev c R x a)(w:Ev c R i b)(j:Ub P t h a b=some v):AS P c o R h v:=by
 unfold Ub at j
 split at j
 .rename_i e sz C hg
  have A:=(Iu hg).slice
  split at j
  .split at j
   .rename_i B
    split at j
    .split at j
     .rename_i row l
      split at j
      .rename_i E;cases j;exact eU m A q w (λ_=>B) (λ_=>l) E
      .cases j
     .cases j
    .split at j
     .rename_i F
      split at j
      .rename_i I;obtain⟨⟨rfl,rfl⟩,J⟩:=I;cases j
       exact fS m A q F w (λ_=>B) (λ_=>J)
      .cases j
     .cases j
    .cases j
   .cases j
  .cases j
 .cases j
def Vc(P:Program)(t:TypeId)(a i:AV):Option AV:=match P.underlying t with
 | some .string=>match a,i with
  | .r (.str s),.r (.int _ n)=>if 0<=n then match s[n.toNat]? with
    | some j=>some (.r (.int .u8 j.toNat))
    | none=>none
   else none
  | _,_=>none
 | _=>none
theorem tB{t}{x i}{a b v}(l:o.op=.index t x i)(m:Ev c R x a)(q:Ev c R i b)(j:Vc P t a b=some v):AS P c o R h v:=by
 unfold Vc at j
 split at j
 .rename_i w
  split at j
  .split at j
   .rename_i A
    split at j
    .rename_i C B;cases j;exact Xj l w m q (λ_=>A) (λ_=>B)
    .cases j
   .cases j
  .cases j
 .cases j
def XP(P:Program)(t:TypeId)(h:AL):AV->Option AV
 | .r (.str s)=>match P.underlying t with
  | some .string=>some (.r (.int .i64 s.length))
  | _=>none
 | .r (.sl xs)=>match IB P t with
  | some _=>some (.r (.int .i64 xs.length))
  | none=>none
 | .own id g=>match IB P t,hget h id with
  | some _,some (.arr j _ _ xs)=>if j=g then some (.r (.int .i64 xs.length)) else none
  | _,_=>none
 | .cst (.slice none 0 0)=>match IB P t with
  | some _=>some (.r (.int .i64 0))
  | none=>none
 | _=>none
theorem sV{t}{x}{a v}(l:o.op=.call { callee:=.builtin .len,args:=#[x],argTypes:=#[t] })(m:Ev c R x a)(j:XP P t h a=some v):AS P c o R h v:=by
 unfold XP at j
 split at j
 .split at j
  .rename_i w;cases j;exact Df l w m
  .cases j
 .split at j
  .rename_i q hg;obtain⟨e,sz,b⟩:=q;cases j;exact am l (Iu hg).slice m
  .cases j
 .split at j
  .rename_i q E F A xs hg B
   obtain⟨e,sz,b⟩:=q
   split at j
   .rename_i C;subst C;cases j;exact gc l (Iu hg).slice m B
   .cases j
  .cases j
 .split at j
  .rename_i q hg;obtain⟨e,sz,b⟩:=q;cases j;exact oT l (Iu hg).slice m
  .cases j
 .cases j
def VE(P:Program)(t l:TypeId):AV->Option AV
 | .r (.int _ n)=>match P.underlying t,P.underlying l with
  | some _,some (.int j)=>some (.r (.int j (j.wrap n)))
  | _,_=>none
 | _=>none
theorem vW{t l}{x}{a v}(m:o.op=.convert t l x)(q:Ev c R x a)(j:VE P t l a=some v):AS P c o R h v:=by
 unfold VE at j
 split at j
 .split at j
  .rename_i d B w A;cases j;exact D3 m w A q
  .cases j
 .cases j
end
section
variable{P:Program}{c:Bool}{o:Oper}{R:Aa}{h:AL}
def Rq(R:Aa)(j:Nat):Option Operand->Option Nat
 | none=>some j
 | some x=>match A5 R x with
  | .r (.int _ z)=>if 0<=z then some z.toNat else none
  | _=>none
theorem dD{d m}{x}(j:Rq R d x=some m):OM c R d x m:=by
 unfold Rq at j
 split at j
 .cases j;rfl
 .rename_i x
  have l:=Bf c R x
  split at j
  .rename_i k z q
   rw[q] at l
   split at j
   .rename_i w;cases j;exact⟨k,z,l,λ_=>w,rfl⟩
   .cases j
  .cases j
def R6(R:Aa)(j:Int):Option Operand->Option Int
 | none=>some j
 | some x=>match A5 R x with
  | .r (.int _ z)=>some z
  | _=>none
theorem gD{d m}{x}(j:R6 R d x=some m):Hx c R d x m:=by
 unfold R6 at j
 split at j
 .cases j;rfl
 .rename_i x
  have l:=Bf c R x
  split at j
  .rename_i k z q;rw[q] at l;cases j;exact⟨k,l⟩
  .cases j
def Vd(P:Program)(R:Aa)(t:TypeId)(j q:Option Operand):AV->Option AV
 | .r (.sl xs)=>match IB P t with
  | some (_,sz,_)=>match Rq R 0 j,Rq R xs.length q with
   | some l,some m=>if(l<=m/\m<=xs.length)/\(xs.all λrow=>Nat.beq row.length sz)=true then some (.r (.sl ((xs.drop l).take (m-l)))) else none
   | _,_=>none
  | none=>none
 | .r (.str s)=>match P.underlying t with
  | some .string=>match R6 R 0 j,R6 R s.length q with
   | some l,some m=>match Dl s l m with
    | some r=>some (.r (.str r))
    | none=>none
   | _,_=>none
  | _=>none
 | _=>none
theorem np{t}{x}{C E}{a v}(F:o.op=.slice t x C E none)(I:Ev c R x a)(j:Vd P R t C E a=some v):AS P c o R h v:=by
 unfold Vd at j
 split at j
 .split at j
  .rename_i e sz b hg
   split at j
   .rename_i l m w A
    split at j
    .rename_i B
     cases j
     exact eP F (Iu hg).slice I (dD w) (dD A) (λ_=>B.1.1) (λ_=>B.1.2) (λrow q=>xR (xf.1 B.2 row q))
    .cases j
   .cases j
  .cases j
 .split at j
  .rename_i J
   split at j
   .rename_i l m w A
    split at j
    .rename_i r M;cases j;exact fp F J I (gD w) (gD A) (λ_=>M)
    .cases j
   .cases j
  .cases j
 .cases j
theorem Nk c R:∀xs:List Operand,HT c R xs (xs.map (A5 R))
 | []=>trivial
 | x::xs=>⟨Bf c R x,Nk c R xs⟩
def Tf(P:Program):List Field->Option (List (Nat × Nat))
 | []=>some []
 | f::j=>match HM P f.type,Tf P j with
  | some (_,sz,_),some r=>some ((f.offset,sz)::r)
  | _,_=>none
def Wm(P:Program)(t:TypeId):Option (List (Nat × Nat) × List Value):=match P.underlying t with
 | some (.struct j)=>match Tf P j.toList,HM P t with
  | some pl,some (some (.agg l),_,_)=>some (pl,l.toList)
  | _,_=>none
 | _=>none
theorem YN:∀ {m:List Field} {pl:List (Nat × Nat)},Tf P m=some pl->∀w,(m.mapM (m:=Sem) λf=>do pure (f.offset,<- sizeOf f.type)).run P w=.ok pl w
 | [],pl,hp,w=>by cases hp;rfl
 | f::m,pl,hp,w=>by
  unfold Tf at hp
  split at hp
  .rename_i C sz b r j q
   cases hp
   have A:=YN q w
   obtain⟨i,l,B⟩:∃i,P.info? f.type=some i/\i.size=sz:=by
    unfold HM at j
    cases l:P.info? f.type with
    | none=>rw[l] at j;cases j
    | some i=>rw[l] at j;simp only[yF,xF,xM] at j;exact⟨i,rfl,j.2.1⟩
   rw[List.mapM_cons]
   simp only[Sem.run_bind,DY l,Result.andThen_ok,A,Sem.run_pure,B]
  .cases hp
theorem jD{t}{pl}{l}(j:Wm P t=some (pl,l)):Cn P t pl l:=by
 unfold Wm at j
 split at j
 .rename_i E m
  split at j
  .rename_i q A sz b B C
   cases j
   refine Cn.of m (λw=>?_) (sz:=sz) (b:=b) (by simpa[HM] using C)
   rw[Array.mapM_eq_mapM_toList]
   have:=YN B w
   simp only[Sem.run_map,this]
   rfl
  .cases j
 .cases j
def RF(R:Aa)(j:List (Nat × Nat))(len:Nat):List (Nat × Operand)->Option (List (Nat × AV))
 | []=>some []
 | (i,x)::r=>match j[i]?,RF R j len r with
  | some (off,sz),some q=>if(sz=(BQ (A5 R x)).length/\Nat.ble (off+(BQ (A5 R x)).length) len=true)/\(BQ (A5 R x)).all AV.one=true then some ((off,A5 R x)::q) else none
  | _,_=>none
theorem bC{j}{len} : ∀ {ps:List (Nat × Operand)} {q:List (Nat × AV)},RF R j len ps=some q->Ss c R j len ps q
 | [],q,hp=>by cases hp;trivial
 | (i,x)::r,q,hp=>by
  unfold RF at hp
  split at hp
  .rename_i off sz A m w
   split at hp
   .rename_i l;cases hp
    exact⟨by rw[m,l.1.1],l.1.2,l.2,Bf c R x,bC w⟩
   .cases hp
  .cases hp
def VW(P:Program)(R:Aa)(t:TypeId)(ps:List (Nat × Operand)):Option AV:=match Wm P t with
 | some (pl,j)=>match RF R pl j.length ps with
  | some q=>some (.agg (O7 (j.map LA) q))
  | none=>none
 | none=>none
theorem pZ{t}{parts:Array (Nat × Operand)}{v}(l:o.op=.build t parts)(j:VW P R t parts.toList=some v):AS P c o R h v:=by
 unfold VW at j
 split at j
 .rename_i pl A m
  split at j
  .rename_i q w;cases j;exact Ch l (jD m) (bC w) rfl
  .cases j
 .cases j
def V3(P:Program)(R:Aa)(h:AL):Call->Option AV
 | ⟨.builtin .len,⟨[x]⟩,⟨[t]⟩⟩=>XP P t h (A5 R x)
 | ⟨.builtin .min,⟨[x,y]⟩,_⟩=>match A5 R x,A5 R y with
  | .r (.int k m),.r (.int j n)=>if k=j then some (.r (.int k (min m n))) else none
  | _,_=>none
 | ⟨.builtin .max,⟨[x,y]⟩,_⟩=>match A5 R x,A5 R y with
  | .r (.int k m),.r (.int j n)=>if k=j then some (.r (.int k (max m n))) else none
  | _,_=>none
 | _=>none
theorem lN{F}{v}(w:o.op=.call F)(j:V3 P R h F=some v):AS P c o R h v:=by
 unfold V3 at j
 split at j
 .rename_i x t;exact sV w (Bf c R x) j
 .rename_i x y A
  have l:=Bf c R x
  have q:=Bf c R y
  split at j
  .rename_i k m I n B C
   rw[B] at l;rw[C] at q
   split at j
   .rename_i E;subst E;cases j;exact WI w l q
   .cases j
  .cases j
 .rename_i x y A
  have l:=Bf c R x
  have q:=Bf c R y
  split at j
  .rename_i k m I n B C
   rw[B] at l;rw[C] at q
   split at j
   .rename_i E;subst E;cases j;exact R5 w l q
   .cases j
  .cases j
 .cases j
def Km(P:Program)(R:Aa)(h:AL)(o:Oper):Option AV:=match o.op with
 | .move x=>some (A5 R x)
 | .assign x=>some (A5 R x)
 | .binOp op t x y _=>match UK op (A5 R x) (A5 R y) with
  | some v=>some v
  | none=>match XM op (A5 R x) (A5 R y) with
   | some v=>some v
   | none=>match WR P op t (A5 R x) (A5 R y) with
    | some v=>some v
    | none=>W8 P op t (A5 R x) (A5 R y)
 | .unOp .not _ x=>match A5 R x with
  | .r (.bool b)=>some (.r (.bool (!b)))
  | _=>none
 | .unOp .neg _ x=>match A5 R x with
  | .r (.int k m)=>if k.wrap (-m) = -m then some (.r (.int k (-m))) else none
  | _=>none
 | .pick x y z=>Wd R x y z
 | .extract x i=>match A5 R x with
  | .tup j=>j[i]?
  | _=>none
 | .nilCheck x=>Vp h (A5 R x)
 | .fieldAddr t x f=>WX P t f h (A5 R x)
 | .load t x=>WT P t h (A5 R x)
 | .indexAddr t x i=>Ub P t h (A5 R x) (A5 R i)
 | .index t x i=>Vc P t (A5 R x) (A5 R i)
 | .convert t l x=>VE P t l (A5 R x)
 | .slice t x q w none=>Vd P R t q w (A5 R x)
 | .makeFunc (.func f) ⟨[]⟩ xs=>some (.fn f (xs.toList.map (A5 R)))
 | .build t parts=>VW P R t parts.toList
 | .call A=>V3 P R h A
 | _=>none
theorem LL{v}(l:Km P R h o=some v):AS P c o R h v:=by
 unfold Km at l
 split at l
 .rename_i x j;cases l;exact AM j (Bf c R x)
 .rename_i x j;cases l;exact EL j (Bf c R x)
 .rename_i op t x y C j
  split at l
  .rename_i B w;cases l;exact nv j (Bf c R x) (Bf c R y) w
  .split at l
   .rename_i B w;cases l;exact sC j (Bf c R x) (Bf c R y) w
   .split at l
    .rename_i B w;cases l;exact rE j (Bf c R x) (Bf c R y) w
    .exact jO j (Bf c R x) (Bf c R y) l
 .rename_i t x j
  have q:=Bf c R x
  split at l
  .rename_i b A;rw[A] at q;cases l;exact BC j q
  .cases l
 .rename_i t x j
  have q:=Bf c R x
  split at l
  .rename_i k m A
   rw[A] at q
   split at l
   .rename_i E;cases l;exact YS j q E
   .cases l
  .cases l
 .rename_i x y z j;exact pL j l
 .rename_i x i j
  have q:=Bf c R x
  split at l
  .rename_i F A;rw[A] at q;exact Tg j q l
  .cases l
 .rename_i x j;exact s4 j (Bf c R x) l
 .rename_i t x f j;exact qZ j (Bf c R x) l
 .rename_i t x j;exact jQ j (Bf c R x) l
 .rename_i t x i j;exact um j (Bf c R x) (Bf c R i) l
 .rename_i t x i j;exact tB j (Bf c R x) (Bf c R i) l
 .rename_i t C x j;exact vW j (Bf c R x) l
 .rename_i t x I J j;exact np j (Bf c R x) l
 .rename_i f xs j;cases l;exact Kz j (Nk c R xs.toList)
 .rename_i t parts j;exact pZ j l
 .rename_i M j;exact lN j l
 .cases l
end
section
variable{P:Program}{o:Oper}{R:Aa}{h:AL}{n:Nat}
def RN(R:Aa)(sz:Nat):Nat->List (Nat × Operand)->Option (List (List RV))
 | _,[]=>some []
 | i,(j,x)::r=>match GR (A5 R x),RN R sz (i+1) r with
  | some row,some l=>if j=i/\row.length=sz then some (row::l) else none
  | _,_=>none
theorem YA{c}{sz} : ∀ {ps:List (Nat × Operand)} {i:Nat} {l:List (List RV)},RN R sz i ps=some l->JT c R i ps l/\∀row∈l,row.length=sz
 | [],i,l,hp=>by cases hp;exact⟨trivial,by simp⟩
 | (j,x)::r,i,l,hp=>by
  unfold RN at hp
  split at hp
  .rename_i row m B C
   split at hp
   .rename_i A;cases hp
    obtain⟨E,F⟩:=YA (c:=c) C
    refine⟨⟨A.1,⟨_,Bf c R x,B⟩,E⟩,λq w=>?_⟩
    rcases yD.1 w with rfl | w
    .exact A.2
    .exact F q w
   .cases hp
  .cases hp
def Vq(R:Aa)(h:AL)(sz:Nat)(x:Operand):Option (List (List RV)):=match A5 R x with
 | .r (.sl j)=>if(j.all λrow=>Nat.beq row.length sz)=true then some j else none
 | .own id g=>match hget h id with
  | some (.arr m _ l j)=>if m=g/\l=sz then some j else none
  | _=>none
 | .cst (.slice none 0 0)=>some []
 | _=>none
theorem YB{c}{sz}{x}{ys}(j:Vq R h sz x=some ys):KN c R h x sz ys:=by
 unfold Vq at j
 have l:=Bf c R x
 split at j
 .rename_i w m
  rw[m] at l
  split at j
  .rename_i q;cases j;exact .inl ⟨l,λ_ row A=>xR (xf.1 q row A)⟩
  .cases j
 .rename_i id g m
  rw[m] at l
  split at j
  .rename_i B
   split at j
   .rename_i q;obtain⟨rfl,rfl⟩:=q;cases j;exact .inr (.inl ⟨_,_,_,l,B⟩)
   .cases j
  .cases j
 .rename_i m
  rw[m] at l
  cases j;exact .inr (.inr ⟨l,rfl⟩)
 .cases j
def RS(P:Program)(R:Aa)(h:AL)(n:Nat)(s x:Operand)(t:TypeId):Option (AV × AL × Nat):=match IB P t with
 | some (e,sz,l)=>match Vq R h sz x with
  | some j=>match A5 R s with
   | .own id g=>match hget h id with
    | some (.arr q w m xs)=>if((q=g/\w=e)/\m=sz)/\(xs.length+j.length) * l<=140737488355328/\xs.length+j.length<=9223372036854775807 then
      some (.own id n,(id,some (.arr n e sz (xs++j)))::h,n+1) else none
    | _=>none
   | .cst (.slice none 0 0)=>if j.length * l<=140737488355328/\j.length<=9223372036854775807 then some (.own n n,(n,some (.arr n e sz j))::h,n+1) else none
   | _=>none
  | none=>none
 | none=>none
theorem ux{s x}{t}{r}(w:o.op=.call { callee:=.builtin .append,args:=#[s,x],argTypes:=#[t,t] })(j:RS P R h n s x t=some r):Az P true o R h n r.1 r.2.1 r.2.2:=by
 unfold RS at j
 have l:=Bf true R s
 split at j
 .rename_i e sz B hg
  split at j
  .rename_i I A
   split at j
   .rename_i id g q
    rw[q] at l
    split at j
    .rename_i C
     split at j
     .rename_i m;obtain⟨⟨⟨rfl,rfl⟩,rfl⟩,E,F⟩:=m
      cases j
      exact aW w (Iu hg) l C (YB A) E F
     .cases j
    .cases j
   .rename_i q
    rw[q] at l
    split at j
    .rename_i m;cases j
     exact cX n w (Iu hg) l (YB A) m.1 m.2
    .cases j
   .cases j
  .cases j
 .cases j
def S1(P:Program)(R:Aa)(h:AL)(n:Nat)(t:TypeId)(x y:Operand):Option (AV × AL × Nat):=match A5 R x with
 | .ptr id g i k=>match Uo P t with
  | some sz=>match hget h id with
   | some (.box j e q)=>if(((j=g/\i=0)/\(BQ (A5 R y)).length=sz)/\(BQ (A5 R y)).all AV.one=true)/\Nat.ble (k+sz) q.length=true then
     some (.any,(id,some (.box g e (GF q k (BQ (A5 R y)))))::h,n) else none
   | some (.arr j e l xs)=>match GR (A5 R y),xs[i]? with
    | some m,some row=>if(j=g/\m.length=sz)/\k+m.length<=row.length then some (.any,(id,some (.arr g e l (xs.set i (Ka row k m))))::h,n) else none
    | _,_=>none
   | _=>none
  | none=>none
 | _=>none
theorem rf{x y}{t}{r}(C:o.op=.store t x y)(j:S1 P R h n t x y=some r):Az P true o R h n r.1 r.2.1 r.2.2:=by
 unfold S1 at j
 have m:=Bf true R x
 have E:=Bf true R y
 split at j
 .rename_i id g i k I
  rw[I] at m
  split at j
  .rename_i sz F
   split at j
   .rename_i q
    split at j
    .rename_i w;obtain⟨⟨⟨⟨rfl,rfl⟩,A⟩,B⟩,J⟩:=w
     cases j
     exact gK C (gi F) m q E A B J
    .cases j
   .rename_i q
    split at j
    .rename_i M row hd l
     split at j
     .rename_i w;obtain⟨⟨rfl,A⟩,B⟩:=w
      cases j
      exact aJ C (gi F) m q l E hd A B
     .cases j
    .cases j
   .cases j
  .cases j
 .cases j
def Ja(P:Program)(R:Aa)(h:AL)(n:Nat)(o:Oper):Option (AV × AL × Nat):=match o.op with
 | .store t x y=>S1 P R h n t x y
 | .alloc t=>match Q7 P t with
  | some z=>if(BQ (Gc z)).all AV.one=true then some (.ptr n n 0 0,(n,some (.box n t (BQ (Gc z))))::h,n+1) else none
  | none=>none
 | .box t x=>if(BQ (A5 R x)).all AV.one=true then some (.ptr n n 0 0,(n,some (.box n t (BQ (A5 R x))))::h,n+1) else none
 | .buildSlice t len parts=>match IB P t with
  | some (e,sz,_)=>match RN R sz 0 parts.toList with
   | some j=>if j.length=len/\Nat.ble (len * sz) 16777216=true then some (.own n n,(n,some (.arr n e sz j))::h,n+1) else none
   | none=>none
  | none=>none
 | .makeSlice t l k=>match IB P t,A5 R l,A5 R k with
  | some (e,sz,b),.r (.int .i64 m),.r (.int .i64 w)=>match Q7 P e with
   | some z=>match GR (Gc z) with
    | some q=>if(m=w/\0<=m)/\m * b<=281474976710656/\m<=9223372036854775807 then some (.own n n,(n,some (.arr n e sz (List.replicate m.toNat q)))::h,n+1) else none
    | none=>none
   | none=>none
  | _,_,_=>none
 | .call ⟨.builtin .append,⟨[s,x]⟩,⟨[t,A]⟩⟩=>if t=A then RS P R h n s x t else none
 | _=>none
theorem TQ{r}(j:Ja P R h n o=some r):Az P true o R h n r.1 r.2.1 r.2.2:=by
 unfold Ja at j
 split at j
 .rename_i t x y q;exact rf q j
 .rename_i t q
  split at j
  .rename_i z B
   split at j
   .rename_i w;cases j;exact aM n q (eC B) w
   .cases j
  .cases j
 .rename_i t x q
  split at j
  .rename_i w;cases j;exact ZR n q (Bf true R x) w
  .cases j
 .rename_i t len parts q
  split at j
  .rename_i e sz b hg
   split at j
   .rename_i F A
    split at j
    .rename_i w;cases j
     obtain⟨O,T⟩:=YA (c:=true) A
     exact gO n q (Iu hg) O w.1 T w.2
    .cases j
   .cases j
  .cases j
 .rename_i t l k q
  split at j
  .rename_i e sz b m m' hg U V
   have I:=Bf true R l
   have J:=Bf true R k
   rw[U] at I;rw[V] at J
   split at j
   .rename_i z B
    split at j
    .rename_i M C
     split at j
     .rename_i w;obtain⟨⟨rfl,X⟩,Z,h4⟩:=w;cases j
      obtain⟨ii,hi,E⟩:=eC B
      exact eR n q (Iu hg) ⟨ii,z,hi,E,C⟩ I J X Z h4
     .cases j
    .cases j
   .cases j
  .cases j
 .rename_i s x t t' q
  split at j
  .rename_i ht;subst ht;exact ux q j
  .cases j
 .cases j
end
inductive Fr where
 | seq (y:Code)
 | block (id:Nat)
 | loop (n:Nat) (x:Code)
 | call (ops:Array Oper) (rest:List Oper) (d:Option Nat) (e:Aa) (N:Nat) (rs:List ResultVar)
def Fu(d:Option Nat)(r:AV)(e:Aa):Aa:=match d with
 | some t=>(t,r)::e
 | none=>e
def Eb(P:Program)(Q:Exit->St->Prop):List Fr->Exit->St->Prop
 | []=>Q
 | .seq y::ks=>Es (AW P y (Eb P Q ks)) (Eb P Q ks)
 | .block id::ks=>Ma id (Eb P Q ks)
 | .loop n x::ks=>Es (Hh P x (Eb P Q ks) n) (Eb P Q ks)
 | .call ops rest d e N j::ks=>I1 P j λr l n'=>Bn P ops rest { e:=Fu d r e,h:=l,n:=n',N:=N } (Eb P Q ks .normal)
inductive EG where
 | code (c:Code) (ks:List Fr) (s:St)
 | ops (ops:Array Oper) (rest:List Oper) (ks:List Fr) (s:St)
 | out (x:Exit) (ks:List Fr) (s:St)
def Holds(P:Program)(Q:Exit->St->Prop):EG->Prop
 | .code c ks s=>AW P c (Eb P Q ks) s
 | .ops ops rest ks s=>Bn P ops rest s (Eb P Q ks .normal)
 | .out x ks s=>Eb P Q ks x s
def GX(R:Aa)(ops:Array Oper)(o:Oper):Option Bool:=match o.guard with
 | none=>none
 | some (j,l)=>match (ops[j]?).bind (·.dst) with
  | some m=>match BE R (.tmp m) with
   | .r (.bool b)=>some (b==l)
   | .whn q (.r (.bool b))=>some (q&&(b==l))
   | _=>none
  | none=>none
theorem FT{R}{ops}{o}{c}(h:GX R ops o=some c):Cg R ops o c:=by
 unfold GX at h
 split at h
 .cases h
 .rename_i j m hg
  split at h
  .rename_i w q
   split at h
   .rename_i b l;cases h;exact .one hg q l
   .rename_i A b l;cases h;exact .two hg q l
   .cases h
  .cases h
def Qz(P:Program)(s:St):ResultVar->Option AV
 | .tmp t=>some (get s.e t)
 | .cell a t=>match get s.e a with
  | .ptr id g 0 0=>match hget s.h id with
   | some (.box l _ j)=>if l=g then match Ll P t with
     | true=>match j with
      | [r]=>some r
      | _=>none
     | false=>match KX P t with
      | some sz=>if sz=j.length then some (.agg j) else none
      | none=>none
    else none
   | _=>none
  | _=>none
theorem YY{P}{s}{x}{r}(h:Qz P s x=some r):IR P x s r:=by
 unfold Qz at h
 split at h
 .cases h;rfl
 .split at h
  .rename_i id g hp
   split at h
   .rename_i w e A j
    split at h
    .rename_i hg;subst hg
     split at h
     .rename_i l
      split at h
      .cases h;exact .inl ⟨PG l,id,_,_,hp,j⟩
      .cases h
     .split at h
      .rename_i sz m
       split at h
       .rename_i q;cases h;exact .inr ⟨_,rfl,by rw[<- q];exact PA m,id,_,_,hp,j⟩
       .cases h
      .cases h
    .cases h
   .cases h
  .cases h
def Rg(P:Program)(s:St):List ResultVar->Option (List AV)
 | []=>some []
 | x::l=>match Qz P s x,Rg P s l with
  | some r,some j=>some (r::j)
  | _,_=>none
theorem ZA{P}{s} : ∀ {l:List ResultVar} {j:List AV},Rg P s l=some j->MH P l s j
 | [],j,h=>by cases h;trivial
 | x::l,j,h=>by
  unfold Rg at h
  split at h
  .rename_i r m q w;cases h;exact⟨YY q,ZA w⟩
  .cases h
def NE(P:Program)(s:St):List ResultVar->Option AV
 | [x]=>Qz P s x
 | l=>(Rg P s l).map .tup
theorem Tt{P}{s}{l}{r}(h:NE P s l=some r):KU P l s r:=by
 unfold NE at h
 split at h
 .exact YY h
 .rename_i A j
  rw[xK] at h
  obtain⟨m,q,rfl⟩:=h
  have w:=ZA q
  unfold KU
  split
  .rename_i x;exact absurd rfl (j x)
  .exact⟨m,rfl,w⟩
def Q3(o:Oper):Bool:=match o.op with
 | .store _ _ _ | .alloc _ | .box _ _ | .buildSlice _ _ _ | .makeSlice _ _ _ | .makeMap _ _ | .mapUpdate _ _ _ _ | .insert _ _ _ _ | .range _ _ | .next _ _=>false
 | .call ⟨.builtin .len,_,_⟩ | .call ⟨.builtin .min,_,_⟩ | .call ⟨.builtin .max,_,_⟩=>true
 | .call _=>false
 | _=>true
def Ie(P:Program)(ops:Array Oper):List Oper->St->Option St
 | [],s=>some s
 | o::rest,s=>match o.dst with
  | some d=>match Nat.blt d s.N with
   | true=>match o.guard with
    | none=>match Km P s.e s.h o with
     | some v=>Ie P ops rest { e:=(d,v)::s.e,h:=s.h,n:=s.n,N:=s.N }
     | none=>none
    | some _=>match GX s.e ops o with
     | some true=>match Km P s.e s.h o with
      | some v=>Ie P ops rest { e:=(d,.whn true v)::s.e,h:=s.h,n:=s.n,N:=s.N }
      | none=>none
     | some false=>Ie P ops rest { e:=(d,.whn false (.r (.bool false)))::s.e,h:=s.h,n:=s.n,N:=s.N }
     | none=>none
   | false=>none
  | none=>none
theorem Tr{P}{ops}{K} : ∀ {l:List Oper} {s s':St},Ie P ops l s=some s'->K s'->AT P ops l s K
 | [],s,s',h,m=>by cases h;exact AT.nil m
 | o::rest,s,s',h,m=>by
  unfold Ie at h
  split at h
  .rename_i d hd
   split at h
   .rename_i q
    split at h
    .rename_i hg
     split at h
     .rename_i v w;exact AT.step hg hd q (LL w) (Tr h m)
     .cases h
    .split at h
     .rename_i j
      split at h
      .rename_i v w;exact AT.stepW (FT j) hd q (LL w) (Tr h m)
      .cases h
     .rename_i j;exact AT.stepW (FT j) hd q (AS.no rfl) (Tr h m)
     .cases h
   .cases h
  .cases h
theorem SO{P}{ops}{K} : ∀ {l:List Oper} {s s':St},Ie P ops l s=some s'->K s'->AQ P ops l s K
 | [],s,s',h,m=>by cases h;exact AQ.nil m
 | o::rest,s,s',h,m=>by
  unfold Ie at h
  split at h
  .rename_i d hd
   split at h
   .rename_i q
    split at h
    .rename_i hg
     split at h
     .rename_i v w;exact AQ.step hg hd q (LL w) (SO h m)
     .cases h
    .split at h
     .rename_i j
      split at h
      .rename_i v w;exact AQ.stepW (FT j) hd q (LL w) (SO h m)
      .cases h
     .rename_i j;exact AQ.stepW (FT j) hd q (AS.no rfl) (SO h m)
     .cases h
   .cases h
  .cases h
def Vh(P:Program)(ops:Array Oper)(ks:List Fr)(s:St):Option EG:=
 match ops.toList.all Q3 with
 | true=>match Region.lexB .any ops with
  | true=>(Ie P ops ops.toList s).map (.out .normal ks ·)
  | false=>none
 | false=>
  let n:=(ops.toList.takeWhile Q3).length
  match Region.lexTailB .any ops n with
  | true=>(Ie P ops (ops.toList.take n) s).map (.ops ops (ops.toList.drop n) ks ·)
  | false=>none
def Tv(P:Program)(ops:Array Oper)(o:Oper)(rest:List Oper)(ks:List Fr)(s:St)(l:Bool):Option EG:=
 match o.dst with
 | some d=>match Nat.blt d s.N with
  | true=>match Km P s.e s.h o with
   | some v=>some (.ops ops rest ks { e:=(d,v)::s.e,h:=s.h,n:=s.n,N:=s.N })
   | none=>match Ja P s.e s.h s.n o with
    | some (v,m,n')=>some (.ops ops rest ks { e:=(d,v)::s.e,h:=m,n:=n',N:=s.N })
    | none=>match o.op with
     | .call ⟨.value fo,xs,_⟩=>match A5 s.e fo with
      | .fn f j=>match P.funcs[f]? with
       | some fn=>match fn.body with
        | some code => if (fn.name == "runtime.NumGoroutine") = false /\ Nat.ble (xs.toList.map (A5 s.e) ++ j).length fn.ntmps = true then
          some (.code code (.call ops rest (some d) s.e s.N fn.results.toList::ks) ⟨Da 0 (xs.toList.map (A5 s.e)++j),s.h,s.n,fn.ntmps⟩) else none
        | none=>none
       | none=>none
      | _=>none
     | _=>none
  | false=>none
 | none=>match l with
  | true=>none
  | false=>match Ja P s.e s.h s.n o with
   | some (_,m,n')=>some (.ops ops rest ks { e:=s.e,h:=m,n:=n',N:=s.N })
   | none=>match o.op with
    | .call ⟨.value fo,xs,_⟩=>match A5 s.e fo with
     | .fn f j=>match P.funcs[f]? with
      | some fn=>match fn.body with
       | some code => if (fn.name == "runtime.NumGoroutine") = false /\ Nat.ble (xs.toList.map (A5 s.e) ++ j).length fn.ntmps = true then
         some (.code code (.call ops rest none s.e s.N fn.results.toList::ks) ⟨Da 0 (xs.toList.map (A5 s.e)++j),s.h,s.n,fn.ntmps⟩) else none
       | none=>none
      | none=>none
     | _=>none
    | _=>none
def step(P:Program):EG->Option EG
 | .code c ks s=>match c with
  | .skip=>some (.out .normal ks s)
  | .ret=>some (.out .ret ks s)
  | .exit id=>some (.out (.exit id) ks s)
  | .seq x y=>some (.code x (.seq y::ks) s)
  | .block id x=>some (.code x (.block id::ks) s)
  | .loop x=>some (.code x (.loop 1000000 x::ks) s)
  | .cond b x y=>match BE s.e b with
   | .r (.bool true)=>some (.code x ks s)
   | .r (.bool false)=>some (.code y ks s)
   | _=>none
  | .region _ ops false=>some (.ops ops ops.toList ks s)
  | .region _ ops true=>Vh P ops ks s
  | _=>none
 | .ops _ [] ks s=>some (.out .normal ks s)
 | .ops ops (o::rest) ks s=>match o.guard with
  | none=>Tv P ops o rest ks s false
  | some _=>match GX s.e ops o with
   | some true=>Tv P ops o rest ks s true
   | some false=>match o.dst with
    | some d=>match Nat.blt d s.N with
     | true=>some (.ops ops rest ks { e:=(d,.whn false (.r (.bool false)))::s.e,h:=s.h,n:=s.n,N:=s.N })
     | false=>none
    | none=>some (.ops ops rest ks s)
   | none=>none
 | .out x (.seq y::ks) s=>match x with
  | .normal=>some (.code y ks s)
  | .ret=>some (.out .ret ks s)
  | .exit id=>some (.out (.exit id) ks s)
  | _=>none
 | .out x (.block id::ks) s=>match x with
  | .normal=>some (.out .normal ks s)
  | .ret=>some (.out .ret ks s)
  | .exit i=>if i=id then some (.out .normal ks s) else some (.out (.exit i) ks s)
  | _=>none
 | .out x (.loop n y::ks) s=>match x with
  | .normal=>match n with
   | n+1=>some (.code y (.loop n y::ks) s)
   | 0=>none
  | .ret=>some (.out .ret ks s)
  | .exit id=>some (.out (.exit id) ks s)
  | _=>none
 | .out x (.call ops rest d e N j::ks) s=>match x with
  | .normal=>(NE P s j).map λr=>.ops ops rest ks { e:=Fu d r e,h:=s.h,n:=s.n,N:=N }
  | .ret=>(NE P s j).map λr=>.ops ops rest ks { e:=Fu d r e,h:=s.h,n:=s.n,N:=N }
  | _=>none
 | .out _ [] _=>none
end Go.Proofs.YtcgleifameckmaaGreatDoor.Al

set_option linter.unusedVariables false
namespace Go.Proofs.YtcgleifameckmaaGreatDoor.Al
section
variable{P:Program}{Q:Exit->St->Prop}{ks:List Fr}{s:St}
theorem XZ{ops}{rest}{K}{o:Oper}{d}{j}{v}{h'}{n'}(hg:(j=false/\o.guard=none)\/Cg s.e ops o true)(hd:o.dst=some d)(l:Nat.blt d s.N=true)
 (m:Az P true o s.e s.h s.n v h' n') (q:AN P ops rest { e := (d, v)::s.e, h := h', n := n', N := s.N } K):AN P ops (o::rest) s K := by
  rcases hg with ⟨_, hg⟩ | hg
  · exact AN.step hg hd l m q
  · exact Ns hg rfl hd l m q
theorem dN{ops}{o:Oper}{rest}{q}{c'}(hg:(q=false/\o.guard=none)\/(q=true/\Cg s.e ops o true))(h:Tv P ops o rest ks s q=some c')(hc:Holds P Q c') :
  Bn P ops (o::rest) s (Eb P Q ks .normal):=by
 have one:∀ {E:St},AN P ops [o] s (λs2=>s2=E)->Bn P ops rest E (Eb P Q ks .normal)->Bn P ops (o::rest) s (Eb P Q ks .normal):=λC A=>Bn.cons C λs2 e=>e ▸ A
 have I:(q=false/\o.guard=none)\/Cg s.e ops o true:=hg.imp id λh=>h.2
 unfold Tv at h
 split at h
 .rename_i d hd
  split at h
  .rename_i T
   split at h
   .rename_i v J;cases h
    exact one (XZ I hd T ((LL (c:=true) J).spec _) (AN.nil rfl)) hc
   .split at h
    .rename_i v h' n' J;cases h
     exact one (XZ I hd T (TQ J) (AN.nil rfl)) hc
    .split at h
     .rename_i fo xs Z U
      split at h
      .rename_i f j F
       split at h
       .rename_i fn V
        split at h
        .rename_i code X
         split at h
         .rename_i C;cases h
          have w:Ev true s.e fo (.fn f j):=by rw[<- F];exact Bf true s.e fo
          rcases hg with ⟨_,hg⟩ | ⟨_,hg⟩
          .exact Bn.cons (wZ (K:=λE=>Bn P ops rest E (Eb P Q ks .normal)) j _ hg hd T U w (Nk true s.e xs.toList) V X C.1 rfl C.2 (AW.mono hc λe s' m=>by
            cases e with
            | normal=>obtain⟨r,A,B⟩:=m;exact⟨r,A,AN.nil B⟩
            | ret=>obtain⟨r,A,B⟩:=m;exact⟨r,A,AN.nil B⟩
            | exit id=>exact m.elim
            | goto l=>exact m.elim
            | panic c=>exact m.elim
            | outgrown=>exact m.elim)) λ_ h=>h
          .exact Bn.cons (wb (K:=λE=>Bn P ops rest E (Eb P Q ks .normal)) j _ hg rfl hd T U w (Nk true s.e xs.toList) V X C.1 rfl C.2 (λK' M=>AW.mono hc λe s' m=>by
            cases e with
            | normal=>obtain⟨r,A,B⟩:=m;exact⟨r,A,M _ _ _ (AN.nil B)⟩
            | ret=>obtain⟨r,A,B⟩:=m;exact⟨r,A,M _ _ _ (AN.nil B)⟩
            | exit id=>exact m.elim
            | goto l=>exact m.elim
            | panic c=>exact m.elim
            | outgrown=>exact m.elim)) λ_ h=>h
         .cases h
        .cases h
       .cases h
      .cases h
     .cases h
  .cases h
 .rename_i hd
  split at h
  .cases h
  .have O:o.guard=none:=by
    rcases hg with ⟨_,hg⟩ | ⟨e,_⟩
    .exact hg
    .cases e
   split at h
   .rename_i v h' n' J;cases h
    exact one (hM O hd (TQ J) (AN.nil rfl)) hc
   .split at h
    .rename_i fo xs Z U
     split at h
     .rename_i f j F
      split at h
      .rename_i fn V
       split at h
       .rename_i code X
        split at h
        .rename_i C;cases h
         have w:Ev true s.e fo (.fn f j):=by rw[<- F];exact Bf true s.e fo
         exact Bn.cons (wG (K:=λE=>Bn P ops rest E (Eb P Q ks .normal)) j _ O hd U w (Nk true s.e xs.toList) V X C.1 rfl C.2 (AW.mono hc λe s' m=>by
            cases e with
            | normal=>obtain⟨r,A,B⟩:=m;exact⟨r,A,AN.nil B⟩
            | ret=>obtain⟨r,A,B⟩:=m;exact⟨r,A,AN.nil B⟩
            | exit id=>exact m.elim
            | goto l=>exact m.elim
            | panic c=>exact m.elim
            | outgrown=>exact m.elim)) λ_ h=>h
        .cases h
       .cases h
      .cases h
     .cases h
    .cases h
theorem rM(l:P.follows .mixedOrders=true){id}{ops:Array Oper}{m}(h:Vh P ops ks s=some m)(hc:Holds P Q m):AW P (.region id ops true) (Eb P Q ks) s:=by
 unfold Vh at h
 split at h
 .split at h
  .rename_i hB
   rw[xK] at h
   obtain⟨q,j,rfl⟩:=h
   exact g8 (l:=ops.toList) l hB (SO j hc)
  .cases h
 .dsimp only at h
  split at h
  .rename_i hB
   rw[xK] at h
   obtain⟨q,j,rfl⟩:=h
   exact vy (l:=ops.toList) _ l hB rfl rfl (Tr j hc)
  .cases h
theorem iP(B:P.follows .mixedOrders=true){c A}(h:step P c=some A)(hc:Holds P Q A):Holds P Q c:=by
 unfold step at h
 split at h
 .split at h
  .cases h;exact AW.skip hc
  .cases h;exact AW.ret hc
  .cases h;exact AW.exit hc
  .cases h;exact AW.seq hc
  .cases h;exact AW.block hc
  .cases h;exact wR (1000000+1) (Hh.step hc)
  .split at h
   .rename_i m;cases h;exact AW.cond m (λ_=>hc) (λe=>by cases e)
   .rename_i m;cases h;exact AW.cond m (λe=>by cases e) (λ_=>hc)
   .cases h
  .rename_i id ops;cases h;exact g9 (l:=ops.toList) hc
  .exact rM B h hc
  .cases h
 .cases h;exact Bn.nil hc
 .rename_i ops o rest ks s
  split at h
  .rename_i hg
   exact dN (.inl ⟨rfl,hg⟩) h hc
  .split at h
   .rename_i j;exact dN (.inr ⟨rfl,FT j⟩) h hc
   .rename_i j
    split at h
    .rename_i d hd
     split at h
     .rename_i C;cases h;exact Bn.cons (K1:=λl=>l=_) (KS (FT j) rfl hd C (AN.nil rfl)) λl e=>e ▸ hc
     .cases h
    .rename_i hd;cases h;exact Bn.cons (K1:=λl=>l=_) (wB (FT j) rfl hd (AN.nil rfl)) λl e=>e ▸ hc
   .cases h
 .split at h
  .cases h;exact hc
  .cases h;exact hc
  .cases h;exact hc
  .cases h
 .split at h
  .cases h;exact hc
  .cases h;exact hc
  .rename_i i
   split at h
   .rename_i q;cases h;simp only[Holds,Eb,Ma];rw[ww q];exact hc
   .rename_i q;cases h;simp only[Holds,Eb,Ma];rw[wv q];exact hc
  .cases h
 .split at h
  .split at h
   .cases h;exact Hh.step hc
   .cases h
  .cases h;exact hc
  .cases h;exact hc
  .cases h
 .split at h
  .rw[xK] at h
   obtain⟨r,w,rfl⟩:=h
   exact⟨r,Tt w,hc⟩
  .rw[xK] at h
   obtain⟨r,w,rfl⟩:=h
   exact⟨r,Tt w,hc⟩
  .cases h
 .cases h
end
theorem Xg {P : Program} {f} {fn : Func} {code} {args : List AV} {r : AV} {N} (hf : P.funcs[f]? = some fn) (Z : fn.body = some code) (M : (fn.name == "runtime.NumGoroutine") = false) (hN : fn.ntmps = N) (hr : r.closed = true)
 (B:Dc args=true) (a2:args.length<=N) (hw:AW P code (Fk P fn.results.toList r) ⟨Da 0 args, [], 0, N⟩):AY P f args r := by
  refine⟨⟨fn, hf, by rw[Z];rfl, M⟩, hr, λx F C O A => ?_⟩
  have a0:F.size=args.length := by simpa using A.1
  have I:({ x with n := 0 } : Cx).ok :=
    ⟨C.S_lt, C.F_lt, C.SF, (λid o (m:x.H id=some o) => by rw[O] at m;cases m), (λid o b k (m:x.H id=some o) => by rw[O] at m;cases m), (λid a1 o o' b k k' (m:x.H id=some o) => by rw[O] at m;cases m), (λid o j b c (m:x.H id=some o) => by rw[O] at m;cases m), EH.same C.tabs rfl λ_ h => h⟩
  have T:D9 { x with n := 0 } ⟨Da 0 args, [], 0, N⟩ { tmps := F++Array.replicate (fn.ntmps - F.size) undef, defers := [] } x.w := by
    refine⟨_, rfl, by simp;omega, { x with n := 0 }, rfl, .refl _, I, by rw[O];rfl, rfl, λt => ?_⟩
    rcases Q9 args 0 t with h1 | ⟨j, a, h1, U, h3⟩
    · rw[h1];exact .any _
    · rw[h3]
      have hj:j<F.size := by rw[a0];exact(wx.1 U).1
      have ht:t=j := by omega
      subst ht
      have:(F++Array.replicate (fn.ntmps - F.size) undef).getD t undef=F[t] := by
        simp[Array.getD, hj]
        omega
      rw[this]
      exact JA (x := x) (y := { x with n := 0 }) rfl (λ_ h => h) (A.2 t a F[t] U (by simp[hj])) (L3 B U)
  have V:∀ {e:Exit} {a:Act} {y:Cx} {s:St}, NT (EF P s) fn.results.toList r->({ x with n := 0 } : Cx).le y->y.ok->y.H=hget s.h->y.n=s.n->Bv y s.e a->∃u, (results fn a.tmps).run P y.w=.ok u y.w/\∃u' y', Ending.returned u=.returned u'/\y'.w=y.w/\x.le y'/\y'.ok/\AP y' r u' := by
    intro e a y s J q w E _ he
    obtain⟨u, h1, U⟩ := bP (P := P) (fn := fn) (y := y) (z := y.frozen) (a := a) (EF P s) (λx r h => EF.rep w E he x r h) J
    have hz := T6 w
    refine⟨u, h1, u, { y.frozen with n := x.n+y.n }, rfl, rfl, ?_, ?_, JA (x := y.frozen) (y := { y.frozen with n := x.n+y.n }) rfl (λ_ h => h) U hr⟩
    · exact⟨q.size, q.os, q.tape, q.output, q.blk, λb Z => .inl (q.S b Z), q.F, WAH _ _, (λid o' m => by cases m), λid o' m => by cases m⟩
    · exact⟨hz.S_lt, hz.F_lt, hz.SF, (λid o m => by cases m), (λid o b k m => by cases m), (λid a1 o o' b k k' m => by cases m), (λid o j b c m => by cases m), EH.same hz.tabs rfl λ_ h => h⟩
  refine TW (c0 := { x with n := 0 }) hf Z I T (hw) λe s a y J q w E X he => ?_
  cases e with
  | normal => exact⟨.inl rfl, V (e := .normal) J q w E X he⟩
  | ret => exact⟨.inr rfl, V (e := .ret) J q w E X he⟩
  | exit id => exact J.elim
  | goto l => exact J.elim
  | panic ch => exact J.elim
  | outgrown => exact J.elim
def TC(j:List ResultVar):EG->Option Bool
 | .out .ret [] s=>match j with
  | [.tmp t]=>match get s.e t with
   | .r (.bool b)=>some b
   | _=>none
  | _=>none
 | .out .normal [] s=>match j with
  | [.tmp t]=>match get s.e t with
   | .r (.bool b)=>some b
   | _=>none
  | _=>none
 | _=>none
theorem dB{P}{j}{c}{b}(h:TC j c=some b):Holds P (Fk P j (.r (.bool b))) c:=by
 unfold TC at h
 split at h
 .split at h
  .split at h
   .rename_i hg;cases h
    show Fz _ (get _ _) _
    rw[hg];exact .d rfl
   .cases h
  .cases h
 .split at h
  .split at h
   .rename_i hg;cases h
    show Fz _ (get _ _) _
    rw[hg];exact .d rfl
   .cases h
  .cases h
 .cases h
def NW(id g:Nat)(xs:List (List RV)):AV->AV
 | .own j l=>if j=id/\l=g then .r (.sl xs) else .own j l
 | a=>a
def Lo(id g:Nat)(xs:List (List RV)):AV->AV
 | .agg j=>.agg (j.map (NW id g xs))
 | a=>NW id g xs a
def Rt(id g:Nat)(xs:List (List RV)):Option AU->Option AU
 | some (.box g0 e j)=>some (.box g0 e (j.map (NW id g xs)))
 | some (.hot _ _ _ _ _ _)=>none
 | o=>o
theorem Xx id g xs a:Ph id g xs a (NW id g xs a):=by
 unfold NW
 split
 .split
  .rename_i h;obtain⟨rfl,rfl⟩:=h;exact .inr (.inr ⟨rfl,rfl⟩)
  .exact .inl rfl
 .exact .inl rfl
theorem Uv id g xs:∀cs:List AV,No id g xs cs (cs.map (NW id g xs))
 | []=>trivial
 | a::l=>⟨Xx id g xs a,Uv id g xs l⟩
theorem rQ id g xs a:Wq id g xs a (Lo id g xs a):=by
 unfold Lo
 split
 .exact .inr ⟨_,_,rfl,rfl,Uv id g xs _⟩
 .exact .inl (Xx id g xs _)
theorem je id g xs o:U9 id g xs o (Rt id g xs o):=by
 unfold Rt
 split
 .exact .inr (.inr (.inl ⟨_,_,_,_,rfl,rfl,Uv id g xs _⟩))
 .exact .inr (.inl rfl)
 .exact .inl rfl
theorem Zu id g xs e:∀l:List Nat,OL id g xs (l.map λt=>(t,Lo id g xs (get e t))) e
 | []=>trivial
 | t::l=>⟨rQ id g xs _,Zu id g xs e l⟩
theorem cF id g xs h:∀l:List Nat,(∀i∈l,Nat.beq i id=false)->PY id g xs (l.map λi=>(i,Rt id g xs (hget h i))) h
 | [],_=>trivial
 | i::l,m=>⟨m i (xY ..),je id g xs _,cF id g xs h l λj q=>m j (xZ _ q)⟩
def TM:List Nat->List Nat->List Nat
 | _,[]=>[]
 | seen,t::l=>match seen.any (Nat.beq t) with
  | true=>TM seen l
  | false=>t::TM (t::seen) l
def LK(id g:Nat)(xs:List (List RV))(s:St):St:=
 { e:=(TM [] (s.e.map (·.1))).map λt=>(t,Lo id g xs (get s.e t)),h:=((TM [] (s.h.map (·.1))).filter λi=>!Nat.beq i id).map λi=>(i,Rt id g xs (hget s.h i)),n:=s.n,N:=s.N }
theorem Re{id g}{e}{sz}{xs}{s:St}(h:hget s.h id=some (.arr g e sz xs)):AZ s (LK id g xs s):=
 AZ.frz id h (Zu id g xs s.e _) (cF id g xs s.h _ λi j=>by
  have:=(za.1 j).2
  simpa using this)
def Pi(h:AL):AV->Option Nat
 | .own id g=>match hget h id with
  | some (.arr j _ _ _)=>if j=g then some id else none
  | _=>none
 | .agg l=>l.findSome? λa=>match a with
  | .own id g=>match hget h id with
   | some (.arr j _ _ _)=>if j=g then some id else none
   | _=>none
  | _=>none
 | _=>none
def dH(s:St)(o:Oper):Option Nat:=match o.op with
 | .buildSlice _ _ parts=>parts.toList.findSome? λp=>Pi s.h (A5 s.e p.2)
 | .store _ _ y=>Pi s.h (A5 s.e y)
 | .slice _ x _ _ _=>Pi s.h (A5 s.e x)
 | _=>none
def UY(P:Program)(c:EG):Option EG:=match step P c with
 | some j=>some j
 | none=>match c with
  | .ops ops (o::rest) ks s=>match dH s o with
   | some id=>match hget s.h id with
    | some (.arr g _ _ xs)=>some (.ops ops (o::rest) ks (LK id g xs s))
    | _=>none
   | none=>none
  | _=>none
section
variable{P:Program}{Q:Exit->St->Prop}
theorem Yc(l:P.follows .mixedOrders=true){c j}(h:UY P c=some j)(hc:Holds P Q j):Holds P Q c:=by
 unfold UY at h
 split at h
 .rename_i w m;cases h;exact iP l m hc
 .split at h
  .split at h
   .rename_i id BR
    split at h
    .rename_i q;cases h;exact Bn.weak (Re q) hc
    .cases h
   .cases h
  .cases h
end
section
variable{ops:Array Oper}{D:Nat->Bool}{G:Nat->Nat}{e:Aa}{L:List PO}{t:Nat}
def Rd(ops:Array Oper)(i t:Nat):List PO->Nat->Bool
 | [],_=>true
 | p::L,k=>(match p.d with | some d=>!Nat.beq d t||wt ops 40 k i | none=>true)&&Rd ops i t L (k+1)
theorem eZ{i}(w:Bq ops D i):∀ {L:List PO} {k:Nat},Rd ops i t L k=true->GD PO.wE D t L k
 | [],_,_=>λj p v h=>by simp at h
 | q::L,k,hB=>by
  simp only[Rd,xE] at hB
  obtain⟨l,C⟩:=hB
  intro j p v A m B
  cases j with
  | zero=>
   cases A
   rw[(Nu B).1] at l
   simp only[xl,yc,yG] at l m
   rcases l with l | l
   .rw[WAh] at l;cases l
   .rw[w.no l] at m;cases m
  | succ j=>
   exact eZ w C j p v (by simpa using A) (by rwa [show k+1+j=k+(j+1) by omega]) B
theorem Tx{i}(j:Bq ops D i)(hB:Rd ops i t L 0=true){a}(l:get e t=a):get (CI D G e L) t=a:=(GU CE L e 0 (eZ j hB)).trans l
end
mutual
def FG:RV->RV->Bool
 | .int k n,.int k' n'=>(k=k')&&(n=n')
 | .bool b,.bool b'=>b==b'
 | .str s,.str s'=>decide (s=s')
 | .sl xs,.sl ys=>JQ xs ys
 | .slf xs,.slf ys=>JQ xs ys
 | .any,.any=>true
 | _,_=>false
def LB:List RV->List RV->Bool
 | [],[]=>true
 | a::l,b::m=>FG a b&&LB l m
 | _,_=>false
def JQ:List (List RV)->List (List RV)->Bool
 | [],[]=>true
 | a::l,b::m=>LB a b&&JQ l m
 | _,_=>false
end
mutual
theorem fH:∀ {a b:RV},FG a b=true->a=b
 | .int k n,.int k' n',h=>by simp only[FG,xE,xG] at h;rw[h.1,h.2]
 | .bool b,.bool b',h=>by simp only[FG,beq_iff_eq] at h;rw[h]
 | .str s,.str s',h=>by simp only[FG,xG] at h;rw[h]
 | .sl xs,.sl ys,h=>by simp only[FG] at h;rw[SN h]
 | .slf xs,.slf ys,h=>by simp only[FG] at h;rw[SN h]
 | .any,.any,_=>rfl
 | .int _ _,.bool _,h | .int _ _,.str _,h | .int _ _,.sl _,h | .int _ _,.any,h=>by simp[FG] at h
 | .bool _,.int _ _,h | .bool _,.str _,h | .bool _,.sl _,h | .bool _,.any,h=>by simp[FG] at h
 | .str _,.int _ _,h | .str _,.bool _,h | .str _,.sl _,h | .str _,.any,h=>by simp[FG] at h
 | .sl _,.int _ _,h | .sl _,.bool _,h | .sl _,.str _,h | .sl _,.any,h=>by simp[FG] at h
 | .any,.int _ _,h | .any,.bool _,h | .any,.str _,h | .any,.sl _,h | .any,.slf _,h=>by simp[FG] at h
 | .int _ _,.slf _,h | .bool _,.slf _,h | .str _,.slf _,h | .sl _,.slf _,h=>by simp[FG] at h
 | .slf _,.int _ _,h | .slf _,.bool _,h | .slf _,.str _,h | .slf _,.sl _,h | .slf _,.any,h=>by simp[FG] at h
theorem WH:∀ {a b:List RV},LB a b=true->a=b
 | [],[],_=>rfl
 | a::l,b::m,h=>by simp only[LB,xE] at h;rw[fH h.1,WH h.2]
 | [],_::_,h=>by simp[LB] at h
 | _::_,[],h=>by simp[LB] at h
theorem SN:∀ {a b:List (List RV)},JQ a b=true->a=b
 | [],[],_=>rfl
 | a::l,b::m,h=>by simp only[JQ,xE] at h;rw[WH h.1,SN h.2]
 | [],_::_,h=>by simp[JQ] at h
 | _::_,[],h=>by simp[JQ] at h
end
def U2:Value->Value->Bool
 | .slice none 0 0,.slice none 0 0=>true
 | .pointer none,.pointer none=>true
 | .map none,.map none=>true
 | .nilFunc,.nilFunc=>true
 | _,_=>false
theorem sk{a b}(h:U2 a b=true):a=b:=by
 unfold U2 at h
 split at h<;>first | rfl | cases h
mutual
def DG:AV->AV->Bool
 | .r x,.r y=>FG x y
 | .agg cs,.agg ds=>Iq cs ds
 | .tup cs,.tup ds=>Iq cs ds
 | .own i g,.own i' g'=>Nat.beq i i'&&Nat.beq g g'
 | .ptr i g j k,.ptr i' g' j' k'=>(Nat.beq i i'&&Nat.beq g g')&&(Nat.beq j j'&&Nat.beq k k')
 | .rop row k,.rop row' k'=>LB row row'&&Nat.beq k k'
 | .fn f cs,.fn f' ds=>Nat.beq f f'&&Iq cs ds
 | .mref i g,.mref i' g'=>Nat.beq i i'&&Nat.beq g g'
 | .yld i g,.yld i' g'=>Nat.beq i i'&&Nat.beq g g'
 | .cst v,.cst v'=>U2 v v'
 | .whn b v,.whn b' v'=>(b==b')&&DG v v'
 | .any,.any=>true
 | _,_=>false
def Iq:List AV->List AV->Bool
 | [],[]=>true
 | a::l,b::m=>DG a b&&Iq l m
 | _,_=>false
end
mutual
theorem HA:∀ {a b:AV},DG a b=true->a=b:=by
 intro a b h
 cases a<;>cases b<;>first
  | (simp only[DG] at h;rw[fH h])
  | (simp only[DG] at h;rw[Ry h])
  | (simp only[DG] at h;rw[sk h])
  | (simp only[DG,xE] at h;rw[WH h.1,xR h.2])
  | (simp only[DG,xE] at h;rw[xR h.1.1,xR h.1.2,xR h.2.1,xR h.2.2])
  | (simp only[DG,xE] at h;rw[xR h.1,xR h.2])
  | (simp only[DG,xE] at h;rw[xR h.1,Ry h.2])
  | (simp only[DG,xE,beq_iff_eq] at h;rw[h.1,HA h.2])
  | rfl
  | (simp[DG] at h;done)
theorem Ry:∀ {a b:List AV},Iq a b=true->a=b
 | [],[],_=>rfl
 | a::l,b::m,h=>by simp only[Iq,xE] at h;rw[HA h.1,Ry h.2]
 | [],_::_,h=>by simp[Iq] at h
 | _::_,[],h=>by simp[Iq] at h
end
def Vg:Option AU->Option AU->Bool
 | some (.arr g e sz xs),some (.arr j l m q)=>((Nat.beq g j&&Nat.beq e l)&&Nat.beq sz m)&&JQ xs q
 | some (.box g e w),some (.box j l A)=>(Nat.beq g j&&Nat.beq e l)&&Iq w A
 | none,none=>true
 | _,_=>false
theorem pS{a b}(h:Vg a b=true):a=b:=by
 unfold Vg at h
 split at h
 .simp only[xE] at h
  rw[xR h.1.1.1,xR h.1.1.2,xR h.1.2,SN h.2]
 .simp only[xE] at h
  rw[xR h.1.1,xR h.1.2,Ry h.2]
 .rfl
 .cases h
def F0:AL->AL->Bool
 | [],[]=>true
 | (i,o)::l,(j,p)::m=>(Nat.beq i j&&Vg o p)&&F0 l m
 | _,_=>false
theorem OB:∀ {a b:AL},F0 a b=true->a=b
 | [],[],_=>rfl
 | (i,o)::l,(j,p)::m,h=>by
  simp only[F0,xE] at h
  rw[xR h.1.1,pS h.1.2,OB h.2]
 | [],_::_,h=>by simp[F0] at h
 | _::_,[],h=>by simp[F0] at h
inductive Tw(ops:Array Oper):Nat->Nat->Prop
 | one {j i:Nat} (h:Region.waitsFor .any ops j i=true):Tw ops j i
 | more {j m i:Nat} (h:Region.waitsFor .any ops j m=true) (h2:Tw ops m i):Tw ops j i
section
variable{ops:Array Oper}
theorem Cl.tw{D}(h:Cl ops D){j i}(hw:Tw ops j i):D j=true->D i=true:=by
 induction hw with
 | one l=>exact λm=>h _ _ m l
 | more l _ q=>exact λm=>q (h _ _ m l)
theorem Bq.yesT{D}{i k}(h:Bq ops D i)(l:Tw ops i k):D k=true:=by
 cases l with
 | one j=>exact h.hw _ j
 | more j m=>exact h.cl.tw m (h.hw _ j)
theorem Bq.noT{D}{i k}(h:Bq ops D i)(j:Tw ops k i):D k=false:=by
 cases l:D k with
 | false=>rfl
 | true=>have:=h.cl.tw j l;rw[h.un] at this;cases this
def RZ(o:Oper):List Nat:=o.after.toList.filterMap λe=>match Region.binds .any e with
 | true=>some e.on
 | false=>none
def Wr(i:Nat)(l:List Nat):List Nat:=match l.any (Nat.beq i) with
 | true=>l
 | false=>i::l
def Ww:List Nat->List Nat->List Nat
 | [],l=>l
 | i::r,l=>Ww r (Wr i l)
def Mg(T:List (List Nat)):List Nat->List Nat->List Nat
 | [],j=>j
 | m::l,j=>match j.any (Nat.beq m) with
  | true=>Mg T l j
  | false=>Mg T l (Ww (T.getD m []) (m::j))
def XV:List Oper->List (List Nat)->List (List Nat)
 | [],T=>T
 | o::rest,T=>XV rest (T++[Mg T (RZ o).reverse []])
theorem p6{i j}{l}(h:j∈Wr i l):j=i\/j∈l:=by
 unfold Wr at h
 split at h
 .exact .inr h
 .exact yD.1 h
theorem ga:∀ {r l:List Nat} {j:Nat},j∈Ww r l->j∈r\/j∈l
 | [],l,j,h=>.inr h
 | i::r,l,j,h=>by
  rcases ga (r:=r) h with m | m
  .exact .inl (xZ _ m)
  .rcases p6 m with rfl | q
   .exact .inl (xY ..)
   .exact .inr q
theorem Uc{T:List (List Nat)} : ∀ {l w:List Nat} {j:Nat},j∈Mg T l w->j∈w\/∃m∈l,j=m\/j∈T.getD m []
 | [],w,j,h=>.inl h
 | m::l,w,j,h=>by
  unfold Mg at h
  split at h
  .rcases Uc h with q | ⟨A,q,B⟩
   .exact .inl q
   .exact .inr ⟨A,xZ _ q,B⟩
  .rcases Uc h with q | ⟨A,q,B⟩
   .rcases ga q with q | q
    .exact .inr ⟨m,xY ..,.inr q⟩
    .rcases yD.1 q with rfl | q
     .exact .inr ⟨_,xY ..,.inl rfl⟩
     .exact .inl q
   .exact .inr ⟨A,xZ _ q,B⟩
theorem vK{o:Oper}{j m}(w:ops[j]?=some o)(h:m∈RZ o):Region.waitsFor .any ops j m=true:=by
 unfold RZ at h
 obtain⟨e,A,l⟩:=List.mem_filterMap.1 h
 split at l
 .rename_i B
  cases l
  unfold Region.waitsFor
  rw[w]
  show(o.after.any λq=>Region.binds .any q&&q.on==e.on)=true
  rw[<- Array.any_toList,y8]
  exact⟨e,A,by rw[B];simp⟩
 .cases l
theorem gX:∀ {l:List Oper} {T:List (List Nat)},(∀j,l[j]?=ops[T.length+j]?)->(∀j i,i∈T.getD j []->Tw ops j i)->∀j i,i∈(XV l T).getD j []->Tw ops j i
 | [],T,_,h,j,i,q=>h j i q
 | o::rest,T,C,h,j,i,q=>by
  have F:ops[T.length]?=some o:=by have:=C 0;simpa using this.symm
  refine gX (l:=rest) (T:=T++[Mg T (RZ o).reverse []]) (λj=>by
   have:=C (j+1)
   simp only[yu] at this
   rw[this,xy,y9]
   congr 1;omega) (λj i q=>?_) j i q
  by_cases I:j<T.length
  .refine h j i ?_
   rw[zR,xT I,<- zR] at q
   exact q
  .by_cases w:j=T.length
   .subst w
    rw[zR,xP (wy _),zW] at q
    simp only[List.getElem?_cons_zero,yP] at q
    rcases Uc q with A | ⟨m,A,B⟩
    .simp at A
    .have E:=vK F (List.mem_reverse.1 A)
     rcases B with rfl | B
     .exact .one E
     .exact .more E (h m i B)
   .rw[zR,yN (by simp;omega)] at q
    simp at q
def fO(ops:Array Oper):List (List Nat):=XV ops.toList []
def tw(T:List (List Nat))(a b:Nat):Bool:=(T.getD a []).any (Nat.beq b)
theorem ph{a b}(h:tw (fO ops) a b=true):Tw ops a b:=by
 refine gX (l:=ops.toList) (T:=[]) (λj=>by simp) (λj i l=>by simp at l) a b ?_
 obtain⟨x,m,q⟩:=y8.1 h
 have:=xR q
 subst this
 exact m
end
structure PE where
 d:Option Nat
 v:AV
 eff:Bool
def PE.po(p:PE):PO:=⟨p.d,λ_=>p.v,none,[]⟩
def Cu(D:Nat->Bool):List PE->Nat->Nat
 | [],_=>0
 | p::l,k=>(match p.eff&&D k with | true=>1 | false=>0)+Cu D l (k+1)
theorem LU{D D'} : ∀(l:List PE) (k:Nat),(∀j,k<=j->j<k+l.length->D j=true->D' j=true)->Cu D l k<=Cu D' l k
 | [],_,_=>wy _
 | p::l,k,h=>by
  have m:=LU l (k+1) λj A B=>h j (by omega) (by simp;omega)
  have q:=h k (wy _) (by simp)
  unfold Cu
  cases p.eff
  .simpa using m
  .cases w:D k
   .simp only[Bool.and_false];omega
   .rw[q w];simp only[zk];omega
theorem cD{D D'}{i}(A:D i=false)(B:D' i=true)(w:∀j,j≠i->D' j=D j):∀(l:List PE) (k:Nat) (p:PE),k<=i->l[i-k]?=some p->Cu D' l k=Cu D l k+(match p.eff with | true=>1 | false=>0)
 | [],k,p,_,h=>by simp at h
 | q::l,k,p,I,h=>by
  unfold Cu
  by_cases m:k=i
  .subst m
   rw[zW] at h
   cases h
   have:Cu D' l (k+1)=Cu D l (k+1):=Nat.le_antisymm (LU l _ λj C _ E=>by rwa [<- w j (by omega)]) (LU l _ λj C _ E=>by rwa [w j (by omega)])
   rw[this,A,B]
   cases q.eff<;>simp<;>omega
  .have F:=cD A B w l (k+1) p (by omega) (by rw[show i-k=(i-(k+1))+1 by omega] at h;simpa using h)
   rw[F,w k m];omega
section
variable{P:Program}{ops:Array Oper}
def TT(T:List (List Nat))(i t:Nat):List PO->Nat->Bool
 | [],_=>true
 | p::L,k=>(match p.d with | some d=>!Nat.beq d t||tw T k i | none=>true)&&TT T i t L (k+1)
theorem fq{T}(w:∀a b,tw T a b=true->Tw ops a b){D}{i t}(A:Bq ops D i):∀ {L:List PO} {k:Nat},TT T i t L k=true->GD PO.wE D t L k
 | [],_,_=>λj p v h=>by simp at h
 | q::L,k,hB=>by
  simp only[TT,xE] at hB
  obtain⟨l,E⟩:=hB
  intro j p v B m C
  cases j with
  | zero=>
   cases B
   rw[(Nu C).1] at l
   simp only[xl,yc,yG] at l m
   rcases l with l | l
   .rw[WAh] at l;cases l
   .rw[A.noT (w _ _ l)] at m;cases m
  | succ j=>exact fq w A E j p v (by simpa using B) (by rwa [show k+1+j=k+(j+1) by omega]) C
def WP(T:List (List Nat))(e:Aa)(L:List PO)(i t:Nat):Option AV:=
 match TT T i t L 0 with
 | true=>some (get e t)
 | false=>(List.range L.length).findSome? λj=>match L[j]? with
  | some p=>match p.d with
   | some l=>if(l=t/\tw T i j=true)/\JX (L.drop (j+1)) t=true then some (p.v λ_=>0) else none
   | none=>none
  | none=>none
theorem pY{T}(m:∀a b,tw T a b=true->Tw ops a b){e}{L:List PE}{i t}{a}{D}(q:Bq ops D i)(h:WP T e (L.map PE.po) i t=some a):get (CI D (λ_=>0) e (L.map PE.po)) t=a:=by
 unfold WP at h
 split at h
 .rename_i hB;cases h;exact(GU CE _ e 0 (fq m q hB)).trans rfl
 .obtain⟨j,_,l⟩:=yE h
  split at l
  .rename_i p hp
   split at l
   .rename_i C hd
    split at l
    .rename_i w;obtain⟨⟨rfl,A⟩,B⟩:=w
     cases l
     exact(I7 CE (Rs hd) _ e 0 j hp (by rw[xd];exact q.yesT (m _ _ A)) (P4 B)).trans rfl
    .cases l
   .cases l
  .cases l
def iq:Op->List Operand
 | .move x | .assign x | .range _ x | .next x _ | .unOp _ _ x | .nilCheck x | .fieldAddr _ x _ | .field _ x _ | .load _ x | .convert _ _ x | .extract x _ | .box _ x=>[x]
 | .binOp _ _ x y _ | .indexAddr _ x y | .index _ x y | .store _ x y | .makeSlice _ x y | .lookup _ x y _=>[x,y]
 | .pick x y z | .mapUpdate _ x y z | .insert _ x y z=>[x,y,z]
 | .slice _ x l m q=>x::(l.toList++m.toList++q.toList)
 | .makeFunc _ _ xs=>xs.toList
 | .build _ j=>j.toList.map (·.2)
 | .buildSlice _ _ j=>j.toList.map (·.2)
 | .call c=>(match c.callee with | .value f=>[f] | _=>[])++c.args.toList
 | _=>[]
def mL(ops:Array Oper)(o:Oper):List Nat:=
 (iq o.op).filterMap (λx=>match x with | .tmp t=>some t | _=>none)++(match o.guard with | some (j,_)=>((ops[j]?).bind (·.dst)).toList | none=>[])
def Rv(T:List (List Nat))(e:Aa)(L:List PO)(i:Nat):List Nat->Option Aa
 | []=>some []
 | t::l=>match WP T e L i t,Rv T e L i l with
  | some a,some r=>some ((t,a)::r)
  | _,_=>none
theorem bD{T}(j:∀a b,tw T a b=true->Tw ops a b){e}{L:List PE}{i}{D}(m:Bq ops D i):∀ {l:List Nat} {R:Aa},Rv T e (L.map PE.po) i l=some R->∀t,get R t=.any\/get R t=get (CI D (λ_=>0) e (L.map PE.po)) t
 | [],R,h,t=>by cases h;exact .inl rfl
 | t0::l,R,h,t=>by
  unfold Rv at h
  split at h
  .rename_i a r q w
   cases h
   rw[CE]
   split
   .rename_i A;subst A;exact .inr (pY j m q).symm
   .exact bD j m w t
  .cases h
theorem Az.weakE{c}{o}{R m}{h h'}{n n'}{v}(q:Az P c o R h n v h' n')(w:∀t,get R t=.any\/get R t=get m t):Az P c o m h n v h' n':=
 λA x a j B C E K Q F=>q A x a j B C (λt=>by
  rcases w t with l | l
  .rw[l];exact .any _
  .rw[l];exact E t) K Q F
theorem Cg.weakE{o}{c}{R B}(h:Cg R ops o c)(C:∀t,get R t=.any\/get R t=get B t):Cg B ops o c:=by
 cases h with
 | @one j l w b hg A m=>
  refine .one hg A ?_
  rcases C l with q | q
  .rw[show BE R (.tmp l)=get R l from rfl,q] at m;cases m
  .exact q.symm.trans m
 | @two j l w b E hg A m=>
  refine .two hg A ?_
  rcases C l with q | q
  .rw[show BE R (.tmp l)=get R l from rfl,q] at m;cases m
  .exact q.symm.trans m
abbrev G3:=Aa->AL->Nat->Oper->Option (AV × AL × Nat)
def Ks(P:Program)(S:G3):Prop:=∀R h n o r,S R h n o=some r->Az P true o R h n r.1 r.2.1 r.2.2
abbrev F7:=Aa->AL->Oper->Option AV
def G4(P:Program)(j:F7):Prop:=∀R h o v,j R h o=some v->∀n,Az P true o R h n v h n
def LW(P:Program)(j:F7)(R:Aa)(h:AL)(o:Oper):Option AV:=match Km P R h o with
 | some v=>some v
 | none=>j R h o
theorem Rz{P}{m}(l:G4 P m){R}{h}{o}{v}(j:LW P m R h o=some v)(n:Nat):Az P true o R h n v h n:=by
 unfold LW at j
 split at j
 .rename_i w q;cases j;exact(LL (c:=true) q).spec n
 .exact l R h o v j n
def Sb(P:Program)(S:G3)(w:F7)(ops:Array Oper)(j:List (AL × Nat))(R:Aa)(k:Nat)(o:Oper)(p:PE):Bool:=match p.eff with
 | false=>match j[k]? with
  | some (h,_)=>match o.guard with
   | none=>match LW P w R h o with
    | some v=>DG v p.v
    | none=>false
   | some _=>match GX R ops o with
    | some true=>match LW P w R h o with
     | some v=>DG v p.v
     | none=>false
    | some false=>DG (.whn false (.r (.bool false))) p.v
    | none=>false
  | none=>false
 | true=>match j[k]?,j[k+1]? with
  | some (h,n),some (l,m)=>
   match o.guard with
   | none=>match S R h n o with
    | some (v,q,n')=>(DG v p.v&&F0 q l)&&Nat.beq n' m
    | none=>false
   | some _=>match GX R ops o with
    | some true=>match S R h n o with
     | some (v,q,n')=>(DG v p.v&&F0 q l)&&Nat.beq n' m
     | none=>false
    | some false=>(DG (.whn false (.r (.bool false))) p.v&&F0 h l)&&Nat.beq n m
    | none=>false
  | _,_=>false
theorem vU{P}{S}{T}(Z:Ks P S)(w:G4 P T){ops}{E}{R}{k}{o:Oper}{p:PE}{h}{n}(F:E[k]?=some (h,n))(j:Sb P S T ops E R k o p=true) :
  ∃(m:AL) (q:Nat),E[k+(match p.eff with | true=>1 | false=>0)]?=some (m,q) /\
   ((o.guard=none/\Az P true o R h n p.v m q)\/(Cg R ops o true/\Az P true o R h n p.v m q)\/(Cg R ops o false/\p.v=.whn false (.r (.bool false))/\m=h/\q=n)):=by
 unfold Sb at j
 cases U:p.eff with
 | false=>
  rw[U,F] at j
  refine⟨h,n,F,?_⟩
  simp only at j
  split at j
  .rename_i hg
   split at j
   .rename_i v I;rw[<- HA j];exact .inl ⟨hg,Rz w I n⟩
   .cases j
  .split at j
   .rename_i l
    split at j
    .rename_i v I;rw[<- HA j];exact .inr (.inl ⟨FT l,Rz w I n⟩)
    .cases j
   .rename_i l;exact .inr (.inr ⟨FT l,(HA j).symm,rfl,rfl⟩)
   .cases j
 | true=>
  rw[U,F] at j
  simp only at j
  split at j
  .rename_i h0 n0 m q V e2
   simp only[xF,xM] at V
   obtain⟨rfl,rfl⟩:=V
   refine⟨m,q,e2,?_⟩
   have A:∀ {v B n'},S R h n o=some (v,B,n')->((DG v p.v&&F0 B m)&&Nat.beq n' q)=true->Az P true o R h n p.v m q:=by
    intro v B n' C X
    simp only[xE] at X
    obtain⟨⟨J,M⟩,O⟩:=X
    rw[<- HA J,<- OB M,<- xR O]
    exact Z R h n o _ C
   split at j
   .rename_i hg
    split at j
    .rename_i v B n' C;exact .inl ⟨hg,A C j⟩
    .cases j
   .split at j
    .rename_i l
     split at j
     .rename_i v B n' C;exact .inr (.inl ⟨FT l,A C j⟩)
     .cases j
    .rename_i l
     simp only[xE] at j
     obtain⟨⟨J,M⟩,O⟩:=j
     exact .inr (.inr ⟨FT l,(HA J).symm,(OB M).symm,(xR O).symm⟩)
    .cases j
  .cases j
def U5(T:List (List Nat))(CK:Aa->Nat->Oper->PE->Bool)(ops:Array Oper)(e:Aa)(N:Nat)(L:List PE)(i:Nat)(o:Oper)(p:PE):Bool:=
 (match o.dst,p.d with | some d,some l=>Nat.beq d l&&Nat.blt d N | none,none=>true | _,_=>false) &&
 match Rv T e (L.map PE.po) i (mL ops o) with
 | some R=>(List.range (Cu (λj=>!(tw T j i||Nat.beq j i)) L 0+1)).all λk=>Nat.blt k (Cu (λj=>tw T i j) L 0)||CK R k o p
 | none=>false
def SG(CK:Aa->Nat->Oper->PE->Bool)(ops:Array Oper)(s:St)(L:List PE):Bool:=
 (Wc ops ops.size&&Gm (L.map PE.po)&&Nat.beq L.length ops.size) &&
 (List.range ops.size).all λi=>match ops[i]?,L[i]? with
  | some o,some p=>U5 (fO ops) CK ops s.e s.N L i o p
  | _,_=>false
def Ug(P:Program)(S:G3)(l:F7)(ops:Array Oper)(s:St)(L:List PE)(j:List (AL × Nat)):Bool:=
 (match j[0]? with | some (h,n)=>F0 s.h h&&Nat.beq s.n n | none=>false)&&SG (Sb P S l ops j) ops s L
def Ve(P:Program)(ops:Array Oper)(m:List (AL × Nat))(CK:Aa->Nat->Oper->PE->Bool):Prop:=∀(R:Aa) (k:Nat) (o:Oper) (p:PE) (h:AL) (n:Nat),m[k]?=some (h,n)->CK R k o p=true ->
  ∃(j:AL) (l:Nat),m[k+(match p.eff with | true=>1 | false=>0)]?=some (j,l) /\
   ((o.guard=none/\Az P true o R h n p.v j l)\/(Cg R ops o true/\Az P true o R h n p.v j l)\/(Cg R ops o false/\p.v=.whn false (.r (.bool false))/\j=h/\l=n))
def H8(c0:Cx)(s:St)(L:List PE)(l:List (AL × Nat))(listed:Array Bool)(a:Act)(w:World):Prop:=
 ∃j,a.defers=j/\a.tmps.size=s.N/\∃(y:Cx) (h:AL) (n:Nat),l[Cu (λk=>listed.getD k false) L 0]?=some (h,n)/\y.w=w/\c0.leM j y/\y.ok/\y.H=hget h/\y.n=n /\
  ∀t,AP y (get (CI (λk=>listed.getD k false) (λ_=>0) s.e (L.map PE.po)) t) (a.tmps.getD t undef)
theorem H8.put{c0:Cx}{s:St}{L:List PE}{Hs}{listed:Array Bool}{a:Act}{i}{p:PE}{y z:Cx}{u}{F}{O}(hp:L[i]?=some p)(hN:∀d, p.d=some d->Nat.blt d s.N=true)(hE:Gm (L.map PE.po)=true)
 (hi:i<listed.size) (hr:Bq ops (λk => listed.getD k false) i) {ds} (I:a.defers=ds) (hsz:a.tmps.size=s.N) (T:c0.leM ds y)
 (A:Hs[Cu (λk => listed.getD k false) L 0+(match p.eff with | true => 1 | false => 0)]?=some (F, O))
 (he:∀t, AP y (get (CI (λk => listed.getD k false) (λ_ => 0) s.e (L.map PE.po)) t) (a.tmps.getD t undef)) (J:y.le z) (M:z.ok) (U:z.H=hget F) (V:z.n=O)
 (hv:AP z p.v u):H8 c0 s L Hs (listed.setIfInBounds i true) (a.put p.d u) z.w := by
  have B:(L.map PE.po)[i]?=some p.po := by rw[xJ, hp];rfl
  have C:∀k, (listed.setIfInBounds i true).getD k false=(listed.getD k false||(k=i)) := λk => by
    by_cases A:i=k
    · subst A;simp[hi]
    · rw[getD_set_ne false A];simp[zu A]
  have w:∀k, k≠i->(listed.setIfInBounds i true).getD k false=listed.getD k false := λk A => by rw[C];simp[A]
  have X:(λk => (listed.setIfInBounds i true).getD k false) (0+i)=true := by show(listed.setIfInBounds i true).getD (0+i) false=true;rw[xd, C];simp
  refine⟨ds, by cases l:p.d<;>simpa[Act.put, l] using I, ?_, z, F, O, ?_, rfl, T.trans J, M, U, V, λt => ?_⟩
  · cases l:p.d<;>simpa[Act.put, l] using hsz
  · rw[cD (D := λk => listed.getD k false) (i := i) hr.un (by show(listed.setIfInBounds i true).getD i false=true;rw[C];simp) w L 0 p (yL _) (by simpa using hp)]
    exact A
  · by_cases m:p.d=some t
    · have Z:get (CI (λk => (listed.setIfInBounds i true).getD k false) (λ_ => 0) s.e (L.map PE.po)) t=p.v :=
        I7 CE (Rs (p := p.po) m) (L.map PE.po) _ 0 i B X (P4 (W9 hE B m))
      have E:t<a.tmps.size := by rw[hsz];exact B8 (hN t m)
      rw[Z, m]
      simp only[Act.put, M2 E, zm]
      exact hv
    · have Z:get (CI (λk => (listed.setIfInBounds i true).getD k false) (λ_ => 0) s.e (L.map PE.po)) t=get (CI (λk => listed.getD k false) (λ_ => 0) s.e (L.map PE.po)) t := by
        refine He CE (L.map PE.po) _ _ 0 rfl λj q v h1 F => ?_
        obtain⟨h4, h5⟩ := Nu F
        have a0:j≠i := λe => by subst e;rw[B] at h1;cases h1;exact m h4
        rw[xd]
        exact⟨w j a0, λ_ => by
          have:q ∈ L.map PE.po := xa h1
          obtain⟨q', _, rfl⟩ := yT.1 this
          rfl⟩
      rw[Z]
      have h0 := (he t).mono J
      cases l:p.d with
      | none => exact h0
      | some d =>
        have a1:d≠t := λe => m (by rw[l, e])
        have E:d<a.tmps.size := by rw[hsz];exact B8 (hN d l)
        simp only[Act.put, M2 E, wv a1]
        exact h0
theorem H8.step{T}(hT:∀a b, tw T a b=true->Tw ops a b){CK}{c0}{s:St}{L:List PE}{Hs}(a0:Ve P ops Hs CK){listed:Array Bool}{a:Act}{w}{i}{p:PE}{o:Oper}{Q}(hp:L[i]?=some p)(ho:ops[i]?=some o)(l:U5 T CK ops s.e s.N L i o p=true)
 (hE:Gm (L.map PE.po)=true) (hi:i<listed.size) (I:Bq ops (λk => listed.getD k false) i) (M:H8 c0 s L Hs listed a w) :
    wpOp P ops Q i (H8 c0 s L Hs (listed.setIfInBounds i true)) a w := by
  obtain⟨_, A, hsz, y, h, n, a1, a2, O, U, V, X, Z⟩ := M
  subst a2
  unfold U5 at l
  rw[xE] at l
  obtain⟨m, l⟩ := l
  have hd:o.dst=p.d/\∀d, p.d=some d->Nat.blt d s.N=true := by
    split at m
    · rename_i d d' q B
      rw[xE] at m
      have := xR m.1
      subst this
      exact⟨q.trans B.symm, λd2 h3 => by rw[B] at h3;cases h3;exact m.2⟩
    · rename_i q B;exact⟨q.trans B.symm, λd2 h3 => by rw[B] at h3;cases h3⟩
    · cases m
  split at l
  · rename_i R hR
    have C := bD hT (D := λk => listed.getD k false) I hR
    have a7:Cu (λj => tw T i j) L 0<=Cu (λk => listed.getD k false) L 0 := LU L 0 λj _ _ q => I.yesT (hT _ _ q)
    have a8:Cu (λk => listed.getD k false) L 0<=Cu (λj => !(tw T j i||Nat.beq j i)) L 0 := LU L 0 λj _ _ q => by
      cases hw:tw T j i with
      | true => have := I.noT (hT _ _ hw);rw[this] at q;cases q
      | false =>
        cases a6:Nat.beq j i with
        | true => have := xR a6;subst this;exact absurd (q.symm.trans I.un) (by decide)
        | false => rfl
    have J := xf.1 l (Cu (λk => listed.getD k false) L 0) (yA.2 (by omega))
    rw[xl] at J
    rcases J with J | J
    · have := B8 J;omega
    · obtain⟨B, n2, e2, E⟩ := a0 _ _ _ _ _ _ a1 J
      unfold wpOp
      simp only[ho]
      have run:Az P true o R h n p.v B n2->o.wp P a y.w (H8 c0 s L Hs (listed.setIfInBounds i true)) Q := λhs =>
        (hs.weakE C) rfl y a U V X Z _ Q λu z k1 k2 k3 k4 k5 => by
          rw[hd.1]
          exact H8.put hp hd.2 hE hi I A hsz O e2 Z k1 k2 k3 k4 k5
      rcases E with ⟨hg, hs⟩ | ⟨F, hs⟩ | ⟨F, hv, rfl, rfl⟩
      · rw[ww (by simp[Region.wanted, hg])]
        exact .inl (run hs)
      · have hw:Region.wanted o (yielded ops a.tmps)=true := Cg.wanted (s := ⟨_, [], 0, 0⟩) (F.weakE C) Z
        rw[hw, ww rfl]
        exact .inl (run hs)
      · have hw:Region.wanted o (yielded ops a.tmps)=false := Cg.wanted (s := ⟨_, [], 0, 0⟩) (F.weakE C) Z
        rw[hw, wv (by decide), hd.1]
        refine H8.put hp hd.2 hE hi I A hsz O e2 Z (.refl y) U V X ?_
        rw[hv];exact .whn (λe => by cases e) (λ_ => rfl)
  · cases l
theorem iD{CK}{id}{s:St}{Q}(L:List PE)(Hs:List (AL × Nat))(a8:Ve P ops Hs CK){h'}{n'}(hm:P.follows .mixedOrders=true)(aa:Hs[0]?=some (s.h, s.n))(hB:SG CK ops s L=true)(a0:Hs[Cu (λ_ => true) L 0]?=some (h', n'))
 (h:Q .normal ⟨CI (λ_ => true) (λ_ => 0) s.e (L.map PE.po), h', n', s.N⟩):AW P (.region id ops true) Q s := by
  intro z0 ab c0 a w ⟨_, a1, hsz, y, ac, ad, ae, hH, hn, T⟩
  subst ac
  obtain⟨r1, r2⟩ := Qr ae
  unfold SG at hB
  simp only[xE] at hB
  obtain⟨⟨⟨b1, b2⟩, b3⟩, b5⟩ := hB
  have ax := xR b3
  refine OP KQ hm ab ?_
  generalize hz:({ y with w := { y.w with drawn := y.w.drawn+1 } } : Cx)=z at r1 r2
  have af:z.w = { y.w with drawn := y.w.drawn+1 } := by rw[<- hz]
  have ag:z.H=hget s.h := by rw[<- hz];exact hH
  have ah:z.n=s.n := by rw[<- hz];exact hn
  rw[<- af]
  have B:∀j, (Array.replicate ops.size false).getD j false=false := getD_replicate_false _
  have key:∀(f:Nat) (listed:Array Bool) (a:Act) (w:World), D6 listed ops.size=f->HeadInv .any ops ops.size listed->H8 c0 s L Hs listed a w->wpAny P .any ops (Dm c0 Q) f listed a w := by
    intro f
    induction f with
    | zero =>
      intro listed a w M C E
      have m := W1 M
      refine⟨?_, ?_⟩
      · rw[List.eq_nil_iff_forall_not_mem]
        intro j hj
        obtain⟨U, o, I, _⟩ := mem_ready.1 hj
        have ai:j<ops.size := (xt.1 I).1
        have := getD_both U
        rw[m j ai] at this;cases this
      · obtain⟨_, i1, i2, z', hh, nn, J, i3, i4, i5, i6, aj, i7⟩ := E
        subst i3
        have ak:Cu (λk => listed.getD k false) L 0=Cu (λ_ => true) L 0 :=
          Nat.le_antisymm (LU L 0 λ_ _ _ _ => rfl) (LU L 0 λj _ hj _ => m j (by omega))
        rw[ak, a0] at J
        cases J
        refine⟨by simp, _, h, _, i1, i2, z', rfl, i4, i5, i6, aj, λt => ?_⟩
        show AP z' (get (ER _ _ _ _ _ _) t) _
        rw[Ty (L.map PE.po) _ 0 (D' := λk => listed.getD k false) λj _ hj => (m j (by simp at hj;omega)).symm]
        exact i7 t
    | succ f ih =>
      intro listed a w M C E
      obtain⟨J, al, a2, F⟩ := Uz (listed := listed) (n := ops.size) (by omega)
      have an:J<listed.size := by rw[C.size];omega
      have A:J ∈ Region.ready .any ops listed := by
        refine mem_ready.2 ⟨getD_in an a2, ?_⟩
        have ao:∃o, ops[J]?=some o := ⟨ops[J]'(by omega), by simp[xe (show J<ops.size by omega)]⟩
        obtain⟨o, I⟩ := ao
        refine⟨o, I, λe T hb => ?_⟩
        have U := xf.1 b1 J (yA.2 al)
        simp only[I] at U
        have h2 := (WAI.1 U) e T
        simp only[hb, WAA, yW, xG] at h2
        exact F _ h2
      refine⟨λh => (by rw[h] at A;cases A), λi hi => ?_⟩
      obtain⟨aq, o, I, m⟩ := mem_ready.1 hi
      have V:i<ops.size := (xt.1 I).1
      have O := getD_both aq
      have a6:i<listed.size := by rw[C.size];omega
      obtain⟨p, hp⟩:∃p, L[i]?=some p := ⟨L[i]'(by omega), by simp[wz (show i<L.length by omega)]⟩
      have a7 := xf.1 b5 i (yA.2 V)
      simp only[I, hp] at a7
      have ar:Bq ops (λk => listed.getD k false) i := by
        refine⟨λj k hj hk => ?_, λk hk => ?_, O⟩
        · obtain⟨oj, au, e, T, hb, X⟩ := Region.waitsFor_spec hk
          rw[<- X];exact C.closed j oj au hj e T hb
        · obtain⟨oi, av, e, T, hb, X⟩ := Region.waitsFor_spec hk
          have:oi=o := xh (av.symm.trans I)
          subst this
          rw[<- X];exact m e T hb
      have step := H8.step (Q := Dm c0 Q) (λ_ _ => ph) a8 hp I a7 b2 a6 ar E
      refine wpOp_mono (λa' w' h' => ih _ a' w' ?_ (C.set hi V) h') step
      have := Ut a6 O ops.size
      rw[ww V] at this
      omega
  have Z:D6 (Array.replicate ops.size false) ops.size=ops.size := Vr B ops.size
  have aw:Cu (λk => (Array.replicate ops.size false).getD k false) L 0=0 := by
    have:∀(l:List PE) (k:Nat), Cu (λk => (Array.replicate ops.size false).getD k false) l k=0 := by
      intro l
      induction l with
      | nil => intro k;rfl
      | cons q l ih => intro k;unfold Cu;rw[ih, B, Bool.and_false]
    exact this L 0
  exact key ops.size _ a z.w Z ⟨by simp, λj oj _ hl => (by rw[B] at hl;cases hl), λt ay ht => by omega⟩
    ⟨_, a1, hsz, z, s.h, s.n, by rw[aw];exact aa, rfl, ad.trans r1, r2, ag, ah, λt => by
      have e1:get (CI (λk => (Array.replicate ops.size false).getD k false) (λ_ => 0) s.e (L.map PE.po)) t=get s.e t := GU CE (L.map PE.po) _ 0 λj p _ _ U => by rw[B] at U;cases U
      rw[e1];exact(T t).mono r1⟩
theorem wT{S:G3}{q:F7}(B:Ks P S)(w:G4 P q){id:Nat}{s:St}{Q:Exit->St->Prop}(L:List PE)(m:List (AL × Nat)){h':AL}{n':Nat}(C:P.follows .mixedOrders=true)(hB:Ug P S q ops s L m=true)(j:m[Cu (λ_=>true) L 0]?=some (h',n'))
  (h:Q .normal ⟨CI (λ_=>true) (λ_=>0) s.e (L.map PE.po),h',n',s.N⟩):AW P (.region id ops true) Q s:=by
 unfold Ug at hB
 rw[xE] at hB
 obtain⟨l,E⟩:=hB
 refine iD (CK:=Sb P S q ops m) L m (λR k o p h n F A=>vU B w F A) C ?_ E j h
 split at l
 .rename_i I J e0
  rw[xE] at l
  rw[e0,OB l.1,xR l.2]
 .cases l
end
section
variable{P:Program}{c:Bool}{o:Oper}{R:Aa}{h:AL}{n:Nat}
end
section
variable{P:Program}{ops:Array Oper}{R:Aa}{h:AL}{n:Nat}{o:Oper}
theorem Az.frz1{c}{n1 id g e sz:Nat}{A}(Z:Az P c o R h n (.own id g) ((id,some (.arr g e sz A))::h) n1):Az P c o R h n (.r (.sl A)) ((id,none)::h) n1:=by
 intro hc x a M hH hn he K Q hK
 refine Z hc x a M hH hn he K Q λu y k1 w X kn k4=>?_
 have q:y.H id=some (.arr g e sz A):=by rw[X,BG,ww rfl]
 let C:Cx:={ y with S:=λb=>y.S b\/∃k,y.β id=some (b,k),H:=hget ((id,none)::h) }
 have j:∀i o,C.H i=some o->i≠id/\y.H i=some o:=by
  intro i o l
  simp only[C,BG] at l
  split at l
  .cases l
  .rename_i E
   refine⟨λe=>E e.symm,?_⟩
   rw[X,BG,wv E];exact l
 have B:y.le C:=⟨wy _,rfl,rfl,rfl,λ_ _=>rfl,λ_ h=>.inl h,rfl,wy _,λi o l _=>⟨o,(j i o l).2,rfl,rfl,rfl⟩,λi o l hf _ _=>⟨o,(j i o l).2,hf,rfl,rfl,rfl,rfl⟩⟩
 have F:C.ok:=by
  refine⟨λb m=>?_,w.F_lt,λb m=>?_,λi o l=>?_,λi o b k l m=>?_,λi i' o o' b k I l O=>w.inj i i' o o' b k I (j _ _ l).2 (j _ _ O).2,w.extOf (λi o l=>⟨o,(j i o l).2⟩) rfl rfl (wy _) (λi o b k l J hS=>hS.elim (w.own' i o b k (j i o l).2 J).2.1 λ⟨I,m⟩=>(j i o l).1 (w.inj' (j i o l).2 q J (.inl m))) (λi o b k l J=>(w.own' i o b k (j i o l).2 J).2.2),w.tabs.le B⟩
  .rcases m with m | ⟨k,m⟩
   .exact w.S_lt b m
   .exact(w.own id _ b k q m).1
  .rcases m with m | ⟨k,m⟩
   .exact w.SF b m
   .exact(w.own id _ b k q m).2.2
  .obtain⟨T,U⟩:=w.obj i o (j _ _ l).2
   exact⟨T,U.mono B (λ_ _ _=>rfl) λ_ _ _ _=>rfl⟩
  .obtain⟨T,U,j3⟩:=w.own i o b k (j _ _ l).2 m
   refine⟨T,?_,j3⟩
   rintro(V | ⟨I,V⟩)
   .exact U V
   .exact(j _ _ l).1 (w.inj i id o _ b k I (j _ _ l).2 q m V)
 exact hK u C (k1.trans B) F rfl kn (.r (Po w q k4 (λ_ h=>.inl h) (λb k m=>.inr ⟨k,m⟩)))
theorem sc{r:AV × AL × Nat}(hr:Ja P R h n o=some r):∃id ob,r.2.1=(id,ob)::h:=by
 unfold Ja at hr
 split at hr
 .unfold S1 at hr
  repeat' split at hr
  all_goals first | (cases hr;exact⟨_,_,rfl⟩) | cases hr
 .repeat' split at hr
  all_goals first | (cases hr;exact⟨_,_,rfl⟩) | cases hr
 .repeat' split at hr
  all_goals first | (cases hr;exact⟨_,_,rfl⟩) | cases hr
 .repeat' split at hr
  all_goals first | (cases hr;exact⟨_,_,rfl⟩) | cases hr
 .repeat' split at hr
  all_goals first | (cases hr;exact⟨_,_,rfl⟩) | cases hr
 .unfold RS at hr
  repeat' split at hr
  all_goals first | (cases hr;exact⟨_,_,rfl⟩) | cases hr
 .cases hr
def q8(o:Oper):Bool:=match o.op with
 | .buildSlice _ _ _=>true
 | .call ⟨.builtin .append,⟨[.const _,_]⟩,_⟩=>true
 | _=>false
def Ms(P:Program)(R:Aa)(h:AL)(n:Nat)(o:Oper):Option (AV × AL × Nat):=match Ja P R h n o with
 | some (v,(id,l)::_,n')=>match q8 o with
  | true=>match v,l with
   | .own i g,some (.arr m _ _ j)=>if i=id/\g=m then some (.r (.sl j),[(id,none)],n') else none
   | _,_=>none
  | false=>some (v,[(id,l)],n')
 | _=>none
theorem mV{v}{d}{n'}(j:Ms P R h n o=some (v,d,n')):Az P true o R h n v (d++h) n':=by
 unfold Ms at j
 split at j
 .rename_i v0 id C tl E m
  obtain⟨A,B,e⟩:=sc m
  have q:=TQ m
  simp only[zZ,xM] at e
  obtain⟨⟨rfl,rfl⟩,rfl⟩:=e
  split at j
  .split at j
   .split at j
    .rename_i i g F e sz w l
     obtain⟨rfl,rfl⟩:=l
     cases j
     exact q.frz1
    .cases j
   .cases j
  .cases j;exact q
 .cases j
def Sa(P:Program)(m:F7)(ops:Array Oper)(j:AL):List Oper->List PE->List (AL × Nat)->Aa->AL->Nat->Option (List PE × List (AL × Nat))
 | [],L,l,_,_,_=>some (L.reverse,l.reverse)
 | o::rest,L,l,e,d,n=>
  match (match o.guard with | none=>some true | some _=>GX e ops o) with
  | some true=>match LW P m e (d++j) o with
   | some v=>Sa P m ops j rest (⟨o.dst,v,false⟩::L) l (Fu o.dst v e) d n
   | none=>match Ms P e (d++j) n o with
    | some (v,q,n')=>Sa P m ops j rest (⟨o.dst,v,true⟩::L) ((q++d,n')::l) (Fu o.dst v e) (q++d) n'
    | none=>none
  | some false=>Sa P m ops j rest (⟨o.dst,.whn false (.r (.bool false)),false⟩::L) l (Fu o.dst (.whn false (.r (.bool false))) e) d n
  | none=>none
def SU(P:Program)(q:F7)(ops:Array Oper)(j:AL)(l:List (AL × Nat))(R:Aa)(k:Nat)(o:Oper)(p:PE):Bool:=match p.eff with
 | false=>match l[k]? with
  | some (d,_)=>match o.guard with
   | none=>match LW P q R (d++j) o with
    | some v=>DG v p.v
    | none=>false
   | some _=>match GX R ops o with
    | some true=>match LW P q R (d++j) o with
     | some v=>DG v p.v
     | none=>false
    | some false=>DG (.whn false (.r (.bool false))) p.v
    | none=>false
  | none=>false
 | true=>match l[k]?,l[k+1]? with
  | some (d,n),some (w,A)=>match o.guard with
   | none=>match Ms P R (d++j) n o with
    | some (v,m,n')=>(DG v p.v&&F0 (m++d) w)&&Nat.beq n' A
    | none=>false
   | some _=>match GX R ops o with
    | some true=>match Ms P R (d++j) n o with
     | some (v,m,n')=>(DG v p.v&&F0 (m++d) w)&&Nat.beq n' A
     | none=>false
    | _=>false
  | _,_=>false
theorem vj{M}(A:G4 P M){w}{O:List (AL × Nat)} : Ve P ops (O.map λq=>(q.1++w,q.2)) (SU P M ops w O):=by
 intro R k o p h n T j
 rw[xJ,xK] at T
 obtain⟨⟨d,m⟩,hd,e⟩:=T
 cases e
 unfold SU at j
 cases U:p.eff with
 | false=>
  rw[U,hd] at j
  refine⟨d++w,m,by rw[xJ];simp[hd],?_⟩
  simp only at j
  split at j
  .rename_i hg
   split at j
   .rename_i v F;rw[<- HA j];exact .inl ⟨hg,Rz A F m⟩
   .cases j
  .split at j
   .rename_i l
    split at j
    .rename_i v F;rw[<- HA j];exact .inr (.inl ⟨FT l,Rz A F m⟩)
    .cases j
   .rename_i l;exact .inr (.inr ⟨FT l,(HA j).symm,rfl,rfl⟩)
   .cases j
 | true=>
  rw[U,hd] at j
  simp only at j
  split at j
  .rename_i d0 n0 I J V e2
   simp only[xF,xM] at V
   obtain⟨rfl,rfl⟩:=V
   refine⟨I++w,J,by rw[xJ];simp[e2],?_⟩
   have B:∀ {v C n'},Ms P R (d++w) m o=some (v,C,n')->((DG v p.v&&F0 (C++d) I)&&Nat.beq n' J)=true->Az P true o R (d++w) m p.v (I++w) J:=by
    intro v C n' E X
    simp only[xE] at X
    obtain⟨⟨Z,q2⟩,q3⟩:=X
    rw[<- HA Z,<- OB q2,<- xR q3,yQ]
    exact mV E
   split at j
   .rename_i hg
    split at j
    .rename_i v C n' E;exact .inl ⟨hg,B E j⟩
    .cases j
   .split at j
    .rename_i l
     split at j
     .rename_i v C n' E;exact .inr (.inl ⟨FT l,B E j⟩)
     .cases j
    .cases j
  .cases j
def Vy(P:Program)(l:F7)(ops:Array Oper)(s:St):Option St:=match Sa P l ops s.h ops.toList [] [([],s.n)] s.e [] s.n with
 | some (L,([],j)::m)=>match Nat.beq j s.n&&SG (SU P l ops s.h (([],j)::m)) ops s L with
  | true=>match (([],j)::m)[Cu (λ_=>true) L 0]? with
   | some (d,n')=>some ⟨CI (λ_=>true) (λ_=>0) s.e (L.map PE.po),d++s.h,n',s.N⟩
   | none=>none
  | false=>none
 | _=>none
theorem rO{m}{Q}(C:P.follows .mixedOrders=true)(w:G4 P m){s s':St}{id}(j:Vy P m ops s=some s')(hc:Q .normal s'):AW P (.region id ops true) Q s:=by
 unfold Vy at j
 split at j
 .rename_i L A B _
  split at j
  .rename_i hB
   rw[xE] at hB
   have E:=xR hB.1
   split at j
   .rename_i d n' l
    cases j
    refine iD (CK:=SU P m ops s.h (([],A)::B)) L ((([],A)::B).map λq=>(q.1++s.h,q.2)) (vj w) C (by rw[<- E];rfl) hB.2 (h':=d++s.h) (n':=n') (by rw[xJ,l];rfl) hc
   .cases j
  .cases j
 .cases j
end
variable{β:Type}
def DC(n:Nat)(k:Nat->β):β:=match n with
 | 0=>k 0
 | m+1=>k (m+1)
theorem DR(n:Nat)(k:Nat->β):DC n k=k n:=by cases n<;>rfl
def Sf(z:Int)(k:Int->β):β:=match z with
 | .ofNat n=>DC n λn=>k (.ofNat n)
 | .negSucc n=>DC n λn=>k (.negSucc n)
theorem YK(z:Int)(k:Int->β):Sf z k=k z:=by cases z<;>simp only[Sf,DR]
def V4(c:UInt8)(k:UInt8->β):β:=DC c.toNat λn=>k (UInt8.ofNat n)
theorem jX(c:UInt8)(k:UInt8->β):V4 c k=k c:=by unfold V4;rw[DR];congr 1;simp
def Q1:List UInt8->(List UInt8->β)->β
 | [],k=>k []
 | c::r,k=>V4 c λc=>Q1 r λr=>k (c::r)
theorem fx:∀(l:List UInt8) (k:List UInt8->β),Q1 l k=k l
 | [],_=>rfl
 | c::r,k=>by unfold Q1;rw[jX,fx r]
def Wb(x:IntKind)(k:IntKind->β):β:=match x with
 | .i8=>k .i8 | .i16=>k .i16 | .i32=>k .i32 | .i64=>k .i64 | .u8=>k .u8 | .u16=>k .u16 | .u32=>k .u32 | .u64=>k .u64
theorem gA(x:IntKind)(k:IntKind->β):Wb x k=k x:=by cases x<;>rfl
def V7(x:Bool)(k:Bool->β):β:=match x with
 | true=>k true
 | false=>k false
theorem fy(x:Bool)(k:Bool->β):V7 x k=k x:=by cases x<;>rfl
mutual
def Ip:RV->(RV->β)->β
 | .int kd n,k=>Wb kd λkd=>Sf n λn=>k (.int kd n)
 | .bool b,k=>V7 b λb=>k (.bool b)
 | .str s,k=>Q1 s λs=>k (.str s)
 | .sl xs,k=>L1 xs λxs=>k (.sl xs)
 | .slf xs,k=>L1 xs λxs=>k (.slf xs)
 | .any,k=>k .any
def Mn:List RV->(List RV->β)->β
 | [],k=>k []
 | a::l,k=>Ip a λa=>Mn l λl=>k (a::l)
def L1:List (List RV)->(List (List RV)->β)->β
 | [],k=>k []
 | a::l,k=>Mn a λa=>L1 l λl=>k (a::l)
end
mutual
theorem co:∀(a:RV) (k:RV->β),Ip a k=k a
 | .int kd n,k=>by unfold Ip;rw[gA,YK]
 | .bool b,k=>by unfold Ip;rw[fy]
 | .str s,k=>by unfold Ip;rw[fx]
 | .sl xs,k=>by unfold Ip;rw[Sl xs]
 | .slf xs,k=>by unfold Ip;rw[Sl xs]
 | .any,k=>by unfold Ip;rfl
theorem VX:∀(a:List RV) (k:List RV->β),Mn a k=k a
 | [],k=>by unfold Mn;rfl
 | a::l,k=>by unfold Mn;rw[co a,VX l]
theorem Sl:∀(a:List (List RV)) (k:List (List RV)->β),L1 a k=k a
 | [],k=>by unfold L1;rfl
 | a::l,k=>by unfold L1;rw[VX a,Sl l]
end
mutual
def D5:AV->(AV->β)->β
 | .r x,k=>Ip x λx=>k (.r x)
 | .agg cs,k=>H5 cs λcs=>k (.agg cs)
 | .tup cs,k=>H5 cs λcs=>k (.tup cs)
 | .own i g,k=>DC i λi=>DC g λg=>k (.own i g)
 | .ptr i g j m,k=>DC i λi=>DC g λg=>DC j λj=>DC m λm=>k (.ptr i g j m)
 | .rop row m,k=>Mn row λrow=>DC m λm=>k (.rop row m)
 | .fn f cs,k=>DC f λf=>H5 cs λcs=>k (.fn f cs)
 | a,k=>k a
def H5:List AV->(List AV->β)->β
 | [],k=>k []
 | a::l,k=>D5 a λa=>H5 l λl=>k (a::l)
end
mutual
theorem ZX:∀(a:AV) (k:AV->β),D5 a k=k a
 | .r x,k=>by unfold D5;rw[co]
 | .agg cs,k=>by unfold D5;rw[Kl cs]
 | .tup cs,k=>by unfold D5;rw[Kl cs]
 | .own i g,k=>by unfold D5;rw[DR,DR]
 | .ptr i g j m,k=>by unfold D5;rw[DR,DR,DR,DR]
 | .rop row m,k=>by unfold D5;rw[VX,DR]
 | .fn f cs,k=>by unfold D5;rw[DR,Kl cs]
 | .mref _ _,k=>by unfold D5;rfl
 | .yld _ _,k=>by unfold D5;rfl
 | .full _,k=>by unfold D5;rfl
 | .pk _ _ _ _ _,k=>by unfold D5;rfl
 | .fo _ _ _ _,k=>by unfold D5;rfl
 | .pre _ _ _,k=>by unfold D5;rfl
 | .ifc _,k=>by unfold D5;rfl
 | .cst _,k=>by unfold D5;rfl
 | .whn _ _,k=>by unfold D5;rfl
 | .any,k=>by unfold D5;rfl
theorem Kl:∀(a:List AV) (k:List AV->β),H5 a k=k a
 | [],k=>by unfold H5;rfl
 | a::l,k=>by unfold H5;rw[ZX a,Kl l]
end
def T8:Option AU->(Option AU->β)->β
 | some (.arr g e sz xs),k=>DC g λg=>DC e λe=>DC sz λsz=>L1 xs λxs=>k (some (.arr g e sz xs))
 | some (.box g e j),k=>DC g λg=>DC e λe=>H5 j λj=>k (some (.box g e j))
 | o,k=>k o
theorem sR(o:Option AU)(k:Option AU->β):T8 o k=k o:=by
 unfold T8
 split
 .rw[DR,DR,DR,Sl]
 .rw[DR,DR,Kl]
 .rfl
def Tp:AL->(AL->β)->β
 | [],k=>k []
 | (i,o)::r,k=>DC i λi=>T8 o λo=>Tp r λr=>k ((i,o)::r)
theorem Xk:∀(h:AL) (k:AL->β),Tp h k=k h
 | [],_=>rfl
 | (i,o)::r,k=>by unfold Tp;rw[DR,sR,Xk r]
def WC(a:AV)(k:AV->β):β:=match a with
 | .r (.int l n)=>Wb l λl=>Sf n λn=>k (.r (.int l n))
 | .r (.bool b)=>V7 b λb=>k (.r (.bool b))
 | .own i g=>DC i λi=>DC g λg=>k (.own i g)
 | .ptr i g j m=>DC i λi=>DC g λg=>DC j λj=>DC m λm=>k (.ptr i g j m)
 | a=>k a
theorem nG(a:AV)(k:AV->β):WC a k=k a:=by
 unfold WC
 split
 .rw[gA,YK]
 .rw[fy]
 .rw[DR,DR]
 .rw[DR,DR,DR,DR]
 .rfl
def Wt(s:St)(k:St->β):β:=match s with
 | ⟨(d,v)::e,h,n,N⟩=>WC v λv=>DC n λn=>k ⟨(d,v)::e,h,n,N⟩
 | s=>k s
theorem lB(s:St)(k:St->β):Wt s k=k s:=by
 unfold Wt
 split
 .rw[nG,DR]
 .rfl
section
variable{P:Program}
theorem Az.frzV{c}{o}{R}{h j}{n n1}{v}{id g e sz}{xs}(J:Az P c o R h n v j n1)(M:hget j id=some (.arr g e sz xs)) :
  Az P c o R h n (Lo id g xs v) (LK id g xs ⟨[(0,v)],j,n1,1⟩).h n1:=by
 intro O x a q T U V K Q X
 refine J O x a q T U V K Q λu y Z k2 k3 k4 k5=>?_
 have l:D9 y ⟨[(0,v)],j,n1,1⟩ { tmps:=#[u],defers:=[] } y.w:=by
  refine⟨_,rfl,rfl,y,rfl,.refl y,k2,k3,k4,λt=>?_⟩
  rw[CE]
  split
  .rename_i ht;subst ht;exact k5
  .exact .any _
 obtain⟨_,_,_,z,w,A,m,B,C,E⟩:=Re (s:=⟨[(0,v)],j,n1,1⟩) M y _ _ l
 have F:=E 0
 have:get (LK id g xs ⟨[(0,v)],j,n1,1⟩).e 0=Lo id g xs v:=rfl
 rw[this] at F
 have I:=X u z (Z.trans A.le) m B C F
 rw[w] at I;exact I
def Mh:Nat->AV->AL->Nat->AV × AL
 | 0,v,h,_=>(v,h)
 | f+1,v,h,n=>match Pi h v with
  | some id=>match hget h id with
   | some (.arr g _ _ xs)=>Mh f (Lo id g xs v) (LK id g xs ⟨[(0,v)],h,n,1⟩).h n
   | _=>(v,h)
  | none=>(v,h)
theorem fX{c}{o}{R}{h}{n n1} : ∀(f:Nat) {v:AV} {j:AL},Az P c o R h n v j n1->Az P c o R h n (Mh f v j n1).1 (Mh f v j n1).2 n1
 | 0,v,j,l=>l
 | f+1,v,j,l=>by
  unfold Mh
  split
  .split
   .rename_i m;exact fX f (l.frzV m)
   .exact l
  .exact l
def nN(o:Oper):Bool:=match o.op with
 | .buildSlice _ _ _=>true
 | .call ⟨.builtin .append,⟨[.const _,_]⟩,_⟩=>true
 | .call ⟨.value _,_,_⟩=>true
 | _=>false
def Ti(S:G3):G3:=λR h n o=>match S R h n o with
 | some (v,j,n')=>match nN o with
  | true=>some ((Mh 9 v j n').1,(Mh 9 v j n').2,n')
  | false=>some (v,j,n')
 | none=>none
theorem qG{S}(m:Ks P S):Ks P (Ti S):=by
 intro R h n o r j
 unfold Ti at j
 split at j
 .rename_i v w n' q
  have l:=m R h n o _ q
  split at j
  .cases j;exact fX 9 l
  .cases j;exact l
 .cases j
def N1(S:G3)(l:F7)(ops:Array Oper):List Oper->List PE->List (AL × Nat)->Aa->AL->Nat->Option (List PE × List (AL × Nat))
 | [],L,j,_,_,_=>some (L.reverse,j.reverse)
 | o::rest,L,j,e,h,n=>
  match (match o.guard with | none=>some true | some _=>GX e ops o) with
  | some true=>match Q3 o with
   | true=>match S e h n o with
    | some (v,_,_)=>N1 S l ops rest (⟨o.dst,v,false⟩::L) j (Fu o.dst v e) h n
    | none=>none
   | false=>match l e h o with
    | some v=>N1 S l ops rest (⟨o.dst,v,false⟩::L) j (Fu o.dst v e) h n
    | none=>match S e h n o with
     | some (v,m,n')=>N1 S l ops rest (⟨o.dst,v,true⟩::L) ((m,n')::j) (Fu o.dst v e) m n'
     | none=>none
  | some false=>N1 S l ops rest (⟨o.dst,.whn false (.r (.bool false)),false⟩::L) j (Fu o.dst (.whn false (.r (.bool false))) e) h n
  | none=>none
def XW(P:Program)(S:G3)(j:F7)(ops:Array Oper)(s:St):Option St:=match N1 S j ops ops.toList [] [(s.h,s.n)] s.e s.h s.n with
 | some (L,l)=>match Ug P S j ops s L l with
  | true=>match l[Cu (λ_=>true) L 0]? with
   | some (m,n')=>some ⟨CI (λ_=>true) (λ_=>0) s.e (L.map PE.po),m,n',s.N⟩
   | none=>none
  | false=>none
 | none=>none
def Qx(S:G3)(ops:Array Oper):List Oper->Aa->AL->Nat->Option Nat
 | [],_,_,_=>none
 | o::rest,e,h,n=>
  match (match o.guard with | none=>some true | some _=>GX e ops o) with
  | some true=>match S e h n o with
   | some (v,j,n')=>match Q3 o with
    | true=>Qx S ops rest (Fu o.dst v e) h n
    | false=>Qx S ops rest (Fu o.dst v e) j n'
   | none=>dH ⟨e,h,n,0⟩ o
  | some false=>Qx S ops rest (Fu o.dst (.whn false (.r (.bool false))) e) h n
  | none=>none
def uZ(F:List Nat)(s:St)(o:Oper):Option Nat:=match o.op with
 | .call ⟨.value fo,xs,_⟩=>match A5 s.e fo with
  | .fn f _=>match F.any (Nat.beq f) with
   | true=>xs.toList.findSome? λx=>Pi s.h (A5 s.e x)
   | false=>none
  | _=>none
 | _=>none
def Sj(F:List Nat)(c:EG):EG:=match c with
 | .ops ops (o::rest) ks s=>match uZ F s o with
  | some id=>match hget s.h id with
   | some (.arr g _ _ xs)=>.ops ops (o::rest) ks (LK id g xs s)
   | _=>c
  | none=>c
 | c=>c
theorem Z4{F}{Q}{c}(h:Holds P Q (Sj F c)):Holds P Q c:=by
 unfold Sj at h
 split at h
 .split at h
  .split at h
   .rename_i j;exact Bn.weak (Re j) h
   .exact h
  .exact h
 .exact h
structure Lv where
 S:G3
 Sp:F7
structure JF(P:Program)(p:Lv):Prop where
 S:Ks P p.S
 Sp:G4 P p.Sp
def We(p:Lv)(ops:Array Oper)(o:Oper)(rest:List Oper)(ks:List Fr)(s:St):Option EG:=match o.op with
 | .call ⟨.value _,_,_⟩=>match (match o.guard with | none=>some true | some _=>GX s.e ops o) with
  | some true=>match p.Sp s.e s.h o with
   | some v=>match o.dst with
    | some d=>match Nat.blt d s.N with
     | true=>some (.ops ops rest ks { e:=(d,v)::s.e,h:=s.h,n:=s.n,N:=s.N })
     | false=>none
    | none=>none
   | none=>none
  | _=>none
 | _=>none
theorem sE{p}(hp:JF P p){Q}{ops}{o:Oper}{rest}{ks}{s:St}{q}(h:We p ops o rest ks s=some q)(hc:Holds P Q q):Holds P Q (.ops ops (o::rest) ks s):=by
 unfold We at h
 split at h
 .split at h
  .rename_i hg
   split at h
   .rename_i v A
    split at h
    .rename_i d hd
     split at h
     .rename_i B;cases h
      have l:(false=false/\o.guard=none)\/Cg s.e ops o true:=by
       cases m:o.guard with
       | none=>exact .inl ⟨rfl,rfl⟩
       | some j=>rw[m] at hg;exact .inr (FT hg)
      exact Bn.cons (K1:=λw=>w=_) (XZ l hd B (hp.Sp _ _ _ _ A _) (AN.nil rfl)) λw e=>e ▸ hc
     .cases h
    .cases h
   .cases h
  .cases h
 .cases h
def VT(s:St)(o:Oper):Option Nat:=match o.op with
 | .slice _ (.tmp t) _ _ _=>match get s.e t with
  | .cst (.slice none 0 0)=>some t
  | _=>none
 | _=>none
theorem pC{s:St}{o}{t}(h:VT s o=some t):AZ s ⟨(t,.r (.sl []))::s.e,s.h,s.n,s.N⟩:=by
 unfold VT at h
 split at h
 .split at h
  .rename_i hg
   cases h
   intro I a w ⟨C,m,hsz,y,q,A,B,E,F,l⟩
   refine⟨C,m,hsz,y,q,A,B,E,F,λj=>?_⟩
   rw[CE]
   split
   .rename_i e
    subst e
    have:=l t
    rw[hg] at this
    generalize a.tmps.getD t undef=v at this ⊢
    cases this
    exact .r .snil
   .exact l j
  .cases h
 .cases h
def RK(P:Program)(p:Lv)(c:EG):Option EG:=match UY P c with
 | some (.ops o r ks s)=>Wt s λs=>some (.ops o r ks s)
 | some l=>some l
 | none=>match c with
  | .code (.region i ops true) ks s=>match XW P (Ti p.S) p.Sp ops s with
   | some j=>some (.out .normal ks j)
   | none=>match Qx (Ti p.S) ops ops.toList s.e s.h s.n with
    | some id=>match hget s.h id with
     | some (.arr g _ _ xs)=>some (.code (.region i ops true) ks (LK id g xs s))
     | _=>none
    | none=>match Vy P p.Sp ops s with
     | some j=>some (.out .normal ks j)
     | none=>none
  | .ops ops (o::rest) ks s=>match VT s o with
   | some t=>some (.ops ops (o::rest) ks ⟨(t,.r (.sl []))::s.e,s.h,s.n,s.N⟩)
   | none=>none
  | _=>none
def UF(P:Program)(p:Lv)(c:EG):Option EG:=match c with
 | .ops ops (o::rest) ks s=>match We p ops o rest ks s with
  | some j=>some j
  | none=>RK P p c
 | c=>RK P p c
theorem kj{S}{q}{Q}(w:P.follows .mixedOrders=true)(A:Ks P S)(m:G4 P q){ops}{s s'}{id}(j:XW P S q ops s=some s')(hc:Q .normal s'):AW P (.region id ops true) Q s:=by
 unfold XW at j
 split at j
 .rename_i L B _
  split at j
  .rename_i hB
   split at j
   .rename_i C n' l
    cases j
    exact wT A m L B w hB l hc
   .cases j
  .cases j
 .cases j
theorem Yo{p}{Q}(l:P.follows .mixedOrders=true)(hp:JF P p){c m}(h:RK P p c=some m)(hc:Holds P Q m):Holds P Q c:=by
 unfold RK at h
 split at h
 .rename_i o r ks s j;rw[lB] at h;cases h;exact Yc l j hc
 .rename_i B _ j;cases h;exact Yc l j hc
 .split at h
  .split at h
   .rename_i q j;cases h;exact kj l (qG hp.S) hp.Sp j hc
   .split at h
    .split at h
     .rename_i w;cases h;exact AW.weak (Re w) hc
     .cases h
    .split at h
     .rename_i q j;cases h;exact rO l hp.Sp j hc
     .cases h
  .split at h
   .rename_i t A;cases h;exact Bn.weak (pC A) hc
   .cases h
  .cases h
theorem kr{p}{Q}(j:P.follows .mixedOrders=true)(hp:JF P p){c l}(h:UF P p c=some l)(hc:Holds P Q l):Holds P Q c:=by
 unfold UF at h
 split at h
 .split at h
  .rename_i q m;cases h;exact sE hp m hc
  .exact Yo j hp h hc
 .exact Yo j hp h hc
def runX(P:Program)(F:List Nat)(p:Lv):Nat->EG->EG
 | 0,c=>c
 | n+1,c=>match UF P p (Sj F (Sj F c)) with
  | some j=>runX P F p n j
  | none=>c
theorem L8{F}{p}{Q}(j:P.follows .mixedOrders=true)(hp:JF P p):∀ {n:Nat} {c:EG},Holds P Q (runX P F p n c)->Holds P Q c
 | 0,c,h=>h
 | n+1,c,h=>by
  unfold runX at h
  split at h
  .rename_i m l;exact Z4 (Z4 (kr j hp l (L8 j hp h)))
  .exact h
def Mb(P:Program):G3:=λR h n o=>match Km P R h o with
 | some v=>some (v,h,n)
 | none=>Ja P R h n o
theorem SS:Ks P (Mb P):=by
 intro R h n o r j
 unfold Mb at j
 split at j
 .rename_i v l;cases j;exact(LL (c:=true) l).spec _
 .exact TQ j
def TF(P:Program)(F:List Nat)(p:Lv)(R:Aa)(h:AL)(n:Nat)(o:Oper):Option (AV × AL × Nat):=match o.op with
 | .call ⟨.value fo,xs,_⟩=>match A5 R fo with
  | .fn f j=>match P.funcs[f]? with
   | some fn=>match fn.body with
    | some code => if (fn.name == "runtime.NumGoroutine") = false /\ Nat.ble (xs.toList.map (A5 R) ++ j).length fn.ntmps = true then
      H5 (xs.toList.map (A5 R)++j) λl=>DC n λn=>Tp h λh=>
      match runX P F p 1000000 (.code code [] ⟨Da 0 l,h,n,fn.ntmps⟩) with
      | .out .ret [] s=>match NE P s fn.results.toList with
       | some r=>some (r,s.h,s.n)
       | none=>none
      | .out .normal [] s=>match NE P s fn.results.toList with
       | some r=>some (r,s.h,s.n)
       | none=>none
      | _=>none
     else none
    | none=>none
   | none=>none
  | _=>none
 | _=>none
theorem bB{F}{p}(O:P.follows .mixedOrders=true)(hp:JF P p){R}{h}{n}{o}{r}(j:TF P F p R h n o=some r):Az P true o R h n r.1 r.2.1 r.2.2:=by
 unfold TF at j
 split at j
 .rename_i fo xs U V
  split at j
  .rename_i f m E
   split at j
   .rename_i fn X
    split at j
    .rename_i code Z
     split at j
     .rename_i T
      rw[Kl,DR,Xk] at j
      have A:Ev true R fo (.fn f m):=by rw[<- E];exact Bf true R fo
      have B:∀(v:AV) (I:AL) (n':Nat),AW P code (I1 P fn.results.toList λr q w=>r=v/\q=I/\w=n') ⟨Da 0 (xs.toList.map (A5 R)++m),h,n,fn.ntmps⟩->Az P true o R h n v I n':=by
       intro v I n' hw hc z a J hH hn he K Q hK
       refine Rb V A (Nk true R xs.toList) X Z T.1 rfl (xu T.2) J hH hn he hw K Q λu y r q w k1 k2 k3 k4 k5 ⟨e1,e2,e3⟩=>?_
       subst e1;subst e2;subst e3
       exact hK u y k1 k2 k3 k4 k5
      split at j
      .rename_i s M
       split at j
       .rename_i C l;cases j
        refine B _ _ _ (L8 (F:=F) (Q:=I1 P fn.results.toList λr q w=>r=C/\q=s.h/\w=s.n) (c:=.code code [] _) (n:=1000000) O hp ?_)
        rw[M];exact⟨C,Tt l,rfl,rfl,rfl⟩
       .cases j
      .rename_i s M
       split at j
       .rename_i C l;cases j
        refine B _ _ _ (L8 (F:=F) (Q:=I1 P fn.results.toList λr q w=>r=C/\q=s.h/\w=s.n) (c:=.code code [] _) (n:=1000000) O hp ?_)
        rw[M];exact⟨C,Tt l,rfl,rfl,rfl⟩
       .cases j
      .cases j
     .cases j
    .cases j
   .cases j
  .cases j
 .cases j
def MZ(h:AL):List AV->Option (List AV)
 | []=>some []
 | a::l=>match (match a with
   | .own id g=>match hget h id with
    | some (.arr j _ _ xs)=>if j=g then some (.r (.sl xs)) else none
    | _=>none
   | a=>match a.closed with
    | true=>some a
    | false=>none),MZ h l with
  | some b,some m=>some (b::m)
  | _,_=>none
def LY(h:AL)(a:AV):Option AV:=match a with
 | .own id g=>match hget h id with
  | some (.arr j _ _ xs)=>if j=g then some (.r (.sl xs)) else none
  | _=>none
 | .agg l=>(MZ h l).map .agg
 | a=>match a.closed with
  | true=>some a
  | false=>none
theorem Yp{h} : ∀ {cs ds:List AV},MZ h cs=some ds->OR h cs ds
 | [],ds,q=>by cases q;trivial
 | a::l,ds,q=>by
  unfold MZ at q
  split at q
  .rename_i b m j w
   cases q
   refine⟨?_,Yp w⟩
   split at j
   .split at j
    .rename_i A
     split at j
     .rename_i hg;subst hg;cases j;exact .own A
     .cases j
    .cases j
   .split at j
    .rename_i B;cases j;exact .closed _ B
    .cases j
  .cases q
theorem S6{h}{a b}(j:LY h a=some b):Fz h a b:=by
 unfold LY at j
 split at j
 .split at j
  .rename_i l
   split at j
   .rename_i hg;subst hg;cases j;exact .one (.own l)
   .cases j
  .cases j
 .rw[xK] at j
  obtain⟨w,m,rfl⟩:=j
  exact .agg (Yp m)
 .split at j
  .rename_i q;cases j;exact .one (.closed _ q)
  .cases j
def MQ(R:Aa)(h:AL):List Operand->Option (List AV)
 | []=>some []
 | x::xs=>match LY h (A5 R x),MQ R h xs with
  | some b,some j=>some (b::j)
  | _,_=>none
theorem bY{R}{h} : ∀ {xs:List Operand} {bs:List AV},MQ R h xs=some bs->HS true R h xs bs
 | [],bs,j=>by cases j;trivial
 | x::xs,bs,j=>by
  unfold MQ at j
  split at j
  .rename_i b l m q
   cases j
   exact⟨⟨_,Bf true R x,S6 m⟩,bY q⟩
  .cases j
theorem dR{R} : ∀(xs:List Operand),Dc (xs.map (A5 R))=true->Ps true R xs (xs.map (A5 R))
 | [],_=>trivial
 | x::xs,h=>by
  simp only[xj,Dc,xE] at h
  exact⟨.inl ⟨Bf true R x,h.1⟩,dR xs h.2⟩
def TU(P:Program)(s:St):ResultVar->Option AV
 | .tmp t=>LY s.h (get s.e t)
 | .cell a t=>match get s.e a with
  | .ptr id g 0 0=>match hget s.h id with
   | some (.box l _ j)=>if l=g then match Ll P t with
     | true=>match j with
      | [r]=>LY s.h r
      | _=>none
     | false=>match KX P t with
      | some sz=>if j.length=sz then LY s.h (.agg j) else none
      | none=>none
    else none
   | _=>none
  | _=>none
theorem gF{s}{x}{r}(h:TU P s x=some r):EF P s x r:=by
 unfold TU at h
 split at h
 .exact S6 h
 .split at h
  .rename_i id g hp
   split at h
   .rename_i w e A j
    split at h
    .rename_i hg;subst hg
     split at h
     .rename_i l
      split at h
      .exact .inl ⟨id,_,_,_,PG l,hp,j,S6 h⟩
      .cases h
     .split at h
      .rename_i sz m
       split at h
       .rename_i q;exact .inr ⟨sz,id,_,_,_,PA m,hp,j,q,S6 h⟩
       .cases h
      .cases h
    .cases h
   .cases h
  .cases h
def TY(P:Program)(s:St):List ResultVar->Option (List AV)
 | []=>some []
 | x::l=>match TU P s x,TY P s l with
  | some r,some j=>some (r::j)
  | _,_=>none
theorem bZ{s} : ∀ {l:List ResultVar} {j:List AV},TY P s l=some j->NJ (EF P s) l j
 | [],j,h=>by cases h;trivial
 | x::l,j,h=>by
  unfold TY at h
  split at h
  .rename_i r m q w;cases h;exact⟨gF q,bZ w⟩
  .cases h
def Ru(P:Program)(s:St)(l:List ResultVar):Option AV:=match l with
 | [x]=>TU P s x
 | l=>(TY P s l).map .tup
theorem Y7{s}{l}{r}(h:Ru P s l=some r):NT (EF P s) l r:=by
 unfold Ru at h
 split at h
 .exact gF h
 .rename_i A j
  rw[xK] at h
  obtain⟨m,q,rfl⟩:=h
  have w:=bZ q
  unfold NT
  split
  .rename_i x;exact absurd rfl (j x)
  .exact⟨m,rfl,w⟩
def WE(P:Program)(j:List ResultVar):EG->Option AV
 | .out .ret [] s=>Ru P s j
 | .out .normal [] s=>Ru P s j
 | _=>none
theorem rC{j}{c}{r}(h:WE P j c=some r):Holds P (Fk P j r) c:=by
 unfold WE at h
 split at h
 .exact Y7 h
 .exact Y7 h
 .cases h
def Nb(P:Program)(F X:List Nat)(p:Lv)(R:Aa)(h:AL)(o:Oper):Option AV:=match o.op with
 | .call ⟨.value fo,xs,_⟩=>match A5 R fo with
  | .fn f j=>match X.any (Nat.beq f) with
   | true=>none
   | false=>match Dc j,MQ R h xs.toList with
    | true,some l=>match P.funcs[f]? with
     | some fn=>match fn.body with
      | some code => if (fn.name == "runtime.NumGoroutine") = false /\ Nat.ble (l ++ j).length fn.ntmps = true /\ Dc (l ++ j) = true then
        H5 (l++j) λm=>
        match WE P fn.results.toList (runX P F p 1000000 (.code code [] ⟨Da 0 m,[],0,fn.ntmps⟩)) with
        | some r=>D5 r λr=>if r.closed=true/\(r.flat=true\/Dc (xs.toList.map (A5 R))=true) then some r else none
        | none=>none
       else none
      | none=>none
     | none=>none
    | _,_=>none
  | _=>none
 | _=>none
theorem eH{R}{h} : ∀ {xs:List Operand} {bs:List AV},MQ R h xs=some bs->Dc (xs.map (A5 R))=true->bs=xs.map (A5 R)
 | [],bs,j,_=>by cases j;rfl
 | x::xs,bs,j,B=>by
  unfold MQ at j
  simp only[xj,Dc,xE] at B
  split at j
  .rename_i b I q J
   cases j
   rw[xj,eH J B.2]
   congr 1
   unfold LY at q
   split at q
   .rename_i F;rw[F] at B;cases B.1
   .rename_i w F
    rw[xK] at q
    obtain⟨C,M,rfl⟩:=q
    rw[F] at B ⊢
    have:∀(w C:List AV),Dc w=true->MZ h w=some C->C=w:=by
     intro w
     induction w with
     | nil=>intro C _ j;cases j;rfl
     | cons a l O=>
      intro C A j
      simp only[Dc,xE] at A
      unfold MZ at j
      split at j
      .rename_i b m E T
       cases j
       rw[O m A.2 T]
       congr 1
       split at E
       .cases A.1
       .split at E
        .cases E;rfl
        .cases E
      .cases j
    rw[this w C B.1 M]
   .split at q
    .cases q;rfl
    .cases q
  .cases j
theorem TV{F X}{p}(T:P.follows .mixedOrders=true)(hp:JF P p):G4 P (Nb P F X p):=by
 intro R h o v j n
 unfold Nb at j
 split at j
 .rename_i fo xs U M
  split at j
  .rename_i f q E
   split at j
   .cases j
   .split at j
    .rename_i I l m
     split at j
     .rename_i fn V
      split at j
      .rename_i code Z
       split at j
       .rename_i J
        rw[Kl] at j
        split at j
        .rename_i r B
         rw[ZX] at j
         split at j
         .rename_i O
          cases j
          have w:Ev true R fo (.fn f q):=by rw[<- E];exact Bf true R fo
          have A:AY P f (I++q) v:=Xg V Z J.1 rfl O.1 J.2.2 (xu J.2.1) (L8 (F:=F) (Q:=Fk P fn.results.toList v) T hp (rC B))
          rcases O.2 with C | C
          .exact Db M w l (bY m) (λ_=>A) C
          .refine Dz M w l (dR xs.toList C) (λ_=>?_)
           rw[<- eH m C];exact A
         .cases j
        .cases j
       .cases j
      .cases j
     .cases j
    .cases j
  .cases j
 .cases j
def PF(P:Program)(T:List (FuncId × Bool)):Prop:=∀p∈T,AY P p.1 [] (.r (.bool p.2))
def Mr(T:List (FuncId × Bool))(R:Aa)(o:Oper):Option AV:=match o.op with
 | .call ⟨.value fo,⟨[]⟩,_⟩=>match A5 R fo with
  | .fn f []=>match T.find? (λp=>Nat.beq p.1 f) with
   | some p=>some (.r (.bool p.2))
   | none=>none
  | _=>none
 | _=>none
theorem Q2{T}(w:PF P T){R}{h}{n}{o}{r}(j:Mr T R o=some r):Az P true o R h n r h n:=by
 unfold Mr at j
 split at j
 .rename_i fo A B
  split at j
  .rename_i f m
   split at j
   .rename_i p hp
    cases j
    have C:=List.mem_of_find?_eq_some hp
    have E:p.1=f:=xR (by have:=List.find?_some hp;exact this)
    have l:Ev true R fo (.fn f []):=by rw[<- m];exact Bf true R fo
    have q:=w p C
    rw[E] at q
    exact Db (caps:=[]) (bs:=[]) B l rfl trivial (λ_=>q) rfl
   .cases j
  .cases j
 .cases j
def Lp(P:Program)(T:List (FuncId × Bool))(F X:List Nat):Nat->Lv
  | 0 => ⟨Mb P, λ_ _ _ => none⟩
  | l+1 =>
    ⟨λR h n o => match Mb P R h n o with
      | some r => some r
      | none => match Mr T R o with
        | some v => some (v, h, n)
        | none => match Nb P F X (Lp P T F X l) R h o with
          | some v => some (v, h, n)
          | none => TF P F (Lp P T F X l) R h n o,
     λR h o => match Mr T R o with
      | some v => some v
      | none => Nb P F X (Lp P T F X l) R h o⟩
theorem dW{T}{F X}(q:P.follows .mixedOrders=true)(w:PF P T):∀l:Nat,JF P (Lp P T F X l)
 | 0=>⟨SS,λR h o v j=>by cases j⟩
 | l+1=>by
  have A:=dW q w l (F:=F) (X:=X)
  refine⟨λR h n o r j=>?_,λR h o v j n=>?_⟩
  .unfold Lp at j
   dsimp only at j
   split at j
   .rename_i B m;cases j;exact SS R h n o _ m
   .split at j
    .rename_i v m;cases j;exact Q2 w m
    .split at j
     .rename_i v m;cases j;exact TV q A _ _ _ _ m _
     .exact bB q A j
  .unfold Lp at j
   dsimp only at j
   split at j
   .rename_i C m;cases j;exact Q2 w m
   .exact TV q A _ _ _ _ j _
theorem AY.runX {f} {fn : Func} {code} {N} {b} (T : List (FuncId × Bool)) (q : PF P T) (F X : List Nat) (l n : Nat) (m : P.follows .mixedOrders = true) (w : P.funcs[f]? = some fn) (A : fn.body = some code) (j : (fn.name == "runtime.NumGoroutine") = false) (B : fn.ntmps = N)
 (C:TC fn.results.toList (Al.runX P F (Lp P T F X l) n (.code code [] ⟨[], [], 0, N⟩))=some b):AY P f [] (.r (.bool b)) :=
  Xg w A j B rfl rfl (yL _) (L8 (F := F) (Q := Fk P fn.results.toList (.r (.bool b))) m (dW m q l) (dB C))
end
section
variable{P:Program}
def MA:Nat->Nat->List UInt8
 | 0,_=>[]
 | f+1,u=>match Nat.blt u 10 with
  | true=>[UInt8.ofNat (48+u)]
  | false=>MA f (u / 10)++[UInt8.ofNat (48+u % 10)]
theorem Ua:∀(f u:Nat),u<10 ^ f->0<f->MA f u=Lib.decDigits u
 | 0,_,_,h=>absurd h (Nat.lt_irrefl 0)
 | f+1,u,q,_=>by
  unfold MA
  rw[Lib.decDigits]
  cases m:Nat.blt u 10 with
  | true=>
   have:u<10:=by simpa using m
   rw[zU this]
  | false=>
   have j:¬ u<10:=by
    intro h
    have:Nat.blt u 10=true:=by simpa using h
    rw[m] at this;cases this
   rw[WAM j]
   have w:0<f:=by
    rcases Nat.eq_zero_or_pos f with h | h
    .subst h;omega
    .exact h
   have l:u / 10<10 ^ f:=by
    rw[Nat.pow_succ] at q
    exact Nat.div_lt_of_lt_mul (by omega)
   show MA f (u / 10)++_=_
   rw[Ua f (u / 10) l w]
def VR:Int->Option (List UInt8)
 | .ofNat u=>match Nat.ble u 9223372036854775807 with
  | true=>some (MA 20 u)
  | false=>none
 | .negSucc u=>match Nat.ble u 9223372036854775807 with
  | true=>some (45::MA 20 (u+1))
  | false=>none
theorem mq{n}{r}(h:VR n=some r):itoaS n=some r:=by
 unfold VR at h
 unfold itoaS
 split at h
 .rename_i u
  split at h
  .rename_i l
   cases h
   have m:=xu l
   have j:(Int.ofNat u)=(u:Int):=rfl
   rw[ww (by rw[j];constructor<;>omega)]
   unfold Lib.itoa
   rw[wv (by rw[j];omega),Ua 20 u (by omega) (by decide)]
   rfl
  .cases h
 .rename_i u
  split at h
  .rename_i l
   cases h
   have m:=xu l
   have j:(Int.negSucc u) = -((u:Int)+1):=rfl
   rw[ww (by rw[j];constructor<;>omega)]
   unfold Lib.itoa
   rw[ww (by rw[j];omega),Ua 20 (u+1) (by omega) (by decide)]
   rfl
  .cases h
def Yl(fid:Nat):F7:=λR _ o=>match o.op with
 | .call ⟨.value fo,⟨[x]⟩,_⟩=>match A5 R fo with
  | .fn f []=>match Nat.beq f fid with
   | true=>match A5 R x with
    | .r (.int .i64 n)=>match VR n with
     | some s=>some (.r (.str s))
     | none=>none
    | _=>none
   | false=>none
  | _=>none
 | _=>none
theorem lH{fid}(w:∀n r,itoaS n=some r->AY P fid [.r (.int .i64 n)] (.r (.str r))):G4 P (Yl fid):=by
 intro R h o v j I
 unfold Yl at j
 split at j
 .rename_i fo x A B
  split at j
  .rename_i f m
   split at j
   .rename_i C
    split at j
    .rename_i n E
     split at j
     .rename_i s F
      cases j
      obtain rfl:=xR C
      have l:Ev true R fo (.fn f []):=by rw[<- m];exact Bf true R fo
      have q:Ev true R x (.r (.int .i64 n)):=by rw[<- E];exact Bf true R x
      exact Db (caps:=[]) (bs:=[.r (.int .i64 n)]) B l rfl ⟨⟨_,q,.one (.closed _ rfl)⟩,trivial⟩ (λ_=>w n s (mq F)) rfl
     .cases j
    .cases j
   .cases j
  .cases j
 .cases j
def LF(P:Program)(E:F7)(T:List (FuncId × Bool))(F X:List Nat):Nat->Lv
  | 0 => ⟨Mb P, λ_ _ _ => none⟩
  | l+1 =>
    ⟨λR h n o => match Mb P R h n o with
      | some r => some r
      | none => match Mr T R o with
        | some v => some (v, h, n)
        | none => match E R h o with
          | some v => some (v, h, n)
          | none => match Nb P F X (LF P E T F X l) R h o with
            | some v => some (v, h, n)
            | none => TF P F (LF P E T F X l) R h n o,
     λR h o => match Mr T R o with
      | some v => some v
      | none => match E R h o with
        | some v => some v
        | none => Nb P F X (LF P E T F X l) R h o⟩
theorem dQ{E}(w:G4 P E){T}{F X}(q:P.follows .mixedOrders=true)(A:PF P T):∀l:Nat,JF P (LF P E T F X l)
 | 0=>⟨SS,λR h o v j=>by cases j⟩
 | l+1=>by
  have B:=dQ w q A l (F:=F) (X:=X)
  refine⟨λR h n o r j=>?_,λR h o v j n=>?_⟩
  .unfold LF at j
   dsimp only at j
   split at j
   .rename_i I m;cases j;exact SS R h n o _ m
   .split at j
    .rename_i v m;cases j;exact Q2 A m
    .split at j
     .rename_i v m;cases j;exact w _ _ _ _ m _
     .split at j
      .rename_i v m;cases j;exact TV q B _ _ _ _ m _
      .exact bB q B j
  .unfold LF at j
   dsimp only at j
   split at j
   .rename_i C m;cases j;exact Q2 A m
   .split at j
    .rename_i C m;cases j;exact w _ _ _ _ m _
    .exact TV q B _ _ _ _ j _
theorem wV {E} (q : G4 P E) {f} {fn : Func} {code} {N} {b} (T : List (FuncId × Bool)) (w : PF P T) (F X : List Nat) (l n : Nat) (m : P.follows .mixedOrders = true) (A : P.funcs[f]? = some fn) (B : fn.body = some code) (j : (fn.name == "runtime.NumGoroutine") = false) (C : fn.ntmps = N)
 (I:TC fn.results.toList (Al.runX P F (LF P E T F X l) n (.code code [] ⟨[], [], 0, N⟩))=some b):AY P f [] (.r (.bool b)) :=
  Xg A B j C rfl rfl (yL _) (L8 (F := F) (Q := Fk P fn.results.toList (.r (.bool b))) m (dQ q m w l) (dB I))
end
open Go.Shelf Go.Proofs
theorem cK:Ux Tryz.prog 181 4:=⟨⟨Tryz.f181,Tryz.func181,rfl,rfl⟩,_,rfl,qF,Tryz.isAgg133,Tryz.sizeOf133⟩
end Go.Proofs.YtcgleifameckmaaGreatDoor.Al

namespace Go.Proofs.YtcgleifameckmaaGreatDoor.Al
theorem iL{α:Sort _}{x:α}{p:Prop} : x=x\/p:=.inl rfl
section
variable{P:Program}{ops:Array Oper}{rest:List Oper}{s:St}{K:St->Prop}{o:Oper}
theorem sQ{d}{v}(hg:(o.guard, o.dst, Nat.blt d s.N)=(none, some d, true))(j:AS P true o s.e s.h v)
 (l:AN P ops rest { e := (d, v)::s.e, h := s.h, n := s.n, N := s.N } K):AN P ops (o::rest) s K :=
  AN.step (yi hg).1 (yi (yi hg).2).1 (yi (yi hg).2).2 (AS.spec j _) l
end
theorem jL{α:Sort _}{x:α}{p q:Prop} : (x=x\/p)\/q:=.inl (.inl rfl)
theorem iR{c}{R}{x}{v}(h:BE R x=.whn c v):Ev c R x v:=.inr ⟨c,id,h⟩
theorem nL{n:Nat} : n<=n:=wy n
theorem fR{α β:Sort _}{x:β}(_:α):x=x:=rfl
section
variable{P:Program}{ops:Array Oper}{rest:List Oper}{s:St}{K:St->Prop}{o:Oper}
theorem aZ(h:K s):AN P ops [] s K:=AN.nil h
end
section
variable{P:Program}{Q:Exit->St->Prop}{s:St}{x y:Code}
theorem aS(h:∀K:St->Prop,(∀s,AW P y Q s->K s)->(∀s j,AZ s j->K j->K s)->AW P x (Es K Q) s):AW P (.seq x y) Q s:=v7 h
theorem aR{id}{l:List Oper}(h:AN P l.toArray l s (Q .normal)):AW P (.region id l.toArray false) Q s:=AW.region h
theorem aC{c}{b}(hc:BE s.e c=.r (.bool b))(j:b=true->AW P x Q s)(l:b=false->AW P y Q s):AW P (.cond c x y) Q s:=AW.cond hc j l
end
theorem fB{P}{c}{o:Oper}{R}{h}{t}{x}{f off}{id g g' i k}{e}{cs}(j:o.op=.fieldAddr t x f)(l:An P t f off)(m:Ev c R x (.ptr id g i k))(q:c=true->hget h id=some (.box g' e cs))
 (hg:g'=g):AS P c o R h (.ptr id g i (k+off)) := CO (ob := .box g' e cs) j l m q hg
@[reducible] def rI(k:Int):AV:=.r (.int .i64 k)
@[reducible] def rB(b:Bool):AV:=.r (.bool b)
@[reducible] def cZ:AV:=.cst (.slice none 0 0)
inductive Bp(e:Aa):List Nat->Aa->Prop
 | nil:Bp e [] []
 | cons {k:Nat} {ks:List Nat} {v:AV} {r:Aa} (h:get e k=v) (t:Bp e ks r):Bp e (k::ks) ((k,v)::r)
inductive FW(e:AL):List Nat->AL->Prop
 | nil:FW e [] []
 | cons {k:Nat} {ks:List Nat} {v:AU} {r:AL} (h:hget e k=some v) (t:FW e ks r):FW e (k::ks) ((k,some v)::r)
theorem Bp.cv{e}{ks}{e'}(h:Bp e ks e'):OD e' e:=by
 induction h with
 | nil=>trivial
 | cons h _ j=>exact⟨.inl (.inl h),j⟩
theorem FW.cv{e}{ks}{e'}(h:FW e ks e'):PP e' e:=by
 induction h with
 | nil=>trivial
 | cons h _ j=>exact⟨.inl h,j⟩
section
variable{e:Aa}{k:Nat}{ks:List Nat}{r:Aa}
theorem kR{d}(t:Bp e ks r)(h:get e k=.r d):Bp e (k::ks) ((k,.r d)::r):=.cons h t
theorem kP{a b c d}(t:Bp e ks r)(h:get e k=.ptr a b c d):Bp e (k::ks) ((k,.ptr a b c d)::r):=.cons h t
theorem kO{a b}(t:Bp e ks r)(h:get e k=.own a b):Bp e (k::ks) ((k,.own a b)::r):=.cons h t
theorem kA{d}(t:Bp e ks r)(h:get e k=.agg d):Bp e (k::ks) ((k,.agg d)::r):=.cons h t
theorem kC{d}(t:Bp e ks r)(h:get e k=.cst d):Bp e (k::ks) ((k,.cst d)::r):=.cons h t
theorem kT{d}(t:Bp e ks r)(h:get e k=.tup d):Bp e (k::ks) ((k,.tup d)::r):=.cons h t
theorem kF{f}{d}(t:Bp e ks r)(h:get e k=.fn f d):Bp e (k::ks) ((k,.fn f d)::r):=.cons h t
theorem kQ{d}{i}(t:Bp e ks r)(h:get e k=.rop d i):Bp e (k::ks) ((k,.rop d i)::r):=.cons h t
theorem kM{a b}(t:Bp e ks r)(h:get e k=.mref a b):Bp e (k::ks) ((k,.mref a b)::r):=.cons h t
theorem kW{b}{v}(t:Bp e ks r)(h:get e k=.whn b v):Bp e (k::ks) ((k,.whn b v)::r):=.cons h t
theorem kK{a b c d f}(t:Bp e ks r)(h:get e k=.pk a b c d f):Bp e (k::ks) ((k,.pk a b c d f)::r):=.cons h t
theorem kU{a b c}{d}(t:Bp e ks r)(h:get e k=.fo a b c d):Bp e (k::ks) ((k,.fo a b c d)::r):=.cons h t
theorem kI{b}(t:Bp e ks r)(h:get e k=.ifc b):Bp e (k::ks) ((k,.ifc b)::r):=.cons h t
theorem kV{a b c}(t:Bp e ks r)(h:get e k=.pre a b c):Bp e (k::ks) ((k,.pre a b c)::r):=.cons h t
theorem kY{a b}(t:Bp e ks r)(h:get e k=.yld a b):Bp e (k::ks) ((k,.yld a b)::r):=.cons h t
theorem kL{xs}(t:Bp e ks r)(h:get e k=.full xs):Bp e (k::ks) ((k,.full xs)::r):=.cons h t
end
section
variable{e:AL}{k:Nat}{ks:List Nat}{r:AL}
theorem hB{g}{t}{cs}(t1:FW e ks r)(h:hget e k=some (.box g t cs)):FW e (k::ks) ((k,some (.box g t cs))::r):=.cons h t1
theorem hA{g}{t}{sz}{xs}(t1:FW e ks r)(h:hget e k=some (.arr g t sz xs)):FW e (k::ks) ((k,some (.arr g t sz xs))::r):=.cons h t1
theorem hC{o}(t1:FW e ks r)(h:hget e k=some o):FW e (k::ks) ((k,some o)::r):=.cons h t1
end
section
variable{P:Program}{Q:Exit->St->Prop}{x y:Code}
theorem aF{e:Aa}{h:AL}{n N:Nat}(ks:List Nat){e':Aa}(hr:AW P x Q ⟨e',[],n,N⟩)
  (he:Bp e ks e':=by repeat' first | exact Bp.nil | apply kR _ rfl | apply kP _ rfl | apply kA _ rfl | apply kO _ rfl | apply kC _ rfl | apply kT _ rfl | apply kF _ rfl | apply kQ _ rfl | apply kM _ rfl | apply kW _ rfl | apply kL _ rfl | apply kK _ rfl | apply kU _ rfl | apply kI _ rfl | apply kV _ rfl | apply kY _ rfl):AW P x Q ⟨e,h,n,N⟩:=
 AW.weak (AZ.cv (h':=[]) he.cv trivial (wy _)) hr
theorem aG{e:Aa}{h:AL}{n N:Nat}(ks js:List Nat){e':Aa}{h':AL}(hr:AW P x Q ⟨e',h',n,N⟩)
  (he:Bp e ks e':=by repeat' first | exact Bp.nil | apply kR _ rfl | apply kP _ rfl | apply kA _ rfl | apply kO _ rfl | apply kC _ rfl | apply kT _ rfl | apply kF _ rfl | apply kQ _ rfl | apply kM _ rfl | apply kW _ rfl | apply kL _ rfl | apply kK _ rfl | apply kU _ rfl | apply kI _ rfl | apply kV _ rfl | apply kY _ rfl)
  (hh:FW h js h':=by repeat' first | exact FW.nil | apply hB _ rfl | apply hA _ rfl | apply hC _ rfl):AW P x Q ⟨e,h,n,N⟩:=
 AW.weak (AZ.cv he.cv hh.cv (wy _)) hr
end
section
variable{P:Program}{ops:Array Oper}{rest:List Oper}{K:St->Prop}{o o2:Oper}{e:Aa}{h:AL}{n N:Nat}
theorem Bi(ks js:List Nat){e':Aa}{h':AL}(hr:AN P ops rest ⟨e',h',n,N⟩ K)
  (he:Bp e ks e':=by repeat' first | exact Bp.nil | apply kR _ rfl | apply kP _ rfl | apply kA _ rfl | apply kO _ rfl | apply kC _ rfl | apply kT _ rfl | apply kF _ rfl | apply kQ _ rfl | apply kM _ rfl | apply kW _ rfl | apply kL _ rfl | apply kK _ rfl | apply kU _ rfl | apply kI _ rfl | apply kV _ rfl | apply kY _ rfl)
  (hh:FW h js h':=by repeat' first | exact FW.nil | apply hB _ rfl | apply hA _ rfl | apply hC _ rfl):AN P ops rest ⟨e,h,n,N⟩ K:=
 AN.weak (AZ.cv he.cv hh.cv (wy _)) hr
end
section
variable{P:Program}{ops:Array Oper}{rest:List Oper}{K:St->Prop}{o o2:Oper}{s:St}
theorem vQ{d j m}{l b}{v}(hg:(o.guard, o.dst, Nat.blt d s.N, (ops[j]?).bind (·.dst), BE s.e (.tmp m))=(some (j, l), some d, true, some m, .r (.bool b)))(q:AS P (b==l) o s.e s.h v)
 (w:AN P ops rest { e := (d, .whn (b==l) v)::s.e, h := s.h, n := s.n, N := s.N } K):AN P ops (o::rest) s K := by
  simp only[xM] at hg
  obtain⟨A, B, C, E, F⟩ := hg
  exact AN.stepW (.one A E F) B C (AS.spec q _) w
theorem wQ{d j q}{l b m}{v}(hg:(o.guard, o.dst, Nat.blt d s.N, (ops[j]?).bind (·.dst), BE s.e (.tmp q))=(some (j, l), some d, true, some q, .whn m (.r (.bool b))))(w:AS P (m&&(b==l)) o s.e s.h v)
 (A:AN P ops rest { e := (d, .whn (m&&(b==l)) v)::s.e, h := s.h, n := s.n, N := s.N } K):AN P ops (o::rest) s K := by
  simp only[xM] at hg
  obtain⟨B, C, E, F, I⟩ := hg
  exact AN.stepW (.two B F I) C E (AS.spec w _) A
theorem qP{d}{v}(hg:(o.guard, o.dst, Nat.blt d s.N)=(none, some d, true))(j:AS P true o s.e s.h v)
 (l:AQ P ops rest { e := (d, v)::s.e, h := s.h, n := s.n, N := s.N } K):AQ P ops (o::rest) s K :=
  AQ.step (yi hg).1 (yi (yi hg).2).1 (yi (yi hg).2).2 j l
theorem qO{d j m}{l b}{v}(hg:(o.guard, o.dst, Nat.blt d s.N, (ops[j]?).bind (·.dst), BE s.e (.tmp m))=(some (j, l), some d, true, some m, .r (.bool b)))(q:AS P (b==l) o s.e s.h v)
 (w:AQ P ops rest { e := (d, .whn (b==l) v)::s.e, h := s.h, n := s.n, N := s.N } K):AQ P ops (o::rest) s K := by
  simp only[xM] at hg
  obtain⟨A, B, C, E, F⟩ := hg
  exact AQ.stepW (.one A E F) B C q w
theorem qT{d j q}{l b m}{v}(hg:(o.guard, o.dst, Nat.blt d s.N, (ops[j]?).bind (·.dst), BE s.e (.tmp q))=(some (j, l), some d, true, some q, .whn m (.r (.bool b))))(w:AS P (m&&(b==l)) o s.e s.h v)
 (A:AQ P ops rest { e := (d, .whn (m&&(b==l)) v)::s.e, h := s.h, n := s.n, N := s.N } K):AQ P ops (o::rest) s K := by
  simp only[xM] at hg
  obtain⟨B, C, E, F, I⟩ := hg
  exact AQ.stepW (.two B F I) C E w A
theorem sS{d}{v}{h'}{n'}(hg:(o.guard, o.dst, Nat.blt d s.N)=(none, some d, true))(j:Az P true o s.e s.h s.n v h' n')
 (l:AN P ops rest { e := (d, v)::s.e, h := h', n := n', N := s.N } K):AN P ops (o::rest) s K :=
  AN.step (yi hg).1 (yi (yi hg).2).1 (yi (yi hg).2).2 j l
theorem lF{t t2}{x y}{f off id g i k d1 d2 id' g' l}{e1 e2}{cs j}{a}(w:An P t f off)(A:BH P t2)
 (m:(o.guard, o.dst, Nat.blt d1 s.N, o.op, BE s.e x, hget s.h id)=(none, some d1, true, .fieldAddr t x f, .ptr id g i k, some (.box g e1 cs)))
 (q:(o2.guard, o2.dst, Nat.blt d2 s.N, o2.op, BE ((d1, .ptr id g i (k+off))::s.e) y, hget s.h id', j[l]?)=(none, some d2, true, .load t2 y, .ptr id' g' 0 l, some (.box g' e2 j), some a))
 (B:AN P ops rest { e := (d2, a)::(d1, .ptr id g i (k+off))::s.e, h := s.h, n := s.n, N := s.N } K):AN P ops (o::o2::rest) s K := by
  simp only[xM] at m q
  obtain⟨C, E, a3, a4, a5, F⟩ := m
  obtain⟨I, J, M, O, T, U, V⟩ := q
  exact AN.step C E a3 (AS.spec (CO (ob := .box g e1 cs) a4 w (.inl a5) (λ_ => F) rfl) _) (AN.step I J M (AS.spec (Ab O A (.inl T) U V) _) B)
theorem vF{t t2}{x y}{f off id g i k d1 d2 id' g' B j C E l}{w b A m}{e1 e2}{cs q}{a}(J:An P t f off)(M:BH P t2)
 (F:(o.guard, o.dst, Nat.blt d1 s.N, (ops[j]?).bind (·.dst), BE s.e (.tmp C), o.op, BE s.e x, hget s.h id)=(some (j, w), some d1, true, some C, .r (.bool b), .fieldAddr t x f, .ptr id g i k, some (.box g e1 cs)))
 (I:(o2.guard, o2.dst, Nat.blt d2 s.N, (ops[E]?).bind (·.dst), BE ((d1, .whn (b==w) (.ptr id g i (k+off)))::s.e) (.tmp l), o2.op, BE ((d1, .whn (b==w) (.ptr id g i (k+off)))::s.e) y, hget s.h id', q[B]?)=(some (E, A), some d2, true, some l, .r (.bool m), .load t2 y, .whn (m==A) (.ptr id' g' 0 B), some (.box g' e2 q), some a))
 (O:AN P ops rest { e := (d2, .whn (m==A) a)::(d1, .whn (b==w) (.ptr id g i (k+off)))::s.e, h := s.h, n := s.n, N := s.N } K):AN P ops (o::o2::rest) s K := by
  simp only[xM] at F I
  obtain⟨T, U, a3, a4, a5, V, X, Z⟩ := F
  obtain⟨b1, m, b3, b4, b5, b6, b7, b8, b9⟩ := I
  exact AN.stepW (.one T a4 a5) U a3 (AS.spec (CO (ob := .box g e1 cs) V J (.inl X) (λ_ => Z) rfl) _) (AN.stepW (.one b1 b4 b5) m b3 (AS.spec (Ab b6 M (iR b7) b8 b9) _) O)
end
def gw:AV->Bool
 | .r _=>true
 | _=>false
theorem vn{l:List AV}(h:l.all gw=true):∃cs:List RV,l=cs.map .r:=by
 induction l with
 | nil=>exact⟨[],rfl⟩
 | cons a l j=>
  rw[WAX,xE] at h
  obtain⟨cs,rfl⟩:=j h.2
  cases a with
  | r d=>exact⟨d::cs,rfl⟩
  | _=>exact Bool.noConfusion h.1
theorem Fz.g2{h}{a}{ds:List AV}(e:a=.agg ds)(e2:ds.all gw=true):Fz h a (.agg ds):=by
 obtain⟨l,j⟩:=vn e2
 exact .g e j
section
variable{P:Program}{ops:Array Oper}{rest:List Oper}{K:St->Prop}{o:Oper}{s:St}
theorem cL{d:Nat}{f:FuncId}{fo:Operand}{xs:Array Operand}{ats:Array TypeId}{bs:List AV}{r:AV}(hq:AY P f bs r)
  (hg:(o.guard,o.dst,Nat.blt d s.N,o.op,BE s.e fo,r.flat)=(none,some d,true,.call { callee:=.value fo,args:=xs,argTypes:=ats },.fn f [],true))
  (hr:AN P ops rest { e:=(d,r)::s.e,h:=s.h,n:=s.n,N:=s.N } K)
  (hx:HS true s.e s.h xs.toList bs:=by repeat' first | exact trivial | refine⟨⟨_,iL,.d rfl⟩,?_⟩ | refine⟨⟨_,iL,.g2 rfl rfl⟩,?_⟩ | refine⟨⟨_,iL,.one (.own rfl)⟩,?_⟩ | refine⟨⟨_,iR rfl,.d rfl⟩,?_⟩ | refine⟨⟨_,iR rfl,.g2 rfl rfl⟩,?_⟩):AN P ops (o::rest) s K:=by
 simp only[xM] at hg
 obtain⟨h1,h2,h3,h4,h5,h6⟩:=hg
 exact AN.step h1 h2 h3 (Db (caps:=[]) h4 (.inl h5) rfl hx (λ_=>by rw[yv];exact hq) h6) hr
theorem vL{d j dj:Nat}{want b:Bool}{f:FuncId}{fo:Operand}{xs:Array Operand}{ats:Array TypeId}{bs:List AV}{r:AV}(hq:(b==want)=true->AY P f bs r)
  (hg:(o.guard,o.dst,Nat.blt d s.N,(ops[j]?).bind (·.dst),BE s.e (.tmp dj),o.op,BE s.e fo,r.flat)=(some (j,want),some d,true,some dj,.r (.bool b),.call { callee:=.value fo,args:=xs,argTypes:=ats },.fn f [],true))
  (hr:AN P ops rest { e:=(d,.whn (b==want) r)::s.e,h:=s.h,n:=s.n,N:=s.N } K)
  (hx:HS (b==want) s.e s.h xs.toList bs:=by repeat' first | exact trivial | refine⟨⟨_,iL,.d rfl⟩,?_⟩ | refine⟨⟨_,iL,.g2 rfl rfl⟩,?_⟩ | refine⟨⟨_,iL,.one (.own rfl)⟩,?_⟩ | refine⟨⟨_,iR rfl,.d rfl⟩,?_⟩ | refine⟨⟨_,iR rfl,.g2 rfl rfl⟩,?_⟩):AN P ops (o::rest) s K:=by
 simp only[xM] at hg
 obtain⟨h1,h2,h3,h4,h5,h6,h7,h8⟩:=hg
 exact AN.stepW (.one h1 h4 h5) h2 h3 (Db (caps:=[]) h6 (.inl h7) rfl hx (λhc=>by rw[yv];exact hq hc) h8) hr
end
section
variable{P:Program}{Q:Exit->St->Prop}{s:St}{x y:Code}
theorem aU{id}{l:List Oper}(h:AN P l.toArray l s λj=>AW P y Q j):AW P (.seq (.region id l.toArray false) y) Q s:=.seq (.region h)
theorem aT(h:∀ {K:St->Prop},(∀s,AW P y Q s->K s)->AW P x (Es K Q) s):AW P (.seq x y) Q s:=wD λ_ j=>h j
theorem cI{α:Type}{b:Bool}{c:Operand}{X Y Z:α}(hc:BE s.e c=.r (.bool b))(h:(if b=true then X else Y)=Z)(j:X=Z->AW P x Q s)(l:Y=Z->AW P y Q s):AW P (.cond c x y) Q s:=
 AW.cond hc (λe=>j (D2 e h)) (λe=>l (Dw e h))
end
theorem mF{P:Program}{f}{fn:Func}{code}{args:List AV}{r:AV}{N}(l:P.funcs[f]?=some fn)(m:fn.ntmps=N)
 (j : (fn.body, fn.name == "runtime.NumGoroutine", r.closed, Nat.ble args.length N) = (some code, false, true, true)) (hw : ∀ q, AW P code (Fk P fn.results.toList r) ⟨Da 0 args, [], q, N⟩) : AY P f args r := by
  simp only[xM] at j
  obtain⟨w, A, B, C⟩ := j
  exact vz l w A m B (xu C) hw
theorem oZ{P}{ops}{s}{K}{y}{Q}(j:∀s,AW P y Q s->K s)(h:AW P y Q s):AN P ops [] s K:=AN.nil (j _ h)
def ZD(t i:Nat):List PO->Nat->Option Nat->Option Nat
 | [],_,r=>r
 | p::L,k,r=>match Nat.blt k i with
  | true=>ZD t i L (k+1) (match p.d with
   | some d=>(match Nat.beq d t with
    | true=>some k
    | false=>r)
   | none=>r)
  | false=>r
def gQ(t i:Nat):List PO->Nat->Option Nat->Option Nat
 | [],_,r=>r
 | p::L,k,r=>match Nat.blt k i with
  | true=>gQ t i L (k+1) (match p.hp with
   | some (d,_)=>(match Nat.beq d t with
    | true=>some k
    | false=>r)
   | none=>r)
  | false=>r
section
variable{P:Program}{ops:Array Oper}{s:St}{L:List PO}{i:Nat}{p:PO}{o:Oper}
theorem Si{D}{G}{e}{t j}(l:Bq ops D i)(_:ZD t i L 0 none=some j){p:PO}{a}(m:L[j]?=some p)(hd:p.d=some t)(hw:wt ops 40 i j=true)(hB:JX (L.drop (j+1)) t=true)(q:p.v G=a):get (CI D G e L) t=a:=Y6 l j m hd hw hB q
theorem SE{D}{G}{h}{t j}(l:Bq ops D i)(_:gQ t i L 0 none=some j){p:PO}{ob}{a}(m:L[j]?=some p)(hd:p.hp=some (t,ob))(hw:wt ops 40 i j=true)(hB:M4 ops i t (L.drop (j+1)) (j+1)=true)(q:ob G=a):hget (D0 D G h L) t=a:=o9 l j m hd hw hB q
theorem oB(ie:Aa)(ih:AL)(h:∀ {G e h'},AS P true o (ie++e) (ih++h') (p.v G))
  (hg:o.guard=none:=by rfl) (hd:o.dst=p.d:=by rfl) (hN:∀d,p.d=some d->Nat.blt d s.N=true:=by intro d h;cases h<;>rfl) (hp:p.hp=none:=by rfl) (hv:∀G n,p.v (DL G i n)=p.v G:=by intros;rfl)
  (hE:∀D G,Bq ops D i->Hp (CI D G s.e L) ie:=by intro _ _ hr;repeat' first | exact trivial | refine⟨TB rfl rfl,?_⟩ | refine⟨Si hr rfl rfl rfl (by kernel_rfl) rfl rfl,?_⟩ | refine⟨Tx hr (by kernel_rfl) rfl,?_⟩)
  (hH:∀D G,Bq ops D i->H7 (D0 D G s.h L) ih:=by intro _ _ hr;repeat' first | exact trivial | refine⟨RY rfl rfl,?_⟩ | refine⟨SE hr rfl rfl rfl (by kernel_rfl) (by kernel_rfl) rfl,?_⟩ | refine⟨Qy hr (by kernel_rfl) rfl,?_⟩):Ob P ops s L i p o:=
 Xe (n1:=λn=>n) hg hd hN hp (λ_=>ie) (λ_=>ih) hE hH hv λ_ _ _ _=>AS.spec h _
theorem oC(ie:(Nat->Nat)->Aa)(ih:(Nat->Nat)->AL)(h:∀G e h',AS P true o (ie G++e) (ih G++h') (p.v G))
  (hg:o.guard=none:=by rfl) (hd:o.dst=p.d:=by rfl) (hN:∀d,p.d=some d->Nat.blt d s.N=true:=by intro d h;cases h<;>rfl) (hp:p.hp=none:=by rfl) (hv:∀G n,p.v (DL G i n)=p.v G:=by intros;rfl)
  (hE:∀D G,Bq ops D i->Hp (CI D G s.e L) (ie G):=by intro _ _ hr;repeat' first | exact trivial | refine⟨TB rfl rfl,?_⟩ | refine⟨Si hr rfl rfl rfl (by kernel_rfl) rfl rfl,?_⟩ | refine⟨Tx hr (by kernel_rfl) rfl,?_⟩)
  (hH:∀D G,Bq ops D i->H7 (D0 D G s.h L) (ih G):=by intro _ _ hr;repeat' first | exact trivial | refine⟨RY rfl rfl,?_⟩ | refine⟨SE hr rfl rfl rfl (by kernel_rfl) (by kernel_rfl) rfl,?_⟩ | refine⟨Qy hr (by kernel_rfl) rfl,?_⟩):Ob P ops s L i p o:=
 Xe (n1:=λn=>n) hg hd hN hp ie ih hE hH hv λG e h' _=>AS.spec (h G e h') _
theorem oD(ie:(Nat->Nat)->Aa)(ih:(Nat->Nat)->AL){n1:Nat->Nat}(h:∀G e h' n,Az P true o (ie G++e) (ih G++h') n (p.v G) (ih G++h') (n1 n))
  (hg:o.guard=none:=by rfl) (hd:o.dst=p.d:=by rfl) (hN:∀d,p.d=some d->Nat.blt d s.N=true:=by intro d h;cases h<;>rfl) (hp:p.hp=none:=by rfl) (hv:∀G n,p.v (DL G i n)=p.v G:=by intros;rfl)
  (hE:∀D G,Bq ops D i->Hp (CI D G s.e L) (ie G):=by intro _ _ hr;repeat' first | exact trivial | refine⟨TB rfl rfl,?_⟩ | refine⟨Si hr rfl rfl rfl (by kernel_rfl) rfl rfl,?_⟩ | refine⟨Tx hr (by kernel_rfl) rfl,?_⟩)
  (hH:∀D G,Bq ops D i->H7 (D0 D G s.h L) (ih G):=by intro _ _ hr;repeat' first | exact trivial | refine⟨RY rfl rfl,?_⟩ | refine⟨SE hr rfl rfl rfl (by kernel_rfl) (by kernel_rfl) rfl,?_⟩ | refine⟨Qy hr (by kernel_rfl) rfl,?_⟩):Ob P ops s L i p o:=
 Xe hg hd hN hp ie ih hE hH hv h
theorem oM{id:Nat}{ob:(Nat->Nat)->Option AU}{n1:Nat->Nat}(ie:(Nat->Nat)->Aa)(ih:(Nat->Nat)->AL)(hp:p.hp=some (id,ob))(h:∀(G:Nat->Nat) e h' n,Az P true o (ie G++e) (ih G++h') n (p.v (DL G i n)) ((id,ob (DL G i n))::(ih G++h')) (n1 n))
  (hg:o.guard=none:=by rfl) (hd:o.dst=p.d:=by rfl) (hN:∀d,p.d=some d->Nat.blt d s.N=true:=by intro d h;cases h<;>rfl)
  (hE:∀D G,Bq ops D i->Hp (CI D G s.e L) (ie G):=by intro _ _ hr;repeat' first | exact trivial | refine⟨TB rfl rfl,?_⟩ | refine⟨Si hr rfl rfl rfl (by kernel_rfl) rfl rfl,?_⟩ | refine⟨Tx hr (by kernel_rfl) rfl,?_⟩)
  (hH:∀D G,Bq ops D i->H7 (D0 D G s.h L) (ih G):=by intro _ _ hr;repeat' first | exact trivial | refine⟨RY rfl rfl,?_⟩ | refine⟨SE hr rfl rfl rfl (by kernel_rfl) (by kernel_rfl) rfl,?_⟩ | refine⟨Qy hr (by kernel_rfl) rfl,?_⟩):Ob P ops s L i p o:=
 wY hg hd hN hp ie ih hE hH h
end
@[reducible] def pO(d:Nat)(v:AV):PO:=⟨some d,λ_=>v,none,[]⟩
theorem rP{P:Program}{id:Nat}{l:List Oper}{s:St}{Q:Exit->St->Prop}(n:Nat)(L:List PO){lt:List Oper}(hm:P.follows .mixedOrders=true)(e4:l.drop n=lt)(hOb:KY P l.toArray s L 0 L l)
  (h:∀(G:Nat->Nat) (n':Nat),AN P l.toArray lt ⟨CI (λ_=>true) G s.e L,D0 (λ_=>true) G s.h L,n',s.N⟩ (Q .normal)) (hB:WY l.toArray n L=true:=by kernel_rfl)
  (hLoc:Ig L:=by repeat' first | exact trivial | refine⟨λ_ _ _=>⟨rfl,λ_ _ e=>by cases e<;>rfl⟩,?_⟩):AW P (.region id l.toArray true) Q s:=GZ n L hm hB hLoc e4 hOb h
theorem wk{s s'}(h:AZ s s':=by refine AZ.cv ?_ ?_ nL<;>repeat (first | exact trivial | refine⟨jL,?_⟩ | refine⟨.inl rfl,?_⟩)):AZ s s':=h
section
variable{P:Program}{ops:Array Oper}{rest:List Oper}{K:St->Prop}{o:Oper}{s:St}
theorem mM{d}{x}(hg:(o.guard,o.dst,Nat.blt d s.N,o.op)=(none,some d,true,.move x))(j:AN P ops rest { e:=(d,BE s.e x)::s.e,h:=s.h,n:=s.n,N:=s.N } K):AN P ops (o::rest) s K:=by
 simp only[xM] at hg
 obtain⟨l,m,q,w⟩:=hg
 exact AN.step l m q (AS.spec (AM w (.inl rfl)) _) j
theorem mA{d}{x}(hg:(o.guard,o.dst,Nat.blt d s.N,o.op)=(none,some d,true,.assign x))(j:AN P ops rest { e:=(d,BE s.e x)::s.e,h:=s.h,n:=s.n,N:=s.N } K):AN P ops (o::rest) s K:=by
 simp only[xM] at hg
 obtain⟨l,m,q,w⟩:=hg
 exact AN.step l m q (AS.spec (EL w (.inl rfl)) _) j
theorem vM{d j m}{l b}{x}(hg:(o.guard, o.dst, Nat.blt d s.N, (ops[j]?).bind (·.dst), BE s.e (.tmp m), o.op)=(some (j, l), some d, true, some m, .r (.bool b), .move x))
 (q:AN P ops rest { e := (d, .whn (b==l) (BE s.e x))::s.e, h := s.h, n := s.n, N := s.N } K):AN P ops (o::rest) s K := by
  simp only[xM] at hg
  obtain⟨w, A, B, C, E, F⟩ := hg
  exact AN.stepW (.one w C E) A B (AS.spec (AM F (.inl rfl)) _) q
end
section
variable{P:Program}{ops:Array Oper}{rest:List Oper}{K:St->Prop}{o:Oper}{s:St}{d:Nat}{x y:Operand}
theorem one{v}(hg:o.guard=none)(hd:o.dst=some d)(j:Nat.blt d s.N=true)(l:AS P true o s.e s.h v)(m:AN P ops rest { e:=(d,v)::s.e,h:=s.h,n:=s.n,N:=s.N } K):AN P ops (o::rest) s K:=AN.step hg hd j (AS.spec l _) m
theorem xI{α:Type}{f}{t e}{sz b}{l:List α}{k}{z}{a}(m:Ba P t e sz b)(hg:(o.guard, o.dst, Nat.blt d s.N, o.op, BE s.e x, BE s.e y)=(none, some d, true, .indexAddr t x y, .r (.sl (l.map f)), .r (.int k z)))
 (q:AO l z=some a) (w:AN P ops rest { e := (d, .rop (f a) 0)::s.e, h := s.h, n := s.n, N := s.N } K) (j:∀a, (f a).length=sz := by intro _;rfl):AN P ops (o::rest) s K := by
  simp only[xM] at hg
  exact one hg.1 hg.2.1 hg.2.2.1 (BN hg.2.2.2.1 m.slice (.inl hg.2.2.2.2.1) (.inl hg.2.2.2.2.2) j λ_ => q) w
theorem xL{α:Type}{f}{t e}{sz b}{l:List α}(j:Ba P t e sz b)(hg:(o.guard, o.dst, Nat.blt d s.N, o.op, BE s.e x)=(none, some d, true, .call { callee := .builtin .len, args := #[x], argTypes := #[t] }, .r (.sl (l.map f))))
 (m:AN P ops rest { e := (d, .r (.int .i64 l.length))::s.e, h := s.h, n := s.n, N := s.N } K):AN P ops (o::rest) s K := by
  simp only[xM] at hg
  exact one hg.1 hg.2.1 hg.2.2.1 (DA hg.2.2.2.1 j.slice (.inl hg.2.2.2.2)) m
theorem xA{t j}{k}{a b r}(hg:(o.guard, o.dst, Nat.blt d s.N, o.op, BE s.e x, BE s.e y)=(none, some d, true, .binOp .add t x y j, .r (.int k a), .r (.int k b)))
 (l:AX k (a+b)=some r) (m:AN P ops rest { e := (d, .r (.int k r))::s.e, h := s.h, n := s.n, N := s.N } K):AN P ops (o::rest) s K := by
  simp only[xM] at hg
  exact one hg.1 hg.2.1 hg.2.2.1 (Jn hg.2.2.2.1 (.inl hg.2.2.2.2.1) (.inl hg.2.2.2.2.2) λ_ => l) m
theorem xN{a b}(hg:(o.guard, o.dst, Nat.blt d s.N, o.op, BE s.e x, BE s.e y)=(none, some d, true, .pick x y (.const (.bool false)), .r (.bool a), .whn (a==true) (.r (.bool b))))
 (j:AN P ops rest { e := (d, .r (.bool (a&&b)))::s.e, h := s.h, n := s.n, N := s.N } K):AN P ops (o::rest) s K := by
  simp only[xM] at hg
  exact one hg.1 hg.2.1 hg.2.2.1 (BZ hg.2.2.2.1 (.inl hg.2.2.2.2.1) (iR hg.2.2.2.2.2)) j
theorem xO{a b}(hg:(o.guard, o.dst, Nat.blt d s.N, o.op, BE s.e x, BE s.e y)=(none, some d, true, .pick x (.const (.bool true)) y, .r (.bool a), .whn (a==false) (.r (.bool b))))
 (j:AN P ops rest { e := (d, .r (.bool (a||b)))::s.e, h := s.h, n := s.n, N := s.N } K):AN P ops (o::rest) s K := by
  simp only[xM] at hg
  exact one hg.1 hg.2.1 hg.2.2.1 (CS hg.2.2.2.1 (.inl hg.2.2.2.2.1) (iR hg.2.2.2.2.2)) j
theorem xB{t}{row:List RV}{sz}(cs:List AV)(j:BW P t sz)(hg:(o.guard, o.dst, Nat.blt d s.N, o.op, BE s.e x, row.length, row.map AV.r)=(none, some d, true, .load t x, .rop row 0, sz, cs))
 (l:AN P ops rest { e := (d, .agg cs)::s.e, h := s.h, n := s.n, N := s.N } K):AN P ops (o::rest) s K := by
  simp only[xM] at hg
  exact one hg.1 hg.2.1 hg.2.2.1 (EB hg.2.2.2.1 j (.inl hg.2.2.2.2.1) hg.2.2.2.2.2.1 hg.2.2.2.2.2.2) l
theorem xC{t}{id g}{e}{sz}{cs:List AV}(j:BW P t sz)(hg:(o.guard, o.dst, Nat.blt d s.N, o.op, BE s.e x, hget s.h id, cs.length)=(none, some d, true, .load t x, .ptr id g 0 0, some (.box g e cs), sz))
 (l:AN P ops rest { e := (d, .agg cs)::s.e, h := s.h, n := s.n, N := s.N } K):AN P ops (o::rest) s K := by
  simp only[xM] at hg
  exact one hg.1 hg.2.1 hg.2.2.1 (EW hg.2.2.2.1 j (.inl hg.2.2.2.2.1) hg.2.2.2.2.2.1 hg.2.2.2.2.2.2) l
theorem xV{t}{row}{k}(r:RV)(j:BH P t)(hg:(o.guard, o.dst, Nat.blt d s.N, o.op, BE s.e x, row[k]?)=(none, some d, true, .load t x, .rop row k, some r))
 (l:AN P ops rest { e := (d, .r r)::s.e, h := s.h, n := s.n, N := s.N } K):AN P ops (o::rest) s K := by
  simp only[xM] at hg
  exact one hg.1 hg.2.1 hg.2.2.1 (Bm hg.2.2.2.1 j (.inl hg.2.2.2.2.1) hg.2.2.2.2.2) l
theorem xX{vs}{i}{a}(hg:(o.guard, o.dst, Nat.blt d s.N, o.op, BE s.e x, vs[i]?)=(none, some d, true, .extract x i, .tup vs, some a))
 (j:AN P ops rest { e := (d, a)::s.e, h := s.h, n := s.n, N := s.N } K):AN P ops (o::rest) s K := by
  simp only[xM] at hg
  exact one hg.1 hg.2.1 hg.2.2.1 (Tg hg.2.2.2.1 (.inl hg.2.2.2.2.1) hg.2.2.2.2.2) j
theorem xS{t j}{k}{a b}(hg:(o.guard, o.dst, Nat.blt d s.N, o.op, BE s.e x, BE s.e y)=(none, some d, true, .binOp .lss t x y j, .r (.int k a), .r (.int k b)))
 (l:AN P ops rest { e := (d, .r (.bool (decide (a<b))))::s.e, h := s.h, n := s.n, N := s.N } K):AN P ops (o::rest) s K := by
  simp only[xM] at hg
  exact one hg.1 hg.2.1 hg.2.2.1 (B6 hg.2.2.2.1 (.inl hg.2.2.2.2.1) (.inl hg.2.2.2.2.2)) l
theorem xQ{t j}{k}{a b}(hg:(o.guard, o.dst, Nat.blt d s.N, o.op, BE s.e x, BE s.e y)=(none, some d, true, .binOp .eql t x y j, .r (.int k a), .r (.int k b)))
 (l:AN P ops rest { e := (d, .r (.bool (decide (a=b))))::s.e, h := s.h, n := s.n, N := s.N } K):AN P ops (o::rest) s K := by
  simp only[xM] at hg
  exact one hg.1 hg.2.1 hg.2.2.1 (BB hg.2.2.2.1 (.inl hg.2.2.2.2.1) (.inl hg.2.2.2.2.2)) l
theorem xU{t j}{k}{a b}(hg:(o.guard, o.dst, Nat.blt d s.N, o.op, BE s.e x, BE s.e y)=(none, some d, true, .binOp .neq t x y j, .r (.int k a), .r (.int k b)))
 (l:AN P ops rest { e := (d, .r (.bool (!(a=b))))::s.e, h := s.h, n := s.n, N := s.N } K):AN P ops (o::rest) s K := by
  simp only[xM] at hg
  exact one hg.1 hg.2.1 hg.2.2.1 (Cm hg.2.2.2.1 (.inl hg.2.2.2.2.1) (.inl hg.2.2.2.2.2)) l
end
theorem xH{ρ α:Type}{o:ρ}{v:α ⊕ ρ}{q:ρ}(j:∀q,v=.inr q->o=q)(h:some (.inr q)=some v):o=q:=j _ (xh h).symm
theorem aP{P}{T r}{s:St}{t}(e:some T=some r)(h:get s.e t=rI T):Fk P [.tmp t] (rI r) .ret s:=C3 (λr=>rI r) e (.inl rfl) (.t (.d h))
theorem ZH{P}{T r}{s:St}{t}(e:some T=some r)(h:get s.e t=rB T):Fk P [.tmp t] (rB r) .ret s:=C3 (λr=>rB r) e (.inl rfl) (.t (.d h))
theorem zI{P}{T r}{s:St}{t id}{x}{o:Oper}{Q}(e:some T=some r)(h:(o.guard, o.dst, Nat.blt t s.N, o.op, BE s.e x)=(none, some t, true, .assign x, rI T))
 (k:Fk P [.tmp t] (rI r) .ret { e := (t, BE s.e x)::s.e, h := s.h, n := s.n, N := s.N } -> Q .ret { e := (t, BE s.e x)::s.e, h := s.h, n := s.n, N := s.N }):AW P (.seq (.region id [o].toArray false) .ret) Q s := by
  simp only[xM] at h
  refine aU (AN.step h.1 h.2.1 h.2.2.1 (AS.spec (EL h.2.2.2.1 (.inl rfl)) _) (AN.nil (AW.ret (k (aP e ?_)))))
  show get (_::_) t=_
  unfold get
  rw[WAh]
  exact h.2.2.2.2
theorem zB{P}{T r}{s:St}{t id}{x}{o:Oper}{Q}(e:some T=some r)(h:(o.guard, o.dst, Nat.blt t s.N, o.op, BE s.e x)=(none, some t, true, .assign x, rB T))
 (k:Fk P [.tmp t] (rB r) .ret { e := (t, BE s.e x)::s.e, h := s.h, n := s.n, N := s.N } -> Q .ret { e := (t, BE s.e x)::s.e, h := s.h, n := s.n, N := s.N }):AW P (.seq (.region id [o].toArray false) .ret) Q s := by
  simp only[xM] at h
  refine aU (AN.step h.1 h.2.1 h.2.2.1 (AS.spec (EL h.2.2.2.1 (.inl rfl)) _) (AN.nil (AW.ret (k (ZH e ?_)))))
  show get (_::_) t=_
  unfold get
  rw[WAh]
  exact h.2.2.2.2
@[reducible] def rL{α:Type}(l:List α):AV:=rI (l.length:Int)
@[reducible] def rS(l:List UInt8):AV:=.r (.str l)
abbrev NN:=Nat->Nat
open Go.WideShapes
section
variable{H:Type}(K:G8 H){enc:TypeId × Value->H}{P:Program}{W:World}
theorem pi{t:TypeId}{w:Array Field}{α:Type}{f:α->List RV}{ok:α->Prop}{μ:α->Nat}{v:Value}{d:DataW H}{p:List MemPlace}{r:Reach}{A:Nat}(B:P.underlying t=some (.struct w))(C:Bg K enc P W t f ok μ)
  (j:Value.okWide P W r A t v) (h:DataW.Trod enc P W 0 (λ_=>true) true t v d p):∃a,ok a/\AP (Cx.start W) (.agg ((f a).map .r)) v/\μ a<=K.B d:=by
 obtain⟨O,rfl,_⟩:=okWide_struct B j
 obtain⟨l,E⟩:=h
 obtain⟨a,F,m,I⟩:=C l _ _ E
 refine⟨a,F,.agg ?_ λi c u q J=>?_,I⟩
 .have:=m.1
  rw[xk,<- this];rfl
 .rw[xJ,xK] at q
  obtain⟨M,hd,rfl⟩:=q
  exact .r (m.2 i M u hd (by rw[<- J];exact xo))
end
end Go.Proofs.YtcgleifameckmaaGreatDoor.Al

namespace Go.Proofs.YtcgleifameckmaaGreatDoor.Al
open Go.Lib
theorem Y1{W:World}{g}{row}(h:∀j d,row[j]?=some d->∃v,W.cell? ⟨g,j,none⟩=some v/\A4 W (· < W.heap.size) d v):AP (Cx.start W) (.rop row 0) (.pointer (some ⟨g,0,none⟩)):=by
 have q:row≠[]->g<W.heap.size:=by
  intro w
  obtain⟨d,hd⟩:∃d,row[0]?=some d:=by
   cases row with
   | nil=>exact absurd rfl w
   | cons d r=>exact⟨d,rfl⟩
  obtain⟨v,l,_⟩:=h 0 d hd
  unfold World.cell? at l
  rcases zV g W.heap.size with m | m
  .exact m
  .rw[yx m] at l;cases l
 exact AP.rop (x:=Cx.start W) (row:=row) (k:=0) (b:=g) (off:=0) (λj=>(W.cell? ⟨g,j,none⟩).getD undef) q
  (λj d A=>by obtain⟨v,l,_⟩:=h j d A;rw[xd];show W.cell? _=_;rw[l];rfl)
  (λj d A=>by obtain⟨v,l,m⟩:=h j d A;rw[l];exact m)
theorem dU{α β:Type}(f:α->β):∀(l:List α) (j:Nat),(l.flatMap λz=>[f z])[j]?=(l[j]?).map f
 | [],j=>by simp
 | x::l,0=>by simp
 | x::l,j+1=>by
  have:=dU f l j
  rw[yf,List.singleton_append,yu,this,yu]
theorem Z6{α β:Type}(f g:α->β):∀(l:List α) (j:Nat) (d:β),(l.flatMap λz=>[f z,g z])[j]?=some d->∃i a,l[i]?=some a/\((j=2 * i/\d=f a)\/(j=2 * i+1/\d=g a))
 | [],j,d,h=>by simp at h
 | x::l,0,d,h=>by
  have:f x=d:=by simpa using h
  exact⟨0,x,rfl,.inl ⟨rfl,this.symm⟩⟩
 | x::l,1,d,h=>by
  have:g x=d:=by simpa using h
  exact⟨0,x,rfl,.inr ⟨rfl,this.symm⟩⟩
 | x::l,j+2,d,h=>by
  rw[yf] at h
  have w:(l.flatMap λz=>[f z,g z])[j]?=some d:=by simpa using h
  obtain⟨i,a,A,m⟩:=Z6 f g l j d w
  refine⟨i+1,a,by simpa using A,?_⟩
  rcases m with ⟨m,q⟩ | ⟨m,q⟩
  .exact .inl ⟨by omega,q⟩
  .exact .inr ⟨by omega,q⟩
theorem tx{P:Program}{W:World}{w}{k}{A:List Int}{g n}{t e}{d}(C:VarReads P W w d)(l:d=tabData k A)(n1:P.globalNamed w=some g)
 (E:(P.globals[g]?).map (·.type)=some t) (F:P.underlying t=some (.array n e)) (I:P.underlying e=some (.int k)) (ce:P.cellsOf e=1) (J:P.cellsOf t=n):∃t p, W.heap[g]?=some (.cells ((A.map λz => Value.int k z).toArray) t p) := by
  obtain⟨U, V, X, B, p, hg, m, j, hd⟩ := C
  obtain rfl := xh (n1.symm.trans hg)
  obtain rfl := xh (E.symm.trans m)
  subst l
  have q := cells_of_tab F I ce J hd
  unfold World.var? at j
  rw[n1] at j
  simp only[yJ] at j
  split at j
  · rename_i c M O T
    cases j
    refine⟨M, O, ?_⟩
    rw[T, <- q]
  · cases j
theorem qH {P : Program} {W : World} {d1 d2 : DataW Unit} {t1 t2 e1 e2 : TypeId} {fs : Array Field} (h1 : VarReads P W "unicode/utf8.first" d1) (hd1 : d1 = tabData .u8 GH) (n1 : P.globalNamed "unicode/utf8.first" = some IU)
  (y1:(P.globals[IU]?).map (·.type)=some t1) (u1:P.underlying t1=some (.array 256 e1)) (ue:P.underlying e1=some (.int .u8)) (ce:P.cellsOf e1=1) (ct:P.cellsOf t1=256)
  (h2 : VarReads P W "unicode/utf8.acceptRanges" d2) (hd2 : d2 = .agg (Je.map fun p => .agg ([p.1, p.2].map fun z => .lit (.int .u8 z)))) (n2 : P.globalNamed "unicode/utf8.acceptRanges" = some Ik)
  (y2:(P.globals[Ik]?).map (·.type)=some t2) (u2:P.underlying t2=some (.array 16 e2)) (us:P.underlying e2=some (.struct fs)) (hfs:∀(i:Nat) (f:Field),fs[i]?=some f->P.underlying f.type=some (.int .u8)/\f.offset=i/\P.cellsOf f.type=1)
  (hsz:fs.size=2) (c2:P.cellsOf e2=2)
  (hw:∀g cs,TD g=some cs->0<cs.size/\∃t p,W.heap[g]?=some (.cells cs t p):=by intro _ _ h;cases h) (hF:WB W:=by trivial):EH (Cx.start W):=by
 refine⟨λg row hg=>?_,λg cs hg=>⟨?_,hw g cs hg⟩,W,hF,Go.RowKit.Below.refl _ _,λ_ h=>h⟩
 rotate_left
 .obtain⟨_,t,p,h⟩:=hw g cs hg
  show g<W.heap.size
  exact(xt.1 h).1
 unfold HP at hg
 by_cases hF:g=IU
 .rw[ww hF] at hg
  cases hg
  subst hF
  obtain⟨g,t,cs,fuel,p,hg,hty,hvar,hd⟩:=h1
  obtain rfl:=xh (n1.symm.trans hg)
  obtain rfl:=xh (y1.symm.trans hty)
  subst hd1
  have hcs:=cells_of_tab u1 ue ce ct hd
  refine Y1 λj d hj=>?_
  rw[dU,xK] at hj
  obtain⟨z,hz,rfl⟩:=hj
  refine⟨.int .u8 z,?_,.int _ _⟩
  rw[World.var?_cell hg hvar j,<- xo,hcs,xJ,hz];rfl
 .rw[wv hF] at hg
  by_cases hA:g=Ik
  .rw[ww hA] at hg
   cases hg
   subst hA
   obtain⟨g,t,cs,fuel,p,hg,hty,hvar,hd⟩:=h2
   obtain rfl:=xh (n2.symm.trans hg)
   obtain rfl:=xh (y2.symm.trans hty)
   subst hd2
   refine Y1 λj d hj=>?_
   obtain⟨i,a,hi,hja⟩:=Z6 _ _ _ _ _ hj
   have hil:i<16:=(wx.1 hi).1
   obtain⟨fuel',d',q,hdi,he⟩:=array_elem u2 hd i hil
   rw[xJ,hi] at hdi
   cases hdi
   rw[c2] at he
   have hcs:=ints_of_struct us hfs (by rw[c2,hsz]) he
   have e0:=xc (·[0]?) hcs
   have e1:=xc (·[1]?) hcs
   simp only[xn,xr] at e0 e1
   rcases hja with ⟨rfl,rfl⟩ | ⟨rfl,rfl⟩
   .refine⟨.int .u8 a.1,?_,.int _ _⟩
    rw[World.var?_cell hg hvar (2 * i),<- xo]
    simpa[zJ] using e0
   .refine⟨.int .u8 a.2,?_,.int _ _⟩
    rw[World.var?_cell hg hvar (2 * i+1),<- xo]
    simpa[zJ] using e1
  .rw[wv hA] at hg;cases hg
end Go.Proofs.YtcgleifameckmaaGreatDoor.Al
