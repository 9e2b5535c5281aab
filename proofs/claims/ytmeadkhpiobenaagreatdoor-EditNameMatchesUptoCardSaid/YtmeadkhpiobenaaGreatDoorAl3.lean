/- The program logic, a part of it. -/
import Derived.Test.YtmeadkhpiobenaaGreatDoorAl2
import Derived.Lib.Bytealg
import Derived.Lib.LaidU8
import Derived.Shelf.SlGeneric
import Derived.Shelf.SlSortCmp.NoneTotal
import Derived.Shelf.Strconv.AtoiAll
import Derived.Shelf.Strconv.Itoa3
import Derived.Shelf.Unicode.ValidAny
import Derived.Test.YtmeadkhpiobenaaGreatDoorProg
set_option linter.all false
namespace Go.Proofs.YtmeadkhpiobenaaGreatDoor.Al
open Go.Shelf Go.Proofs
def oo:Go.Shelf.Ren:=⟨fun | 196=>262 | 259=>300 | n=>n,fun | 9=>9 | 4=>4 | 3=>3 | 5=>5 | 12=>12 | 119=>322 | 0=>0 | 46=>254 | 139=>325 | 138=>324 | 53=>289 | n=>n,fun | 3=>2 | 4=>3 | n=>n⟩
theorem cB:Go.Proofs.Lays.n196 Tryz.prog oo:={
 mixed:=by kernel_rfl
 f196:=Tryz.func262.trans (rh some (by kernel_rfl))
 f259:=Tryz.func300.trans (rh some (by kernel_rfl))
 t0:=Tryz.underlying0
 a0:=Tryz.isAgg0
 z0:=Tryz.sizeOf0
 v0:=Tryz.zeroValue0
 t3:=Tryz.underlying3
 a3:=Tryz.isAgg3
 z3:=Tryz.sizeOf3
 v3:=Tryz.zeroValue3
 t4:=Tryz.underlying4
 a4:=Tryz.isAgg4
 z4:=Tryz.sizeOf4
 v4:=Tryz.zeroValue4
 t5:=Tryz.underlying5
 a5:=Tryz.isAgg5
 z5:=Tryz.sizeOf5
 v5:=Tryz.zeroValue5
 t9:=Tryz.underlying9
 a9:=Tryz.isAgg9
 z9:=Tryz.sizeOf9
 v9:=Tryz.zeroValue9
 t12:=Tryz.underlying12
 a12:=Tryz.isAgg12
 z12:=Tryz.sizeOf12
 v12:=Tryz.zeroValue12
 t46:=Tryz.underlying254
 a46:=Tryz.isAgg254
 z46:=Tryz.sizeOf254
 v46:=Tryz.zeroValue254
 t53:=Tryz.underlying289
 a53:=Tryz.isAgg289
 z53:=Tryz.sizeOf289
 v53:=Tryz.zeroValue289
 t119:=Tryz.underlying322
 a119:=Tryz.isAgg322
 z119:=Tryz.sizeOf322
 t138:=Tryz.underlying324
 a138:=Tryz.isAgg324
 z138:=Tryz.sizeOf324
 v138:=Tryz.zeroValue324
 t139:=Tryz.underlying325
 a139:=Tryz.isAgg325
 z139:=Tryz.sizeOf325
 v139:=Tryz.zeroValue325
 g3:=by kernel_rfl
 g4:=by kernel_rfl }
def ez:Go.Shelf.Ren:=⟨fun | 171=>62 | 243=>111 | 246=>177 | 283=>237 | 284=>238 | 285=>239 | 286=>240 | 129=>285 | 317=>284 | 318=>286 | 319=>287 | 320=>288 | 337=>312 | 338=>313 | n=>n,fun | 3=>3 | 9=>9 | 2=>2 | 4=>4 | 171=>296 | 0=>0 | 53=>289 | 37=>133 | 5=>5 | 173=>299 | 212=>340 | 51=>341 | 20=>20 | 213=>342 | 46=>254 | 232=>384 | 233=>385 | n=>n,fun | 17=>5 | 18=>6 | 19=>7 | n=>n⟩
theorem gw:Go.Proofs.LaysM.n171 Tryz.prog ez:={
 mixed:=by kernel_rfl
 f129:=Tryz.func285.trans (rh some (by kernel_rfl))
 f171:=Tryz.func62.trans (rh some (by kernel_rfl))
 f243:=Tryz.func111.trans (rh some (by kernel_rfl))
 f246:=Tryz.func177.trans (rh some (by kernel_rfl))
 f283:=Tryz.func237.trans (rh some (by kernel_rfl))
 f284:=Tryz.func238.trans (rh some (by kernel_rfl))
 f285:=Tryz.func239.trans (rh some (by kernel_rfl))
 f286:=Tryz.func240.trans (rh some (by kernel_rfl))
 f317:=Tryz.func284.trans (rh some (by kernel_rfl))
 f318:=Tryz.func286.trans (rh some (by kernel_rfl))
 f319:=Tryz.func287.trans (rh some (by kernel_rfl))
 f320:=Tryz.func288.trans (rh some (by kernel_rfl))
 f337:=Tryz.func312.trans (rh some (by kernel_rfl))
 f338:=Tryz.func313.trans (rh some (by kernel_rfl))
 t0:=Tryz.underlying0
 a0:=Tryz.isAgg0
 z0:=Tryz.sizeOf0
 v0:=Tryz.zeroValue0
 t2:=Tryz.underlying2
 a2:=Tryz.isAgg2
 z2:=Tryz.sizeOf2
 v2:=Tryz.zeroValue2
 t3:=Tryz.underlying3
 a3:=Tryz.isAgg3
 z3:=Tryz.sizeOf3
 v3:=Tryz.zeroValue3
 t4:=Tryz.underlying4
 a4:=Tryz.isAgg4
 z4:=Tryz.sizeOf4
 v4:=Tryz.zeroValue4
 t5:=Tryz.underlying5
 a5:=Tryz.isAgg5
 z5:=Tryz.sizeOf5
 v5:=Tryz.zeroValue5
 t9:=Tryz.underlying9
 a9:=Tryz.isAgg9
 z9:=Tryz.sizeOf9
 v9:=Tryz.zeroValue9
 t20:=Tryz.underlying20
 a20:=Tryz.isAgg20
 z20:=Tryz.sizeOf20
 v20:=Tryz.zeroValue20
 t37:=Tryz.underlying133
 a37:=Tryz.isAgg133
 z37:=Tryz.sizeOf133
 v37:=Tryz.zeroValue133
 t46:=Tryz.underlying254
 a46:=Tryz.isAgg254
 z46:=Tryz.sizeOf254
 v46:=Tryz.zeroValue254
 t51:=Tryz.underlying341
 a51:=Tryz.isAgg341
 z51:=Tryz.sizeOf341
 v51:=Tryz.zeroValue341
 t53:=Tryz.underlying289
 a53:=Tryz.isAgg289
 z53:=Tryz.sizeOf289
 v53:=Tryz.zeroValue289
 t171:=Tryz.underlying296
 a171:=Tryz.isAgg296
 z171:=Tryz.sizeOf296
 v171:=Tryz.zeroValue296
 t173:=Tryz.underlying299
 a173:=Tryz.isAgg299
 z173:=Tryz.sizeOf299
 v173:=Tryz.zeroValue299
 t212:=Tryz.underlying340
 a212:=Tryz.isAgg340
 z212:=Tryz.sizeOf340
 v212:=Tryz.zeroValue340
 t213:=Tryz.underlying342
 a213:=Tryz.isAgg342
 z213:=Tryz.sizeOf342
 t232:=Tryz.underlying384
 a232:=Tryz.isAgg384
 z232:=Tryz.sizeOf384
 v232:=Tryz.zeroValue384
 t233:=Tryz.underlying385
 a233:=Tryz.isAgg385
 z233:=Tryz.sizeOf385
 v233:=Tryz.zeroValue385
 g17:=by kernel_rfl
 g18:=by kernel_rfl
 g19:=by kernel_rfl
 i0:=by kernel_rfl
 i2:=by kernel_rfl
 i3:=by kernel_rfl
 i4:=by kernel_rfl
 i5:=by kernel_rfl
 i9:=by kernel_rfl
 i20:=by kernel_rfl
 i37:=by kernel_rfl
 i46:=by kernel_rfl
 i51:=by kernel_rfl
 i53:=by kernel_rfl
 i171:=by kernel_rfl
 i173:=by kernel_rfl
 i212:=by kernel_rfl
 i232:=by kernel_rfl
 i233:=by kernel_rfl
 m17:=by kernel_rfl
 m18:=by kernel_rfl
 m19:=by kernel_rfl }
def pc:Go.Shelf.Ren:=⟨fun | 172=>61 | 244=>109 | 245=>110 | 247=>172 | 279=>173 | 280=>174 | 281=>175 | 282=>176 | 287=>234 | 316=>235 | 171=>62 | 205=>236 | 321=>282 | 322=>283 | 243=>111 | 246=>177 | 283=>237 | 284=>238 | 285=>239 | 286=>240 | 129=>285 | 317=>284 | 318=>286 | 319=>287 | 320=>288 | 337=>312 | 338=>313 | n=>n,fun | 9=>9 | 3=>3 | 75=>129 | 76=>130 | 4=>4 | 5=>5 | 167=>235 | 37=>133 | 0=>0 | 85=>236 | 2=>2 | 168=>238 | 53=>289 | 175=>290 | 46=>254 | 210=>294 | 127=>335 | 145=>338 | 143=>336 | 21=>21 | 171=>296 | 173=>299 | 212=>340 | 51=>341 | 20=>20 | 213=>342 | 232=>384 | 233=>385 | 80=>401 | n=>n,fun | 15=>0 | 16=>1 | 17=>5 | 18=>6 | 19=>7 | n=>n⟩
theorem gh:Go.Proofs.LaysC.n172 Tryz.prog pc:={
 mixed:=by kernel_rfl
 f129:=Tryz.func285.trans (rh some (by kernel_rfl))
 f171:=Tryz.func62.trans (rh some (by kernel_rfl))
 f172:=Tryz.func61.trans (rh some (by kernel_rfl))
 f205:=Tryz.func236.trans (rh some (by kernel_rfl))
 f243:=Tryz.func111.trans (rh some (by kernel_rfl))
 f244:=Tryz.func109.trans (rh some (by kernel_rfl))
 f245:=Tryz.func110.trans (rh some (by kernel_rfl))
 f246:=Tryz.func177.trans (rh some (by kernel_rfl))
 f247:=Tryz.func172.trans (rh some (by kernel_rfl))
 f279:=Tryz.func173.trans (rh some (by kernel_rfl))
 f280:=Tryz.func174.trans (rh some (by kernel_rfl))
 f281:=Tryz.func175.trans (rh some (by kernel_rfl))
 f282:=Tryz.func176.trans (rh some (by kernel_rfl))
 f283:=Tryz.func237.trans (rh some (by kernel_rfl))
 f284:=Tryz.func238.trans (rh some (by kernel_rfl))
 f285:=Tryz.func239.trans (rh some (by kernel_rfl))
 f286:=Tryz.func240.trans (rh some (by kernel_rfl))
 f287:=Tryz.func234.trans (rh some (by kernel_rfl))
 f316:=Tryz.func235.trans (rh some (by kernel_rfl))
 f317:=Tryz.func284.trans (rh some (by kernel_rfl))
 f318:=Tryz.func286.trans (rh some (by kernel_rfl))
 f319:=Tryz.func287.trans (rh some (by kernel_rfl))
 f320:=Tryz.func288.trans (rh some (by kernel_rfl))
 f321:=Tryz.func282.trans (rh some (by kernel_rfl))
 f322:=Tryz.func283.trans (rh some (by kernel_rfl))
 f337:=Tryz.func312.trans (rh some (by kernel_rfl))
 f338:=Tryz.func313.trans (rh some (by kernel_rfl))
 t0:=Tryz.underlying0
 a0:=Tryz.isAgg0
 z0:=Tryz.sizeOf0
 v0:=Tryz.zeroValue0
 t2:=Tryz.underlying2
 a2:=Tryz.isAgg2
 z2:=Tryz.sizeOf2
 v2:=Tryz.zeroValue2
 t3:=Tryz.underlying3
 a3:=Tryz.isAgg3
 z3:=Tryz.sizeOf3
 v3:=Tryz.zeroValue3
 t4:=Tryz.underlying4
 a4:=Tryz.isAgg4
 z4:=Tryz.sizeOf4
 v4:=Tryz.zeroValue4
 t5:=Tryz.underlying5
 a5:=Tryz.isAgg5
 z5:=Tryz.sizeOf5
 v5:=Tryz.zeroValue5
 t9:=Tryz.underlying9
 a9:=Tryz.isAgg9
 z9:=Tryz.sizeOf9
 v9:=Tryz.zeroValue9
 t20:=Tryz.underlying20
 a20:=Tryz.isAgg20
 z20:=Tryz.sizeOf20
 v20:=Tryz.zeroValue20
 t21:=Tryz.underlying21
 a21:=Tryz.isAgg21
 z21:=Tryz.sizeOf21
 v21:=Tryz.zeroValue21
 t37:=Tryz.underlying133
 a37:=Tryz.isAgg133
 z37:=Tryz.sizeOf133
 v37:=Tryz.zeroValue133
 t46:=Tryz.underlying254
 a46:=Tryz.isAgg254
 z46:=Tryz.sizeOf254
 v46:=Tryz.zeroValue254
 t51:=Tryz.underlying341
 a51:=Tryz.isAgg341
 z51:=Tryz.sizeOf341
 v51:=Tryz.zeroValue341
 t53:=Tryz.underlying289
 a53:=Tryz.isAgg289
 z53:=Tryz.sizeOf289
 v53:=Tryz.zeroValue289
 t75:=Tryz.underlying129
 a75:=Tryz.isAgg129
 z75:=Tryz.sizeOf129
 v75:=Tryz.zeroValue129
 t76:=Tryz.underlying130
 a76:=Tryz.isAgg130
 z76:=Tryz.sizeOf130
 v76:=Tryz.zeroValue130
 t85:=Tryz.underlying236
 a85:=Tryz.isAgg236
 z85:=Tryz.sizeOf236
 v85:=Tryz.zeroValue236
 t127:=Tryz.underlying335
 a127:=Tryz.isAgg335
 z127:=Tryz.sizeOf335
 v127:=Tryz.zeroValue335
 t143:=Tryz.underlying336
 a143:=Tryz.isAgg336
 z143:=Tryz.sizeOf336
 v143:=Tryz.zeroValue336
 t145:=Tryz.underlying338
 a145:=Tryz.isAgg338
 z145:=Tryz.sizeOf338
 v145:=Tryz.zeroValue338
 t167:=Tryz.underlying235
 a167:=Tryz.isAgg235
 z167:=Tryz.sizeOf235
 v167:=Tryz.zeroValue235
 t168:=Tryz.underlying238
 a168:=Tryz.isAgg238
 z168:=Tryz.sizeOf238
 v168:=Tryz.zeroValue238
 t171:=Tryz.underlying296
 a171:=Tryz.isAgg296
 z171:=Tryz.sizeOf296
 v171:=Tryz.zeroValue296
 t173:=Tryz.underlying299
 a173:=Tryz.isAgg299
 z173:=Tryz.sizeOf299
 v173:=Tryz.zeroValue299
 t175:=Tryz.underlying290
 a175:=Tryz.isAgg290
 z175:=Tryz.sizeOf290
 v175:=Tryz.zeroValue290
 t210:=Tryz.underlying294
 a210:=Tryz.isAgg294
 z210:=Tryz.sizeOf294
 v210:=Tryz.zeroValue294
 t212:=Tryz.underlying340
 a212:=Tryz.isAgg340
 z212:=Tryz.sizeOf340
 v212:=Tryz.zeroValue340
 t213:=Tryz.underlying342
 a213:=Tryz.isAgg342
 z213:=Tryz.sizeOf342
 t232:=Tryz.underlying384
 a232:=Tryz.isAgg384
 z232:=Tryz.sizeOf384
 v232:=Tryz.zeroValue384
 t233:=Tryz.underlying385
 a233:=Tryz.isAgg385
 z233:=Tryz.sizeOf385
 v233:=Tryz.zeroValue385
 g15:=by kernel_rfl
 g16:=by kernel_rfl
 g17:=by kernel_rfl
 g18:=by kernel_rfl
 g19:=by kernel_rfl
 t80:=Tryz.underlying401
 a80:=Tryz.isAgg401
 z80:=Tryz.sizeOf401
 v80:=Tryz.zeroValue401
 i0:=by kernel_rfl
 i2:=by kernel_rfl
 i3:=by kernel_rfl
 i4:=by kernel_rfl
 i5:=by kernel_rfl
 i9:=by kernel_rfl
 i20:=by kernel_rfl
 i21:=by kernel_rfl
 i37:=by kernel_rfl
 i46:=by kernel_rfl
 i51:=by kernel_rfl
 i53:=by kernel_rfl
 i75:=by kernel_rfl
 i76:=by kernel_rfl
 i80:=by kernel_rfl
 i85:=by kernel_rfl
 i127:=by kernel_rfl
 i143:=by kernel_rfl
 i145:=by kernel_rfl
 i167:=by kernel_rfl
 i168:=by kernel_rfl
 i171:=by kernel_rfl
 i173:=by kernel_rfl
 i175:=by kernel_rfl
 i210:=by kernel_rfl
 i212:=by kernel_rfl
 i232:=by kernel_rfl
 i233:=by kernel_rfl
 m15:=by kernel_rfl
 m16:=by kernel_rfl
 m17:=by kernel_rfl
 m18:=by kernel_rfl
 m19:=by kernel_rfl
 c0:=by kernel_rfl
 c2:=by kernel_rfl
 c3:=by kernel_rfl
 c4:=by kernel_rfl
 c5:=by kernel_rfl
 c9:=by kernel_rfl
 c20:=by kernel_rfl
 c21:=by kernel_rfl
 c37:=by kernel_rfl
 c46:=by kernel_rfl
 c51:=by kernel_rfl
 c53:=by kernel_rfl
 c75:=by kernel_rfl
 c76:=by kernel_rfl
 c80:=by kernel_rfl
 c85:=by kernel_rfl
 c127:=by kernel_rfl
 c143:=by kernel_rfl
 c145:=by kernel_rfl
 c167:=by kernel_rfl
 c168:=by kernel_rfl
 c171:=by kernel_rfl
 c173:=by kernel_rfl
 c175:=by kernel_rfl
 c210:=by kernel_rfl
 c212:=by kernel_rfl
 c213:=by kernel_rfl
 c232:=by kernel_rfl
 c233:=by kernel_rfl }
def pn:Go.Shelf.Ren:=⟨fun | 6=>216 | 15=>277 | 14=>276 | 28=>311 | 29=>285 | 20=>303 | 21=>304 | 22=>305 | 23=>306 | 24=>307 | 25=>308 | 26=>309 | 27=>310 | 46=>332 | 47=>333 | 48=>334 | 49=>335 | 50=>336 | 57=>348 | n=>n,fun | 22=>115 | 24=>121 | 25=>278 | 3=>3 | 39=>254 | 0=>0 | 53=>341 | 55=>289 | 4=>4 | 46=>359 | 45=>358 | 50=>132 | 5=>5 | 9=>9 | 66=>378 | 70=>382 | 76=>402 | 77=>282 | n=>n,fun | n=>n⟩
theorem nO:Go.Proofs.SlLaysF0.n6 Tryz.prog pn:={
 mixed:=by kernel_rfl
 f6:=⟨Tryz.f216.name,by decide,Tryz.func216.trans (rh some (by kernel_rfl))⟩
 f14:=⟨Tryz.f276.name,by decide,Tryz.func276.trans (rh some (by kernel_rfl))⟩
 f15:=Tryz.func277.trans (rh some (by kernel_rfl))
 f20:=⟨Tryz.f303.name,by decide,Tryz.func303.trans (rh some (by kernel_rfl))⟩
 f21:=⟨Tryz.f304.name,by decide,Tryz.func304.trans (rh some (by kernel_rfl))⟩
 f22:=⟨Tryz.f305.name,by decide,Tryz.func305.trans (rh some (by kernel_rfl))⟩
 f23:=⟨Tryz.f306.name,by decide,Tryz.func306.trans (rh some (by kernel_rfl))⟩
 f24:=⟨Tryz.f307.name,by decide,Tryz.func307.trans (rh some (by kernel_rfl))⟩
 f25:=⟨Tryz.f308.name,by decide,Tryz.func308.trans (rh some (by kernel_rfl))⟩
 f26:=⟨Tryz.f309.name,by decide,Tryz.func309.trans (rh some (by kernel_rfl))⟩
 f27:=⟨Tryz.f310.name,by decide,Tryz.func310.trans (rh some (by kernel_rfl))⟩
 f28:=Tryz.func311.trans (rh some (by kernel_rfl))
 f29:=Tryz.func285.trans (rh some (by kernel_rfl))
 f46:=⟨Tryz.f332.name,by decide,Tryz.func332.trans (rh some (by kernel_rfl))⟩
 f47:=Tryz.func333.trans (rh some (by kernel_rfl))
 f48:=Tryz.func334.trans (rh some (by kernel_rfl))
 f49:=⟨Tryz.f335.name,by decide,Tryz.func335.trans (rh some (by kernel_rfl))⟩
 f50:=⟨Tryz.f336.name,by decide,Tryz.func336.trans (rh some (by kernel_rfl))⟩
 f57:=⟨Tryz.f348.name,by decide,Tryz.func348.trans (rh some (by kernel_rfl))⟩
 t0:=Tryz.underlying0
 a0:=Tryz.isAgg0
 z0:=Tryz.sizeOf0
 v0:=Tryz.zeroValue0
 t3:=Tryz.underlying3
 a3:=Tryz.isAgg3
 z3:=Tryz.sizeOf3
 v3:=Tryz.zeroValue3
 t4:=Tryz.underlying4
 a4:=Tryz.isAgg4
 z4:=Tryz.sizeOf4
 v4:=Tryz.zeroValue4
 t5:=Tryz.underlying5
 a5:=Tryz.isAgg5
 z5:=Tryz.sizeOf5
 v5:=Tryz.zeroValue5
 t9:=Tryz.underlying9
 a9:=Tryz.isAgg9
 z9:=Tryz.sizeOf9
 v9:=Tryz.zeroValue9
 t22:=Tryz.underlying115
 a22:=Tryz.isAgg115
 z22:=Tryz.sizeOf115
 v22:=Tryz.zeroValue115
 t25:=Tryz.underlying278
 a25:=Tryz.isAgg278
 z25:=Tryz.sizeOf278
 v25:=Tryz.zeroValue278
 t39:=Tryz.underlying254
 a39:=Tryz.isAgg254
 z39:=Tryz.sizeOf254
 v39:=Tryz.zeroValue254
 t45:=Tryz.underlying358
 a45:=Tryz.isAgg358
 z45:=Tryz.sizeOf358
 v45:=Tryz.zeroValue358
 t46:=Tryz.underlying359
 a46:=Tryz.isAgg359
 z46:=Tryz.sizeOf359
 v46:=Tryz.zeroValue359
 t50:=Tryz.underlying132
 a50:=Tryz.isAgg132
 z50:=Tryz.sizeOf132
 v50:=Tryz.zeroValue132
 t53:=Tryz.underlying341
 a53:=Tryz.isAgg341
 z53:=Tryz.sizeOf341
 v53:=Tryz.zeroValue341
 t55:=Tryz.underlying289
 a55:=Tryz.isAgg289
 z55:=Tryz.sizeOf289
 v55:=Tryz.zeroValue289
 t66:=Tryz.underlying378
 a66:=Tryz.isAgg378
 z66:=Tryz.sizeOf378
 v66:=Tryz.zeroValue378
 t70:=Tryz.underlying382
 a70:=Tryz.isAgg382
 z70:=Tryz.sizeOf382
 v70:=Tryz.zeroValue382
 t76:=Tryz.underlying402
 a76:=Tryz.isAgg402
 z76:=Tryz.sizeOf402
 v76:=Tryz.zeroValue402
 t77:=Tryz.underlying282
 a77:=Tryz.isAgg282
 z77:=Tryz.sizeOf282
 v77:=Tryz.zeroValue282 }
end Go.Proofs.YtmeadkhpiobenaaGreatDoor.Al

namespace Go.Proofs.YtmeadkhpiobenaaGreatDoor.Al
section
variable{P:Program}{ops:Array Oper}{rest:List Oper}{s:St}{K:St→Prop}{o:Oper}
def Nu(R:AX)(L:List Nat)(id n:Nat):List Operand→List AV→Prop
 | [],[]=>True
 | x::j,b::l=>(((Ev true R x (ren L b)∧b.canon L.length=true)∨(Ev true R x (.cst (.slice none 0 0))∧b=.r (.sl [])))∨(Ev true R x (.cst (.slice none 0 0))∧ren L b=.own id n∧b.canon L.length=true))∧Nu R L id n j l
 | _,_=>False
theorem Nu.get{R}{L:List Nat}{id n}{xs:List Operand}{bs:List AV}(j:Nu R L id n xs bs) :
  xs.length=bs.length∧∀(i:Nat) (b:AV),bs[i]?=some b→∃x,xs[i]?=some x∧(((Ev true R x (ren L b)∧b.canon L.length=true)∨(Ev true R x (.cst (.slice none 0 0))∧b=.r (.sl [])))∨(Ev true R x (.cst (.slice none 0 0))∧ren L b=.own id n∧b.canon L.length=true)):=by
 induction xs generalizing bs with
 | nil=>cases bs with | nil=>exact⟨rfl,by simp⟩ | cons _ _=>exact j.elim
 | cons x l w=>
  cases bs with
  | nil=>exact j.elim
  | cons b m=>
   obtain⟨A,B⟩:=w j.2
   refine⟨by simp[A],λi c q=>?_⟩
   cases i with
   | zero=>simp at q;subst q;exact⟨x,rfl,j.1⟩
   | succ i=>simpa using B i c (by simpa using q)
theorem lP{f}{fo}{xs:Array Operand}{ac}{caps bs:List AV}{L:List Nat}{hc}{Post}{R}{h}{a:Act}{z:Cx}(id:Nat)(e:TypeId)(sz:Nat)(ad:Nat.blt 0 sz=true)
 (ho:o.op=.call { callee := .value fo, args := xs, argTypes := ac }) (ae:Ev true R fo (.fn f (D6 L caps))) (af:Et L.length caps=true) (hx:Nu R L id z.n xs.toList bs) (F:FA ((id, some (.arr z.n e sz []))::h) L hc) (I:L.Nodup)
 (w:BH P f L.length (bs++caps) hc Post) (ag:z.ok) (hH:z.H=hget h) (he:Bp z R a) (K:Act→World→Prop) (Q:Exit→Act→World→Prop)
 (hK:∀(u:Value) (y:Cx) (r:AV) (X:AO), z.le y→y.ok→y.H=hget (Eh L X 1000 L++((id, some (.arr z.n e sz []))::h))→AM y (ren L r) u→Post r X→K (a.put o.dst u) y.w):o.wp P a z.w K Q := by
  have A := Dq ag id (.arr z.n e sz []) z.w none (z.n+1) (rN _) rfl rfl rfl (λ_ _ _ => rfl) (λb k hb => by cases hb) (by omega) (by simp[AU.gen]) (λhg => absurd hg (by simp[AU.gen]))
    (λZ => ⟨By ad, by simp, .slice none 0 0, [], ⟨rfl, rfl⟩, World.ownsRow_nil _ _ _ _, by simp⟩)
  generalize B:({ z with H := λi => if id=i then some (.arr z.n e sz []) else z.H i, β := λi => if id=i then none else z.β i, K := λi => if id=i then λ_ => none else z.K i, n := z.n+1 } : Cx)=m at A
  have j:m.H=hget ((id, some (.arr z.n e sz []))::h) := by rw[← B];simp only[hH];exact Ch _ _ _
  have Az:m.H id=some (.arr z.n e sz []) := by rw[j, BJ, rF rfl]
  have a0:m.β id=none := by rw[← B];simp
  have a1:m.n=z.n+1 := by rw[← B]
  have a2:m.w=z.w := by rw[← B]
  have C := he.mono A.1
  obtain⟨J, w⟩ := w
  obtain⟨l, M⟩ := hx.get
  have hv := ae.rep C rfl
  generalize ah:a.eval fo=v at hv
  cases hv with
  | @fn _ _ us hl a6 =>
    have a7 := LC J ho ah z.w
    rw[Fp] at hl
    have O:∀ {b:AV} {u:Value}, AM m (ren L b) u→b.canon L.length=true→AM (m.view L hc) b u := λ{b u} T h2 => P6 (x := m) (y := m.view L hc) (L := L) (k := L.length) rfl (λ_ h => h) (rN _) (P9 j F) T b rfl h2
    have U:FM (m.view L hc) (bs++caps) (xs.map a.eval++us).toList := by
      refine⟨by simp[hl];simpa using l, λi b u T h2 => ?_⟩
      have q:((xs.toList.map a.eval)++us.toList)[i]?=some u := by simpa using h2
      by_cases hi:i<bs.length
      · rw[rf hi] at T
        obtain⟨x, k1, E⟩ := M i b T
        rw[rf (by simp at l ⊢;omega), rT, k1] at q
        simp only[sP, rR] at q
        subst q
        rcases E with (⟨E, k3⟩ | ⟨E, rfl⟩) | ⟨E, k3, k4⟩
        · exact O (E.rep C rfl) k3
        · have := E.rep C rfl
          generalize a.eval x=v at this ⊢
          cases this;exact .r .snil
        · refine O ?_ k4
          rw[k3]
          have := E.rep C rfl
          generalize a.eval x=v at this ⊢
          cases this
          refine .own (by rw[a1];omega) rfl λo' a8 _ => ?_
          rw[Az] at a8;cases a8
          rw[a0];exact⟨rfl, rfl⟩
      · rw[rc (by omega)] at T
        rw[rc (by simp at l ⊢;omega)] at q
        have ai:(xs.toList.map a.eval).length=bs.length := by simpa using l
        rw[ai] at q
        exact O (a6 _ (ren L b) u (by rw[GT, T];rfl) (by simpa using q)) (GZ af T)
    unfold Oper.wp
    rw[a7, ← a2]
    refine(w (m.view L hc) _ (Ua A.2 j F I) rfl U).mono λe' w' ⟨u, y, r, X, he', aj, Z, aa, ab, ak, al, an, V⟩ => ?_
    subst he'
    subst aj
    obtain⟨k1, E⟩ := XA A.2 j F I Z aa ab an
    exact hK u (m.back y L X _) r X (A.1.trans k1) E rfl (UO (x := y) (y := m.back y L X _) (L := L) (k := L.length) rfl (λ_ h => h) (rN _) (S5 I ab) ak al) V
theorem bA{d:Nat}{f:FuncId}{fo:Operand}{xs:Array Operand}{C:Array TypeId}{caps bs:List AV}(id:Nat)(e:TypeId)(sz:Nat)(E:Nat.blt 0 sz=true)(L:List Nat){hc:AO}{F:(Nat→Nat)→AV}{G:(Nat→Nat)→AO}(hg:o.guard=none)(hd:o.dst=some d)(hN:Nat.blt d s.N=true)
  (ho:o.op=.call { callee:=.value fo,args:=xs,argTypes:=C }) (I:Ev true s.e fo (.fn f (D6 L caps))) (J:Et L.length caps=true) (hx:Nu s.e L id s.n xs.toList bs) (l:FA ((id,some (.arr s.n e sz []))::s.h) L hc) (M:L.Nodup)
  (m:BH P f L.length (bs++caps) hc (λr h'=>∃i,r=F i∧h'=G i))
  (hr:∀i n',AK P ops rest { e:=(d,ren L (F i))::s.e,h:=Eh L (G i) 1000 L++((id,some (.arr s.n e sz []))::s.h),n:=n',N:=s.N } K):AK P ops (o::rest) s K:=by
 intro c0 a w ⟨_,q,hsz,y,O,T,U,hH,hn,he⟩ Q hQ
 subst O
 rw[← hn] at hx l hr
 refine wpList_plain hg λK' V=>?_
 refine lP id e sz E ho I J hx l M m U hH he K' Q λu z r h' A B X Z j=>?_
 refine V _ _ ?_
 have a0:d<a.tmps.size:=by rw[hsz];exact By hN
 obtain⟨i,rfl,rfl⟩:=j
 rw[hd]
 exact hr i z.n c0 (a.put (some d) u) z.w ⟨_,q,by simpa[Act.put] using hsz,z,rfl,T.trans A,B,X,rfl,(he.mono A).put a0 Z⟩ Q hQ
end
theorem ot{α:Type}{l j:List α}{z:Int}(h:DX l 0 z=some j):j=l.take z.toNat:=by
 obtain⟨_,_,_,rfl⟩:=PQ h
 simp
section
variable{P:Program}{c:Bool}{o:Oper}{R:AX}{h:AO}{n:Nat}
theorem kx{α:Type}{f}{t e e'}{sz C}{x y}{id g}{l l':List α}{q:Int}(ho:o.op=.slice t x none (some y) none)(ht:Dx P t e sz)(hx:Ev c R x (.own id g))
 (hh:hget h id=some (.arr g e' C (l.map f))) (X:∃k, Ev c R y (.r (.int k q))) (hs:c=true→DX l 0 q=some l'):AP P c o R h (.pre id g q.toNat) := by
  intro Z z w E hH he
  obtain⟨F, ii, I, a0⟩ := ht
  obtain⟨J, h2, h3, rfl⟩ := PQ (hs Z)
  have j:z.H id=some (.arr g e' C (l.map f)) := by rw[hH];exact hh
  obtain⟨h0, a2, us, hd, A, a7⟩ := Ls E j (hx.rep he Z)
  have M := (E.obj _ _ j).1
  obtain⟨k, hk⟩ := X
  have hy := CM (hk.rep he Z)
  have B:∀(len cap:Nat), q≤cap→∀W, (Instr.sliceBounds true len cap none (some (w.eval y)) none).run P W=.ok (0, q.toNat, cap) W := by
    intro len cap O W
    have hH:(Instr.sliceBound (w.eval y) cap .sliceAcap).run P W=.ok q.toNat W := by rw[hy, L3 h2 O]
    simp[Instr.sliceBounds, hH]
  rw[rx] at hd
  generalize T:w.eval x=xv at hd A
  unfold Cp at hd
  split at hd
  · rename_i heq
    obtain⟨hz, rfl⟩ := hd
    have U:q.toNat=0 := by omega
    refine⟨.slice none 0 0, λw2 a1 => ?_, .pre M rfl λo' m _ => ?_⟩
    · unfold execOp
      rw[ho]
      have V := B 0 0 (by omega) w2
      rw[U] at V
      simp[T, Instr.sliceAt, Instr.slice, run_underlying F, Dm I, V]
    · rw[j] at m;cases m
      rw[heq, U]
      exact⟨sh _, rfl, rfl⟩
  · rename_i b cap heq
    subst hd
    have a8:l.length≤cap := by
      rcases A.2 with ⟨J, _⟩ | ⟨g', a6, aa, J, _, _, h2, h3, _⟩
      · cases J
      · simp only[Value.slice.injEq] at J;rw[J.2.2];simpa using h2
    refine⟨.slice (some ⟨b, 0, none⟩) q.toNat cap, λw2 a1 => ?_, .pre M rfl λo' m _ => ?_⟩
    · unfold execOp
      rw[ho]
      simp[T, Instr.sliceAt, Instr.slice, run_underlying F, Dm I, a0, B _ cap (by omega), Addr.add_lit]
    · rw[j] at m;cases m
      rw[heq]
      exact⟨by simp[AU.shape];omega, rfl⟩
end
open Go.Shelf Go.Proofs
theorem Yd:TV Tryz.prog 216 4:=⟨⟨Tryz.f216,Tryz.func216,rfl,rfl⟩,_,rfl,nO,Tryz.isAgg121,Tryz.sizeOf121⟩
end Go.Proofs.YtmeadkhpiobenaaGreatDoor.Al

set_option linter.unusedVariables false
namespace Go.Proofs.YtmeadkhpiobenaaGreatDoor.Al
def HP(P:Program)(t:TypeId):Option (Option Value × Nat × Nat):=(P.info? t).map λi=>(i.zero,i.size,i.bytes)
def Jg(P:Program)(t:TypeId):Bool:=match P.underlying t,HP P t with
 | some d,some (some _,sz,_)=>Fw d&&Nat.beq sz 1
 | _,_=>false
def Ku(P:Program)(t:TypeId):Option Nat:=match P.underlying t,HP P t with
 | some d,some (some _,sz,_)=>if Fw d then none else some sz
 | _,_=>none
def SY(P:Program)(t:TypeId):Option Nat:=match HP P t with
 | some (some _,sz,_)=>some sz
 | _=>none
def Q1(P:Program)(t:TypeId):Option Value:=match HP P t with
 | some (some z,_,_)=>some z
 | _=>none
def Gq(P:Program)(t:TypeId):Option (TypeId × Nat × Nat):=match P.underlying t with
 | some (.slice e)=>match HP P e with
  | some (some z,sz,b)=>if z.cells.size=sz∧z.cells.toList.all Value.oneCell'=true∧0<sz then some (e,sz,b) else none
  | _=>none
 | _=>none
def Se(P:Program)(t:TypeId)(f:Nat):Option Nat:=match P.underlying t with
 | some (.struct l)=>match l[f]? with
  | some j=>match HP P j.type with
   | some (some _,sz,_)=>if sz=0 then none else some j.offset
   | _=>none
  | none=>none
 | _=>none
def U7(P:Program)(t:TypeId)(f:Nat):Option Nat:=match P.underlying t with
 | some (.struct l)=>match l[f]? with
  | some j=>match P.underlying j.type with
   | some d=>if Fw d then some j.offset else none
   | none=>none
  | none=>none
 | _=>none
section
variable{P:Program}{t:TypeId}
theorem Mc(h:Jg P t=true):BL P t:=by
 unfold Jg at h
 split at h
 ·rename_i d z sz b j l
  simp only[rO] at h
  have:=rX h.2
  subst this
  exact BL.of j h.1 l
 ·cases h
theorem Oo{sz}(h:Ku P t=some sz):Bb P t sz:=by
 unfold Ku at h
 split at h
 ·rename_i d z j b l m
  split at h
  ·cases h
  ·rename_i q;cases h
   exact Bb.of l (by simpa using q) m
 ·cases h
theorem Wx{sz}(h:SY P t=some sz):∃i,P.info? t=some i∧i.size=sz:=by
 unfold SY at h
 split at h
 ·rename_i z j b l;cases h;exact DB l
 ·cases h
theorem Xs{z}(h:Q1 P t=some z):Be P t z:=by
 unfold Q1 at h
 split at h
 ·rename_i m j b l;cases h;exact Be.of l
 ·cases h
theorem Ht{e}{sz b}(h:Gq P t=some (e,sz,b)):Bn P t e sz b:=by
 unfold Gq at h
 split at h
 ·rename_i w l
  split at h
  ·rename_i z m A q
   split at h
   ·rename_i j;cases h;exact Bn.of l q j.1 j.2.1 j.2.2
   ·cases h
  ·cases h
 ·cases h
theorem XH{f off}(h:Se P t f=some off):Ai P t f off:=by
 unfold Se at h
 split at h
 ·rename_i w j
  split at h
  ·rename_i A l
   split at h
   ·rename_i z sz b m
    split at h
    ·cases h
    ·rename_i q;cases h;exact Ai.of j l rfl m q
   ·cases h
  ·cases h
 ·cases h
theorem e9{f off}(h:U7 P t f=some off):O8 P t f off:=by
 unfold U7 at h
 split at h
 ·rename_i w j
  split at h
  ·rename_i A l
   split at h
   ·rename_i d m
    split at h
    ·rename_i q;cases h;exact O8.of j l rfl m q
    ·cases h
   ·cases h
  ·cases h
 ·cases h
end
def Iz:List UInt8→UInt8→Int→Int
 | [],_,_=>-1
 | b::l,c,k=>match b==c with
  | true=>k
  | false=>Iz l c (k+1)
theorem Wa:∀(l:List UInt8) (c:UInt8),-1≤Lib.indexByte l c
 | [],_=>by simp[Lib.indexByte]
 | b::l,c=>by
  have:=Wa l c
  simp only[Lib.indexByte]
  split
  ·omega
  ·split
   ·omega
   ·omega
theorem XS:∀(l:List UInt8) (c:UInt8) (k:Int),0≤k→Iz l c k=if Lib.indexByte l c = -1 then -1 else Lib.indexByte l c+k
 | [],_,_,_=>by simp[Iz,Lib.indexByte]
 | b::l,c,k,A=>by
  have hg:=Wa l c
  have e:Lib.indexByte (b::l) c=(if(b==c)=true then 0 else if(Lib.indexByte l c == -1)=true then -1 else Lib.indexByte l c+1):=rfl
  have q:Iz (b::l) c k=(match b==c with | true=>k | false=>Iz l c (k+1)):=rfl
  generalize Lib.indexByte (b::l) c=z at e ⊢
  rw[q]
  cases m:b==c
  ·rw[m] at e
   simp only[si,tV] at e
   show Iz l c (k+1)=_
   rw[XS l c (k+1) (by omega),e]
   by_cases j:Lib.indexByte l c = -1
   ·rw[j];simp
   ·have w:(Lib.indexByte l c == -1)=false:=by simpa using j
    rw[rE j,w]
    simp only[si,tV]
    rw[rE (by omega)];omega
  ·rw[m] at e
   simp only[tm] at e
   rw[e];simp
theorem d7 l c:Iz l c 0=Lib.indexByte l c:=by
 rw[XS l c 0 (Int.le_refl _)]
 split
 ·rename_i h;rw[h]
 ·omega
def Tv (fn : Func) : Bool := fn.body.isNone && (fn.name == "internal/bytealg.IndexByteString" && fn.origin == "")
theorem jh {fn : Func} (h : fn.name = "internal/bytealg.IndexByteString") (j : fn.origin = "") : Extern.find fn = some Extern.BytealgIndexByte.indexByte ∧ Extern.findNext fn = none := by
 have l : Extern.allGenericRows.lookup "internal/bytealg.IndexByteString" = none := by kernel_rfl
 have m : Extern.allTypedRows.lookup "internal/bytealg.IndexByteString" = none := by kernel_rfl
 have q : Extern.allRows.lookup "internal/bytealg.IndexByteString" = some Extern.BytealgIndexByte.indexByte := by kernel_rfl
 have w : Extern.allNextRows.lookup "" = none := by kernel_rfl
 have A : Extern.allNextRows.lookup "internal/bytealg.IndexByteString" = none := by kernel_rfl
 constructor
 ·unfold Extern.find
  simp only[h,l,m,q]
  rfl
 ·unfold Extern.findNext
  simp only[h,j,A,w]
  rfl
section
variable{P:Program}{c:Bool}{o:Oper}{R:AX}{h:AO}
theorem fH{f}{fn:Func}{fo x y}{E}{s:List UInt8}{m:Int}(ho:o.op=.call { callee := .value fo, args := #[x, y], argTypes := E })(M:P.funcs[f]?=some fn)(A:Tv fn=true)(F:Ev c R fo (.fn f []))
 (O:Ev c R x (.r (.str s))) (T:Ev c R y (.r (.int .u8 m))):AP P c o R h (.r (.int .i64 (Lib.indexByte s m.toNat.toUInt8))) := by
  intro B z w _ _ C
  refine⟨.int .i64 (Lib.indexByte s m.toNat.toUInt8), λw2 _ => ?_, .r (.int _ _)⟩
  simp only[Tv, rO, u5] at A
  obtain⟨U, V⟩ := jh A.2.1 A.2.2
  have X := F.rep C B
  generalize I:w.eval fo=v at X
  cases X with
  | @fn _ _ Z hl a0 =>
    have J:Z = #[] := by
      have:Z.size=0 := hl.symm
      exact tr this
    subst J
    unfold execOp
    rw[ho]
    simp only[resolve, I, Deferred.ofValue, Sem.run_bind, Sem.run_pure, Result.andThen_ok, invoke]
    have q:(#[x, y].map w.eval ++ #[]:Array Value) = #[.string ⟨s.toArray⟩, .int .u8 m] := by
      simp[GY (O.rep C B), CM (T.rep C B)]
    have l:(#[] ++ #[x, y].map w.eval ++ #[]:Array Value) = #[.string ⟨s.toArray⟩, .int .u8 m] := by
      simp[GY (O.rep C B), CM (T.rep C B)]
    have j : (fn.name == "runtime.NumGoroutine") = false := by rw [A.2.1]; rfl
    first
      | rw[q, run_callFunc_extern M j A.1 V U, Lib.run_indexByteString];rfl
      | rw[l, run_callFunc_extern M j A.1 V U, Lib.run_indexByteString];rfl
end
def At(R:AX)(x:Operand):AV:=match A8 R x with
 | .whn true v=>v
 | v=>v
theorem BO c R x:Ev c R x (At R x):=by
 unfold At Ev
 split
 ·rename_i v h;exact .inr ⟨true,λ_=>rfl,h⟩
 ·exact .inl rfl
section
variable{P:Program}{c:Bool}{o:Oper}{R:AX}{h:AO}
def U4(P:Program)(op:BinOp)(t:TypeId):AV→AV→Option AV
 | .r (.int k m),.r (.int j n)=>if k=j then match op with
   | .add=>some (.r (.int k (k.wrap (m+n))))
   | .sub=>some (.r (.int k (k.wrap (m-n))))
   | .mul=>if k.wrap (m * n)=m * n then some (.r (.int k (m * n))) else none
   | .quo=>if n≠0∧k.wrap (m.tdiv n)=m.tdiv n then some (.r (.int k (m.tdiv n))) else none
   | .rem=>if n≠0 then some (.r (.int k (m.tmod n))) else none
   | .eql=>some (.r (.bool (decide (m=n))))
   | .neq=>some (.r (.bool (!(m=n))))
   | .lss=>some (.r (.bool (decide (m<n))))
   | .leq=>some (.r (.bool (decide (m≤n))))
   | .gtr=>some (.r (.bool (decide (n<m))))
   | .geq=>some (.r (.bool (decide (n≤m))))
   | _=>none
  else none
 | .r (.str a),.r (.str b)=>match op with
   | .eql=>some (.r (.bool (decide (a=b))))
   | .neq=>some (.r (.bool (!(a=b))))
   | .lss=>some (.r (.bool (Ap a b)))
   | .geq=>some (.r (.bool (!Ap a b)))
   | .leq=>some (.r (.bool (Ap a b||(a=b))))
   | .gtr=>some (.r (.bool (!(Ap a b||(a=b)))))
   | .add=>if a.length+b.length≤9223372036854775807 then some (.r (.str (a++b))) else none
   | _=>none
 | .r (.bool m),.r (.bool n)=>match P.underlying t with
   | some .bool=>match op with
    | .eql=>some (.r (.bool (m==n)))
    | .neq=>some (.r (.bool (!(m==n))))
    | _=>none
   | _=>none
 | _,_=>none
theorem f9{op}{t B}{x y}{a b v}(l:o.op=.binOp op t x y B)(m:Ev c R x a)(q:Ev c R y b)(j:U4 P op t a b=some v):AP P c o R h v := by
  unfold U4 at j
  split at j
  · split at j
    · rename_i C;subst C
      cases op<;>dsimp only at j<;>first
        | (cases j;first | exact fv l m q | exact Zv l m q | exact BE l m q | exact C0 l m q | exact Bu l m q | exact Ei l m q | exact BU l m q | exact Cq l m q)
        | (split at j
           · rename_i w;cases j;first | exact ZU l m q w | exact dJ l m q w.1 w.2 | exact mE l m q w
           · cases j)
        | (cases j;done)
    · cases j
  · cases op<;>dsimp only at j<;>first
      | (cases j;first | exact D3 l m q | exact Dt l m q | exact ME l m q | exact R0 l m q | exact XM l m q | exact Xh l m q)
      | (split at j
         · rename_i w;cases j;exact iY l m q w
         · cases j)
      | (cases j;done)
  · split at j
    · rename_i A
      cases op<;>dsimp only at j<;>first
        | (cases j;first | exact YZ l A m q | exact Vd l A m q)
        | (cases j;done)
    · cases j
  · cases j
def Q0:Nat→List Field→Bool
 | _,[]=>true
 | i, f :: j => (!(f.name == "_") && Nat.beq f.offset i) && Q0 (i + 1) j
def Sc(P:Program)(t:TypeId):Option (List (Option TypeDesc)):=match P.underlying t with
 | some (.struct j)=>if(P.stoodInHeld t=false∧P.eqGuardType P.depth t=false)∧Q0 0 j.toList=true then some (j.toList.map λf=>P.underlying f.type) else none
 | _=>none
theorem X3:∀ {j:List Field} {i:Nat},Q0 i j=true→O3 P i j (j.map λf=>P.underlying f.type)
 | [],_,_=>trivial
 | f::j,i,h=>by
  simp only[Q0,rO,sB] at h
  exact⟨h.1.1,rX h.1.2,rfl,X3 h.2⟩
theorem Yl{t}{l}(h:Sc P t=some l):GU P t l:=by
 unfold Sc at h
 split at h
 ·rename_i q m
  split at h
  ·rename_i j;cases h;exact GU.of m j.1.1 j.1.2 (X3 j.2)
  ·cases h
 ·cases h
def Ts(P:Program)(op:BinOp)(t:TypeId):AV→AV→Option AV
 | .agg j,.agg l=>match Sc P t with
  | some m=>match HO m j l with
   | some r=>match op with
    | .eql=>some (.r (.bool r))
    | .neq=>some (.r (.bool (!r)))
    | _=>none
   | none=>none
  | none=>none
 | _,_=>none
theorem ed{op}{t B}{x y}{a b v}(l:o.op=.binOp op t x y B)(m:Ev c R x a)(q:Ev c R y b)(j:Ts P op t a b=some v):AP P c o R h v:=by
 unfold Ts at j
 split at j
 ·split at j
  ·rename_i C w
   split at j
   ·rename_i r A
    split at j
    ·cases j;exact cU l (Yl w) m q A
    ·cases j;exact SV l (Yl w) m q A
    ·cases j
   ·cases j
  ·cases j
 ·cases j
def Tm(op:BinOp):AV→AV→Option AV
 | .r (.int k m),.r (.int _ n)=>if 0≤n then match op with
   | .shl=>some (.r (.int k (DR k m n.toNat)))
   | .shr=>some (.r (.int k (FO k m n.toNat)))
   | _=>none
  else none
 | _,_=>none
def Sl(op:BinOp):AV→AV→Option AV
 | .r (.int k m),.r (.int j n)=>if k=j then match op with
   | .and=>some (.r (.int k (CE k m n)))
   | .or=>some (.r (.int k (D5 k m n)))
   | .xor=>some (.r (.int k (TO k m n)))
   | .andNot=>some (.r (.int k (O1 k m n)))
   | _=>none
  else none
 | _,_=>none
theorem nW{op}{t w}{x y}{a b v}(l:o.op=.binOp op t x y w)(m:Ev c R x a)(q:Ev c R y b)(j:Sl op a b=some v):AP P c o R h v:=by
 unfold Sl at j
 split at j
 ·split at j
  ·rename_i A;subst A
   split at j
   ·cases j;exact F4 l m q
   ·cases j;exact I9 l m q
   ·cases j;exact pt l m q
   ·cases j;exact ZE l m q
   ·cases j
  ·cases j
 ·cases j
theorem ft{op}{t w}{x y}{a b v}(m:o.op=.binOp op t x y w)(q:Ev c R x a)(l:Ev c R y b)(j:Tm op a b=some v):AP P c o R h v:=by
 unfold Tm at j
 split at j
 ·split at j
  ·rename_i A
   rw[← Int.toNat_of_nonneg A] at l
   split at j
   ·cases j;exact JK m q l
   ·cases j;exact RZ m q l
   ·cases j
  ·cases j
 ·cases j
def rC:AV→Option Bool
 | .r (.bool b)=>some b
 | .whn _ (.r (.bool b))=>some b
 | _=>none
def SA(R:AX)(x y z:Operand):Option AV:=
 match At R x with
 | .r (.bool a)=>
  match z with
  | .const (.bool false)=>match a,A8 R y with
   | true,.r (.bool b)=>some (.r (.bool b))
   | true,.whn true (.r (.bool b))=>some (.r (.bool b))
   | false,.r (.bool _)=>some (.r (.bool false))
   | false,.whn _ (.r (.bool _))=>some (.r (.bool false))
   | _,_=>none
  | _=>match y with
   | .const (.bool true)=>match a,A8 R z with
    | false,.r (.bool b)=>some (.r (.bool b))
    | false,.whn true (.r (.bool b))=>some (.r (.bool b))
    | true,.r (.bool _)=>some (.r (.bool true))
    | true,.whn _ (.r (.bool _))=>some (.r (.bool true))
    | _,_=>none
   | _=>none
 | _=>none
theorem mc{x y z}{v}(q:o.op=.pick x y z)(j:SA R x y z=some v):AP P c o R h v:=by
 unfold SA at j
 have m:=BO c R x
 split at j
 ·rename_i a A
  rw[A] at m
  split at j
  ·split at j
   ·rename_i b l;cases j;exact BS (a:=true) (b:=b) q m (.inl l)
   ·rename_i b l;cases j;exact BS (a:=true) (b:=b) q m (.inr ⟨true,λ_=>rfl,l⟩)
   ·rename_i b l;cases j;exact BS (a:=false) (b:=b) q m (.inl l)
   ·rename_i w b l;cases j;exact BS (a:=false) (b:=b) q m (.inr ⟨w,λe=>by simp at e,l⟩)
   ·cases j
  ·split at j
   ·split at j
    ·rename_i b l;cases j;exact CN (a:=false) (b:=b) q m (.inl l)
    ·rename_i b l;cases j;exact CN (a:=false) (b:=b) q m (.inr ⟨true,λ_=>rfl,l⟩)
    ·rename_i b l;cases j;exact CN (a:=true) (b:=b) q m (.inl l)
    ·rename_i w b l;cases j;exact CN (a:=true) (b:=b) q m (.inr ⟨w,λe=>by simp at e,l⟩)
    ·cases j
   ·cases j
 ·cases j
def SB(P:Program)(t:TypeId)(h:AO):AV→Option AV
 | .rop row k=>match Jg P t with
  | true=>match row[k]? with
   | some d=>some (.r d)
   | none=>none
  | false=>match Ku P t with
   | some sz=>if k=0∧row.length=sz then some (.agg (row.map .r)) else none
   | none=>none
 | .ptr id g i k=>match hget h id with
  | some (.box j e l)=>if g=j∧i=0 then match Jg P t with
    | true=>l[k]?
    | false=>match Ku P t with
     | some sz=>if((l.drop k).take sz).length=sz then some (.agg ((l.drop k).take sz)) else none
     | none=>none
   else none
  | some (.arr j e sz q)=>if g=j then match q[i]? with
    | some row=>match Jg P t with
     | true=>match row[k]? with
      | some d=>some (.r d)
      | none=>none
     | false=>match Ku P t with
      | some m=>if k=0∧m=sz then some (.agg (row.map .r)) else none
      | none=>none
    | none=>none
   else none
  | _=>none
 | _=>none
theorem jx{t}{x}{a v}(q:o.op=.load t x)(w:Ev c R x a)(j:SB P t h a=some v):AP P c o R h v:=by
 unfold SB at j
 split at j
 ·split at j
  ·rename_i l
   split at j
   ·rename_i d hd;cases j;exact XG q (Mc l) w (λ_=>hd)
   ·cases j
  ·split at j
   ·rename_i sz l
    split at j
    ·rename_i A;obtain⟨rfl,B⟩:=A;cases j;exact V5 q (Oo l) w B
    ·cases j
   ·cases j
 ·split at j
  ·rename_i C
   split at j
   ·rename_i A;obtain⟨rfl,rfl⟩:=A
    split at j
    ·rename_i l;exact Yn q (Mc l) w (λ_=>C) (λ_=>j)
    ·split at j
     ·rename_i sz l
      split at j
      ·rename_i B;cases j;exact Wv q (Oo l) w (λ_=>C) rfl B
      ·cases j
     ·cases j
   ·cases j
  ·rename_i C
   split at j
   ·rename_i A;subst A
    split at j
    ·rename_i row m
     split at j
     ·rename_i l
      split at j
      ·rename_i d hd;cases j;exact Vh q (Mc l) w (λ_=>C) (λ_=>m) (λ_=>hd)
      ·cases j
     ·split at j
      ·rename_i E l
       split at j
       ·rename_i B;obtain⟨rfl,rfl⟩:=B;cases j;exact YS q (Oo l) w (λ_=>C) (λ_=>m)
       ·cases j
      ·cases j
    ·cases j
   ·cases j
  ·cases j
 ·cases j
def Ra(h:AO)(id g:Nat):Bool:=match hget h id with
 | some j=>Nat.beq j.gen g
 | none=>false
theorem XT{id g}(hp:Ra h id g=true):∃ob,hget h id=some ob∧ob.gen=g:=by
 unfold Ra at hp
 split at hp
 ·rename_i ob j;exact⟨ob,j,rX hp⟩
 ·cases hp
def Sf(h:AO):AV→Option AV
 | .rop row k=>some (.rop row k)
 | .ptr id g i k=>if Ra h id g=true then some (.ptr id g i k) else none
 | _=>none
theorem jQ{x}{a v}(l:o.op=.nilCheck x)(m:Ev c R x a)(j:Sf h a=some v):AP P c o R h v:=by
 unfold Sf at j
 split at j
 ·cases j;exact pH l m
 ·split at j
  ·rename_i hp;cases j
   obtain⟨A,q,w⟩:=XT hp
   exact KX l m (λ_=>q) w
  ·cases j
 ·cases j
def TD(P:Program)(t:TypeId)(f:Nat)(h:AO)(a:AV):Option AV:=match Se P t f with
 | some off=>match a with
  | .rop row k=>some (.rop row (k+off))
  | .ptr id g i k=>if Ra h id g=true then some (.ptr id g i (k+off)) else none
  | _=>none
 | none=>none
theorem fk{t}{x}{f}{a v}(l:o.op=.fieldAddr t x f)(m:Ev c R x a)(j:TD P t f h a=some v):AP P c o R h v:=by
 unfold TD at j
 split at j
 ·rename_i off q
  split at j
  ·cases j;exact BI l (XH q) m
  ·split at j
   ·rename_i hp;cases j
    obtain⟨B,w,A⟩:=XT hp
    exact HB l (XH q) m (λ_=>w) A
   ·cases j
  ·cases j
 ·cases j
def TF(P:Program)(t:TypeId)(h:AO)(a i:AV):Option AV:=match Gq P t with
 | some (_,sz,_)=>match i with
  | .r (.int _ n)=>if 0≤n then match a with
    | .r (.sl j)=>match j[n.toNat]? with
     | some row=>if row.length=sz then some (.rop row 0) else none
     | none=>none
    | .own id g=>match hget h id with
     | some (.arr m _ l j)=>if(m=g∧l=sz)∧n<j.length then some (.ptr id g n.toNat 0) else none
     | _=>none
    | _=>none
   else none
  | _=>none
 | none=>none
theorem ns{t}{x i}{a b v}(m:o.op=.indexAddr t x i)(q:Ev c R x a)(w:Ev c R i b)(j:TF P t h a b=some v):AP P c o R h v:=by
 unfold TF at j
 split at j
 ·rename_i e sz C hg
  have A:=(Ht hg).slice
  split at j
  ·split at j
   ·rename_i B
    split at j
    ·split at j
     ·rename_i row l
      split at j
      ·rename_i E;cases j;exact Vo m A q w (λ_=>B) (λ_=>l) E
      ·cases j
     ·cases j
    ·split at j
     ·rename_i F
      split at j
      ·rename_i I;obtain⟨⟨rfl,rfl⟩,J⟩:=I;cases j
       exact YH m A q F w (λ_=>B) (λ_=>J)
      ·cases j
     ·cases j
    ·cases j
   ·cases j
  ·cases j
 ·cases j
def SO(P:Program)(t:TypeId)(a i:AV):Option AV:=match P.underlying t with
 | some .string=>match a,i with
  | .r (.str s),.r (.int _ n)=>if 0≤n then match s[n.toNat]? with
    | some j=>some (.r (.int .u8 j.toNat))
    | none=>none
   else none
  | _,_=>none
 | _=>none
theorem cK{t}{x i}{a b v}(l:o.op=.index t x i)(m:Ev c R x a)(q:Ev c R i b)(j:SO P t a b=some v):AP P c o R h v:=by
 unfold SO at j
 split at j
 ·rename_i w
  split at j
  ·split at j
   ·rename_i A
    split at j
    ·rename_i C B;cases j;exact Vs l w m q (λ_=>A) (λ_=>B)
    ·cases j
   ·cases j
  ·cases j
 ·cases j
def TH(P:Program)(t:TypeId)(h:AO):AV→Option AV
 | .r (.str s)=>match P.underlying t with
  | some .string=>some (.r (.int .i64 s.length))
  | _=>none
 | .r (.sl j)=>match Gq P t with
  | some _=>some (.r (.int .i64 j.length))
  | none=>none
 | .own id g=>match Gq P t,hget h id with
  | some _,some (.arr l _ _ j)=>if l=g then some (.r (.int .i64 j.length)) else none
  | _,_=>none
 | .cst (.slice none 0 0)=>match Gq P t with
  | some _=>some (.r (.int .i64 0))
  | none=>none
 | _=>none
theorem gi{t}{x}{a v}(l:o.op=.call { callee:=.builtin .len,args:=#[x],argTypes:=#[t] })(m:Ev c R x a)(j:TH P t h a=some v):AP P c o R h v:=by
 unfold TH at j
 split at j
 ·split at j
  ·rename_i w;cases j;exact DQ l w m
  ·cases j
 ·split at j
  ·rename_i q hg;obtain⟨e,sz,b⟩:=q;cases j;exact Xc l (Ht hg).slice m
  ·cases j
 ·split at j
  ·rename_i q E F A I hg B
   obtain⟨e,sz,b⟩:=q
   split at j
   ·rename_i C;subst C;cases j;exact Xf l (Ht hg).slice m B
   ·cases j
  ·cases j
 ·split at j
  ·rename_i q hg;obtain⟨e,sz,b⟩:=q;cases j;exact mh l (Ht hg).slice m
  ·cases j
 ·cases j
def Si(P:Program)(t l:TypeId):AV→Option AV
 | .r (.int _ n)=>match P.underlying t,P.underlying l with
  | some _,some (.int j)=>some (.r (.int j (j.wrap n)))
  | _,_=>none
 | _=>none
theorem lY{t l}{x}{a v}(m:o.op=.convert t l x)(q:Ev c R x a)(j:Si P t l a=some v):AP P c o R h v:=by
 unfold Si at j
 split at j
 ·split at j
  ·rename_i d B w A;cases j;exact D1 m w A q
  ·cases j
 ·cases j
end
section
variable{P:Program}{c:Bool}{o:Oper}{R:AX}{h:AO}
def Qx(R:AX)(j:Nat):Option Operand→Option Nat
 | none=>some j
 | some x=>match At R x with
  | .r (.int _ z)=>if 0≤z then some z.toNat else none
  | _=>none
theorem aK{d m}{x}(j:Qx R d x=some m):O2 c R d x m:=by
 unfold Qx at j
 split at j
 ·cases j;rfl
 ·rename_i x
  have l:=BO c R x
  split at j
  ·rename_i k z q
   rw[q] at l
   split at j
   ·rename_i w;cases j;exact⟨k,z,l,λ_=>w,rfl⟩
   ·cases j
  ·cases j
def Rd(R:AX)(j:Int):Option Operand→Option Int
 | none=>some j
 | some x=>match At R x with
  | .r (.int _ z)=>some z
  | _=>none
theorem Z6{d m}{x}(j:Rd R d x=some m):HL c R d x m:=by
 unfold Rd at j
 split at j
 ·cases j;rfl
 ·rename_i x
  have l:=BO c R x
  split at j
  ·rename_i k z q;rw[q] at l;cases j;exact⟨k,l⟩
  ·cases j
def Ud(P:Program)(R:AX)(t:TypeId)(q w:Option Operand):AV→Option AV
 | .r (.sl j)=>match Gq P t with
  | some (_,sz,_)=>match Qx R 0 q,Qx R j.length w with
   | some l,some m=>if(l≤m∧m≤j.length)∧(j.all λrow=>Nat.beq row.length sz)=true then some (.r (.sl ((j.drop l).take (m-l)))) else none
   | _,_=>none
  | none=>none
 | .r (.str s)=>match P.underlying t with
  | some .string=>match Rd R 0 q,Rd R s.length w with
   | some l,some m=>match DX s l m with
    | some r=>some (.r (.str r))
    | none=>none
   | _,_=>none
  | _=>none
 | _=>none
theorem gS{t}{x}{C E}{a v}(F:o.op=.slice t x C E none)(I:Ev c R x a)(j:Ud P R t C E a=some v):AP P c o R h v:=by
 unfold Ud at j
 split at j
 ·split at j
  ·rename_i e sz b hg
   split at j
   ·rename_i l m w A
    split at j
    ·rename_i B
     cases j
     exact ZX F (Ht hg).slice I (aK w) (aK A) (λ_=>B.1.1) (λ_=>B.1.2) (λrow q=>rX (ri.1 B.2 row q))
    ·cases j
   ·cases j
  ·cases j
 ·split at j
  ·rename_i J
   split at j
   ·rename_i l m w A
    split at j
    ·rename_i r M;cases j;exact WB F J I (Z6 w) (Z6 A) (λ_=>M)
    ·cases j
   ·cases j
  ·cases j
 ·cases j
def S9(P:Program)(t:TypeId)(f:Nat):AV→Option AV
 | .agg j=>match U7 P t f with
  | some off=>j[off]?
  | none=>none
 | _=>none
theorem jz{t}{x}{f}{a v}(l:o.op=.field t x f)(m:Ev c R x a)(j:S9 P t f a=some v):AP P c o R h v:=by
 unfold S9 at j
 split at j
 ·split at j
  ·rename_i off q;exact pY l (e9 q) m j
  ·cases j
 ·cases j
theorem Kg c R:∀xs:List Operand,GV c R xs (xs.map (At R))
 | []=>trivial
 | x::xs=>⟨BO c R x,Kg c R xs⟩
def Pv(P:Program):List Field→Option (List (Nat × Nat))
 | []=>some []
 | f::j=>match HP P f.type,Pv P j with
  | some (_,sz,_),some r=>some ((f.offset,sz)::r)
  | _,_=>none
def Tn(P:Program)(t:TypeId):Option (List (Nat × Nat) × List Value):=match P.underlying t with
 | some (.struct j)=>match Pv P j.toList,HP P t with
  | some pl,some (some (.agg l),_,_)=>some (pl,l.toList)
  | _,_=>none
 | _=>none
theorem Zo:∀ {m:List Field} {pl:List (Nat × Nat)},Pv P m=some pl→∀w,(m.mapM (m:=Sem) λf=>do pure (f.offset,← sizeOf f.type)).run P w=.ok pl w
 | [],pl,hp,w=>by cases hp;rfl
 | f::m,pl,hp,w=>by
  unfold Pv at hp
  split at hp
  ·rename_i C sz b r j q
   cases hp
   have A:=Zo q w
   obtain⟨i,l,B⟩:∃i,P.info? f.type=some i∧i.size=sz:=by
    unfold HP at j
    cases l:P.info? f.type with
    | none=>rw[l] at j;cases j
    | some i=>rw[l] at j;simp only[sP,rR,rW] at j;exact⟨i,rfl,j.2.1⟩
   rw[List.mapM_cons]
   simp only[Sem.run_bind,Dm l,Result.andThen_ok,A,Sem.run_pure,B]
  ·cases hp
theorem dK{t}{pl}{l}(j:Tn P t=some (pl,l)):DK P t pl l:=by
 unfold Tn at j
 split at j
 ·rename_i E m
  split at j
  ·rename_i q A sz b B C
   cases j
   refine DK.of m (λw=>?_) (sz:=sz) (b:=b) (by simpa[HP] using C)
   rw[Array.mapM_eq_mapM_toList]
   have:=Zo B w
   simp only[Sem.run_map,this]
   rfl
  ·cases j
 ·cases j
def QK(R:AX)(j:List (Nat × Nat))(len:Nat):List (Nat × Operand)→Option (List (Nat × AV))
 | []=>some []
 | (i,x)::r=>match j[i]?,QK R j len r with
  | some (off,sz),some q=>if(sz=(BT (At R x)).length∧Nat.ble (off+(BT (At R x)).length) len=true)∧(BT (At R x)).all AV.one=true then some ((off,At R x)::q) else none
  | _,_=>none
theorem WP{j}{len} : ∀ {ps:List (Nat × Operand)} {q:List (Nat × AV)},QK R j len ps=some q→QF c R j len ps q
 | [],q,hp=>by cases hp;trivial
 | (i,x)::r,q,hp=>by
  unfold QK at hp
  split at hp
  ·rename_i off sz A m w
   split at hp
   ·rename_i l;cases hp
    exact⟨by rw[m,l.1.1],l.1.2,l.2,BO c R x,WP w⟩
   ·cases hp
  ·cases hp
def TN(P:Program)(R:AX)(t:TypeId)(ps:List (Nat × Operand)):Option AV:=match Tn P t with
 | some (pl,j)=>match QK R pl j.length ps with
  | some q=>some (.agg (NV (j.map KW) q))
  | none=>none
 | none=>none
theorem oF{t}{parts:Array (Nat × Operand)}{v}(l:o.op=.build t parts)(j:TN P R t parts.toList=some v):AP P c o R h v:=by
 unfold TN at j
 split at j
 ·rename_i pl A m
  split at j
  ·rename_i q w;cases j;exact DL l (dK m) (WP w) rfl
  ·cases j
 ·cases j
def TC(P:Program)(R:AX)(h:AO):Call→Option AV
 | ⟨.builtin .len,⟨[x]⟩,⟨[t]⟩⟩=>TH P t h (At R x)
 | ⟨.builtin .min,⟨[x,y]⟩,_⟩=>match At R x,At R y with
  | .r (.int k m),.r (.int j n)=>if k=j then some (.r (.int k (min m n))) else none
  | _,_=>none
 | ⟨.builtin .max,⟨[x,y]⟩,_⟩=>match At R x,At R y with
  | .r (.int k m),.r (.int j n)=>if k=j then some (.r (.int k (max m n))) else none
  | _,_=>none
 | ⟨.value fo,⟨[x,y]⟩,_⟩=>match At R fo with
  | .fn f []=>match P.funcs[f]? with
   | some fn=>match Tv fn with
    | true=>match At R x,At R y with
     | .r (.str s),.r (.int .u8 m)=>some (.r (.int .i64 (Iz s m.toNat.toUInt8 0)))
     | _,_=>none
    | false=>none
   | none=>none
  | _=>none
 | _=>none
theorem nT{I}{v}(C:o.op=.call I)(j:TC P R h I=some v):AP P c o R h v:=by
 unfold TC at j
 split at j
 ·rename_i x t;exact gi C (BO c R x) j
 ·rename_i x y w
  have l:=BO c R x
  have q:=BO c R y
  split at j
  ·rename_i k m J n A B
   rw[A] at l;rw[B] at q
   split at j
   ·rename_i E;subst E;cases j;exact Tq C l q
   ·cases j
  ·cases j
 ·rename_i x y w
  have l:=BO c R x
  have q:=BO c R y
  split at j
  ·rename_i k m J n A B
   rw[A] at l;rw[B] at q
   split at j
   ·rename_i E;subst E;cases j;exact SU C l q
   ·cases j
  ·cases j
 ·rename_i fo x y w
  have l:=BO c R x
  have q:=BO c R y
  split at j
  ·rename_i f F
   split at j
   ·rename_i fn M
    split at j
    ·rename_i O
     split at j
     ·rename_i s m A B
      rw[A] at l;rw[B] at q
      cases j
      rw[d7]
      exact fH C M O (by rw[← F];exact BO c R fo) l q
     ·cases j
    ·cases j
   ·cases j
  ·cases j
 ·cases j
def Jh(P:Program)(R:AX)(h:AO)(o:Oper):Option AV:=match o.op with
 | .move x=>some (At R x)
 | .assign x=>some (At R x)
 | .binOp op t x y _=>match Tm op (At R x) (At R y) with
  | some v=>some v
  | none=>match Sl op (At R x) (At R y) with
   | some v=>some v
   | none=>match Ts P op t (At R x) (At R y) with
    | some v=>some v
    | none=>U4 P op t (At R x) (At R y)
 | .unOp .not _ x=>match At R x with
  | .r (.bool b)=>some (.r (.bool (!b)))
  | _=>none
 | .unOp .neg _ x=>match At R x with
  | .r (.int k m)=>if k.wrap (-m) = -m then some (.r (.int k (-m))) else none
  | _=>none
 | .pick x y z=>SA R x y z
 | .extract x i=>match At R x with
  | .tup j=>j[i]?
  | _=>none
 | .nilCheck x=>Sf h (At R x)
 | .fieldAddr t x f=>TD P t f h (At R x)
 | .load t x=>SB P t h (At R x)
 | .indexAddr t x i=>TF P t h (At R x) (At R i)
 | .index t x i=>SO P t (At R x) (At R i)
 | .field t x f=>S9 P t f (At R x)
 | .convert t l x=>Si P t l (At R x)
 | .slice t x q w none=>Ud P R t q w (At R x)
 | .makeFunc (.func f) ⟨[]⟩ A=>some (.fn f (A.toList.map (At R)))
 | .build t parts=>TN P R t parts.toList
 | .call B=>TC P R h B
 | _=>none
theorem KV{v}(l:Jh P R h o=some v):AP P c o R h v:=by
 unfold Jh at l
 split at l
 ·rename_i x j;cases l;exact AL j (BO c R x)
 ·rename_i x j;cases l;exact D7 j (BO c R x)
 ·rename_i op t x y C j
  split at l
  ·rename_i B w;cases l;exact ft j (BO c R x) (BO c R y) w
  ·split at l
   ·rename_i B w;cases l;exact nW j (BO c R x) (BO c R y) w
   ·split at l
    ·rename_i B w;cases l;exact ed j (BO c R x) (BO c R y) w
    ·exact f9 j (BO c R x) (BO c R y) l
 ·rename_i t x j
  have q:=BO c R x
  split at l
  ·rename_i b A;rw[A] at q;cases l;exact BB j q
  ·cases l
 ·rename_i t x j
  have q:=BO c R x
  split at l
  ·rename_i k m A
   rw[A] at q
   split at l
   ·rename_i E;cases l;exact oQ j q E
   ·cases l
  ·cases l
 ·rename_i x y z j;exact mc j l
 ·rename_i x i j
  have q:=BO c R x
  split at l
  ·rename_i I A;rw[A] at q;exact PJ j q l
  ·cases l
 ·rename_i x j;exact jQ j (BO c R x) l
 ·rename_i t x f j;exact fk j (BO c R x) l
 ·rename_i t x j;exact jx j (BO c R x) l
 ·rename_i t x i j;exact ns j (BO c R x) (BO c R i) l
 ·rename_i t x i j;exact cK j (BO c R x) (BO c R i) l
 ·rename_i t x f j;exact jz j (BO c R x) l
 ·rename_i t C x j;exact lY j (BO c R x) l
 ·rename_i t x J M j;exact gS j (BO c R x) l
 ·rename_i f F j;cases l;exact JW j (Kg c R F.toList)
 ·rename_i t parts j;exact oF j l
 ·rename_i O j;exact nT j l
 ·cases l
end
section
variable{P:Program}{o:Oper}{R:AX}{h:AO}{n:Nat}
def PL(R:AX)(sz:Nat):Nat→List (Nat × Operand)→Option (List (List RV))
 | _,[]=>some []
 | i,(j,x)::r=>match Gw (At R x),PL R sz (i+1) r with
  | some row,some l=>if j=i∧row.length=sz then some (row::l) else none
  | _,_=>none
theorem Yp{c}{sz} : ∀ {ps:List (Nat × Operand)} {i:Nat} {l:List (List RV)},PL R sz i ps=some l→I3 c R i ps l∧∀row∈l,row.length=sz
 | [],i,l,hp=>by cases hp;exact⟨trivial,by simp⟩
 | (j,x)::r,i,l,hp=>by
  unfold PL at hp
  split at hp
  ·rename_i row m B C
   split at hp
   ·rename_i A;cases hp
    obtain⟨E,F⟩:=Yp (c:=c) C
    refine⟨⟨A.1,⟨_,BO c R x,B⟩,E⟩,λq w=>?_⟩
    rcases ro.1 w with rfl | w
    ·exact A.2
    ·exact F q w
   ·cases hp
  ·cases hp
def TI(R:AX)(h:AO)(sz:Nat)(x:Operand):Option (List (List RV)):=match At R x with
 | .r (.sl j)=>if(j.all λrow=>Nat.beq row.length sz)=true then some j else none
 | .own id g=>match hget h id with
  | some (.arr m _ l j)=>if m=g∧l=sz then some j else none
  | _=>none
 | .cst (.slice none 0 0)=>some []
 | _=>none
theorem Vf{c}{sz}{x}{ys}(j:TI R h sz x=some ys):Ig c R h x sz ys:=by
 unfold TI at j
 have l:=BO c R x
 split at j
 ·rename_i w m
  rw[m] at l
  split at j
  ·rename_i q;cases j;exact .inl ⟨l,λ_ row A=>rX (ri.1 q row A)⟩
  ·cases j
 ·rename_i id g m
  rw[m] at l
  split at j
  ·rename_i B
   split at j
   ·rename_i q;obtain⟨rfl,rfl⟩:=q;cases j;exact .inr (.inl ⟨_,_,_,l,B⟩)
   ·cases j
  ·cases j
 ·rename_i m
  rw[m] at l
  cases j;exact .inr (.inr ⟨l,rfl⟩)
 ·cases j
def U6(P:Program)(R:AX)(h:AO)(n:Nat)(s x:Operand)(t:TypeId):Option (AV × AO × Nat):=match Gq P t with
 | some (e,sz,l)=>match TI R h sz x with
  | some j=>match At R s with
   | .own id g=>match hget h id with
    | some (.arr w A m q)=>if((w=g∧A=e)∧m=sz)∧(q.length+j.length) * l≤140737488355328∧q.length+j.length≤9223372036854775807 then
      some (.own id n,(id,some (.arr n e sz (q++j)))::h,n+1) else none
    | _=>none
   | .cst (.slice none 0 0)=>if j.length * l≤140737488355328∧j.length≤9223372036854775807 then some (.own n n,(n,some (.arr n e sz j))::h,n+1) else none
   | _=>none
  | none=>none
 | none=>none
theorem iX{s x}{t}{r}(w:o.op=.call { callee:=.builtin .append,args:=#[s,x],argTypes:=#[t,t] })(j:U6 P R h n s x t=some r):Aw P true o R h n r.1 r.2.1 r.2.2:=by
 unfold U6 at j
 have l:=BO true R s
 split at j
 ·rename_i e sz B hg
  split at j
  ·rename_i I A
   split at j
   ·rename_i id g q
    rw[q] at l
    split at j
    ·rename_i C
     split at j
     ·rename_i m;obtain⟨⟨⟨rfl,rfl⟩,rfl⟩,E,F⟩:=m
      cases j
      exact Wc w (Ht hg) l C (Vf A) E F
     ·cases j
    ·cases j
   ·rename_i q
    rw[q] at l
    split at j
    ·rename_i m;cases j
     exact YY n w (Ht hg) l (Vf A) m.1 m.2
    ·cases j
   ·cases j
  ·cases j
 ·cases j
def UY(P:Program)(R:AX)(h:AO)(n:Nat)(t:TypeId)(x y:Operand):Option (AV × AO × Nat):=match At R x with
 | .ptr id g i k=>match SY P t with
  | some sz=>match hget h id with
   | some (.box j e q)=>if(((j=g∧i=0)∧(BT (At R y)).length=sz)∧(BT (At R y)).all AV.one=true)∧Nat.ble (k+sz) q.length=true then
     some (.any,(id,some (.box g e (Fs q k (BT (At R y)))))::h,n) else none
   | some (.arr j e l w)=>match Gw (At R y),w[i]? with
    | some m,some row=>if(j=g∧m.length=sz)∧k+m.length≤row.length then some (.any,(id,some (.arr g e l (w.set i (JV row k m))))::h,n) else none
    | _,_=>none
   | _=>none
  | none=>none
 | _=>none
theorem gc{x y}{t}{r}(C:o.op=.store t x y)(j:UY P R h n t x y=some r):Aw P true o R h n r.1 r.2.1 r.2.2:=by
 unfold UY at j
 have m:=BO true R x
 have E:=BO true R y
 split at j
 ·rename_i id g i k I
  rw[I] at m
  split at j
  ·rename_i sz F
   split at j
   ·rename_i q
    split at j
    ·rename_i w;obtain⟨⟨⟨⟨rfl,rfl⟩,A⟩,B⟩,J⟩:=w
     cases j
     exact X5 C (Wx F) m q E A B J
    ·cases j
   ·rename_i q
    split at j
    ·rename_i M row hd l
     split at j
     ·rename_i w;obtain⟨⟨rfl,A⟩,B⟩:=w
      cases j
      exact V6 C (Wx F) m q l E hd A B
     ·cases j
    ·cases j
   ·cases j
  ·cases j
 ·cases j
def M6(P:Program)(R:AX)(h:AO)(n:Nat)(o:Oper):Option (AV × AO × Nat):=match o.op with
 | .store t x y=>UY P R h n t x y
 | .alloc t=>match Q1 P t with
  | some z=>if(BT (GQ z)).all AV.one=true then some (.ptr n n 0 0,(n,some (.box n t (BT (GQ z))))::h,n+1) else none
  | none=>none
 | .box t x=>if(BT (At R x)).all AV.one=true then some (.ptr n n 0 0,(n,some (.box n t (BT (At R x))))::h,n+1) else none
 | .buildSlice t len parts=>match Gq P t with
  | some (e,sz,_)=>match PL R sz 0 parts.toList with
   | some j=>if j.length=len∧Nat.ble (len * sz) 16777216=true then some (.own n n,(n,some (.arr n e sz j))::h,n+1) else none
   | none=>none
  | none=>none
 | .makeSlice t l k=>match Gq P t,At R l,At R k with
  | some (e,sz,b),.r (.int .i64 m),.r (.int .i64 w)=>match Q1 P e with
   | some z=>match Gw (GQ z) with
    | some q=>if(m=w∧0≤m)∧m * b≤281474976710656∧m≤9223372036854775807 then some (.own n n,(n,some (.arr n e sz (List.replicate m.toNat q)))::h,n+1) else none
    | none=>none
   | none=>none
  | _,_,_=>none
 | .call ⟨.builtin .append,⟨[s,x]⟩,⟨[t,A]⟩⟩=>if t=A then U6 P R h n s x t else none
 | _=>none
theorem R2{r}(j:M6 P R h n o=some r):Aw P true o R h n r.1 r.2.1 r.2.2:=by
 unfold M6 at j
 split at j
 ·rename_i t x y q;exact gc q j
 ·rename_i t q
  split at j
  ·rename_i z B
   split at j
   ·rename_i w;cases j;exact WR n q (Xs B) w
   ·cases j
  ·cases j
 ·rename_i t x q
  split at j
  ·rename_i w;cases j;exact Vw n q (BO true R x) w
  ·cases j
 ·rename_i t len parts q
  split at j
  ·rename_i e sz b hg
   split at j
   ·rename_i F A
    split at j
    ·rename_i w;cases j
     obtain⟨O,T⟩:=Yp (c:=true) A
     exact XU n q (Ht hg) O w.1 T w.2
    ·cases j
   ·cases j
  ·cases j
 ·rename_i t l k q
  split at j
  ·rename_i e sz b m m' hg U V
   have I:=BO true R l
   have J:=BO true R k
   rw[U] at I;rw[V] at J
   split at j
   ·rename_i z B
    split at j
    ·rename_i M C
     split at j
     ·rename_i w;obtain⟨⟨rfl,X⟩,Z,h4⟩:=w;cases j
      obtain⟨ii,hi,E⟩:=Xs B
      exact Xu n q (Ht hg) ⟨ii,z,hi,E,C⟩ I J X Z h4
     ·cases j
    ·cases j
   ·cases j
  ·cases j
 ·rename_i s x t t' q
  split at j
  ·rename_i ht;subst ht;exact iX q j
  ·cases j
 ·cases j
end
inductive Fr where
 | seq (y:Code)
 | block (id:Nat)
 | loop (n:Nat) (x:Code)
 | call (ops:Array Oper) (rest:List Oper) (d:Option Nat) (e:AX) (N:Nat) (rs:List ResultVar)
 | rng (id:Nat) (s:St) (rs:List ResultVar)
 | rndA (id g:Nat) (bd:Code) (ops:Array Oper) (rest:List Oper) (d:Option Nat) (e:AX) (N:Nat)
 | rndB (id g:Nat) (ops:Array Oper) (rest:List Oper) (d:Option Nat) (e:AX) (N:Nat)
def Ep(d:Option Nat)(r:AV)(e:AX):AX:=match d with
 | some t=>(t,r)::e
 | none=>e
def Ce(P:Program)(Q:Exit→St→Prop):List Fr→Exit→St→Prop
 | []=>Q
 | .seq y::ks=>Eg (AW P y (Ce P Q ks)) (Ce P Q ks)
 | .block id::ks=>L6 id (Ce P Q ks)
 | .loop n x::ks=>Eg (Gm P x (Ce P Q ks) n) (Ce P Q ks)
 | .call ops rest d e N l::ks=>GW P l λr j n'=>BR P ops rest { e:=Ep d r e,h:=j,n:=n',N:=N } (Ce P Q ks .normal)
 | .rng id s l::ks=>GW P l (TW P (Ce P Q ks) s id)
 | .rndA id g m ops rest d e N::ks=>Hv P id g m λb j n'=>BR P ops rest { e:=Ep d (.r (.bool b)) e,h:=j,n:=n',N:=N } (Ce P Q ks .normal)
 | .rndB id g ops rest d e N::ks=>Fc id g λb j n'=>BR P ops rest { e:=Ep d (.r (.bool b)) e,h:=j,n:=n',N:=N } (Ce P Q ks .normal)
inductive DA where
 | code (c:Code) (ks:List Fr) (s:St)
 | ops (ops:Array Oper) (rest:List Oper) (ks:List Fr) (s:St)
 | out (x:Exit) (ks:List Fr) (s:St)
def Cs(P:Program)(Q:Exit→St→Prop):DA→Prop
 | .code c ks s=>AW P c (Ce P Q ks) s
 | .ops ops rest ks s=>BR P ops rest s (Ce P Q ks .normal)
 | .out x ks s=>Ce P Q ks x s
def IK(R:AX)(ops:Array Oper)(o:Oper):Option Bool:=match o.guard with
 | none=>none
 | some (j,l)=>match (ops[j]?).bind (·.dst) with
  | some m=>match A8 R (.tmp m) with
   | .r (.bool b)=>some (b==l)
   | .whn q (.r (.bool b))=>some (q&&(b==l))
   | _=>none
  | none=>none
theorem Fl{R}{ops}{o}{c}(h:IK R ops o=some c):Cc R ops o c:=by
 unfold IK at h
 split at h
 ·cases h
 ·rename_i j m hg
  split at h
  ·rename_i w q
   split at h
   ·rename_i b l;cases h;exact .one hg q l
   ·rename_i A b l;cases h;exact .two hg q l
   ·cases h
  ·cases h
def Q8(P:Program)(s:St):ResultVar→Option AV
 | .tmp t=>some (get s.e t)
 | .cell a t=>match get s.e a with
  | .ptr id g 0 0=>match hget s.h id with
   | some (.box l _ j)=>if l=g then match Jg P t with
     | true=>match j with
      | [r]=>some r
      | _=>none
     | false=>match Ku P t with
      | some sz=>if sz=j.length then some (.agg j) else none
      | none=>none
    else none
   | _=>none
  | _=>none
theorem XD{P}{s}{x}{r}(h:Q8 P s x=some r):IE P x s r:=by
 unfold Q8 at h
 split at h
 ·cases h;rfl
 ·split at h
  ·rename_i id g hp
   split at h
   ·rename_i w e A j
    split at h
    ·rename_i hg;subst hg
     split at h
     ·rename_i l
      split at h
      ·cases h;exact .inl ⟨Mc l,id,_,_,hp,j⟩
      ·cases h
     ·split at h
      ·rename_i sz m
       split at h
       ·rename_i q;cases h;exact .inr ⟨_,rfl,by rw[← q];exact Oo m,id,_,_,hp,j⟩
       ·cases h
      ·cases h
    ·cases h
   ·cases h
  ·cases h
def Pd(P:Program)(s:St):List ResultVar→Option (List AV)
 | []=>some []
 | x::l=>match Q8 P s x,Pd P s l with
  | some r,some j=>some (r::j)
  | _,_=>none
theorem Ym{P}{s} : ∀ {l:List ResultVar} {j:List AV},Pd P s l=some j→MH P l s j
 | [],j,h=>by cases h;trivial
 | x::l,j,h=>by
  unfold Pd at h
  split at h
  ·rename_i r m q w;cases h;exact⟨XD q,Ym w⟩
  ·cases h
def JX(P:Program)(s:St):List ResultVar→Option AV
 | [x]=>Q8 P s x
 | l=>(Pd P s l).map .tup
theorem PC{P}{s}{l}{r}(h:JX P s l=some r):I1 P l s r:=by
 unfold JX at h
 split at h
 ·exact XD h
 ·rename_i A j
  rw[rU] at h
  obtain⟨m,q,rfl⟩:=h
  have w:=Ym q
  unfold I1
  split
  ·rename_i x;exact absurd rfl (j x)
  ·exact⟨m,rfl,w⟩
def QM(o:Oper):Bool:=match o.op with
 | .store _ _ _ | .alloc _ | .box _ _ | .buildSlice _ _ _ | .makeSlice _ _ _=>false
 | .call ⟨.builtin .len,_,_⟩ | .call ⟨.builtin .min,_,_⟩ | .call ⟨.builtin .max,_,_⟩=>true
 | .call _=>false
 | _=>true
def H4(P:Program)(ops:Array Oper):List Oper→St→Option St
 | [],s=>some s
 | o::rest,s=>match o.dst with
  | some d=>match Nat.blt d s.N with
   | true=>match o.guard with
    | none=>match Jh P s.e s.h o with
     | some v=>H4 P ops rest { e:=(d,v)::s.e,h:=s.h,n:=s.n,N:=s.N }
     | none=>none
    | some _=>match IK s.e ops o with
     | some true=>match Jh P s.e s.h o with
      | some v=>H4 P ops rest { e:=(d,.whn true v)::s.e,h:=s.h,n:=s.n,N:=s.N }
      | none=>none
     | some false=>H4 P ops rest { e:=(d,.whn false (.r (.bool false)))::s.e,h:=s.h,n:=s.n,N:=s.N }
     | none=>none
   | false=>none
  | none=>none
theorem Rm{P}{ops}{K} : ∀ {l:List Oper} {s s':St},H4 P ops l s=some s'→K s'→AT P ops l s K
 | [],s,s',h,m=>by cases h;exact AT.nil m
 | o::rest,s,s',h,m=>by
  unfold H4 at h
  split at h
  ·rename_i d hd
   split at h
   ·rename_i q
    split at h
    ·rename_i hg
     split at h
     ·rename_i v w;exact AT.step hg hd q (KV w) (Rm h m)
     ·cases h
    ·split at h
     ·rename_i j
      split at h
      ·rename_i v w;exact AT.stepW (Fl j) hd q (KV w) (Rm h m)
      ·cases h
     ·rename_i j;exact AT.stepW (Fl j) hd q (AP.no rfl) (Rm h m)
     ·cases h
   ·cases h
  ·cases h
theorem Pj{P}{ops}{K} : ∀ {l:List Oper} {s s':St},H4 P ops l s=some s'→K s'→AQ P ops l s K
 | [],s,s',h,m=>by cases h;exact AQ.nil m
 | o::rest,s,s',h,m=>by
  unfold H4 at h
  split at h
  ·rename_i d hd
   split at h
   ·rename_i q
    split at h
    ·rename_i hg
     split at h
     ·rename_i v w;exact AQ.step hg hd q (KV w) (Pj h m)
     ·cases h
    ·split at h
     ·rename_i j
      split at h
      ·rename_i v w;exact AQ.stepW (Fl j) hd q (KV w) (Pj h m)
      ·cases h
     ·rename_i j;exact AQ.stepW (Fl j) hd q (AP.no rfl) (Pj h m)
     ·cases h
   ·cases h
  ·cases h
def Ty(P:Program)(ops:Array Oper)(ks:List Fr)(s:St):Option DA:=
 match ops.toList.all QM with
 | true=>match Region.lexB .any ops with
  | true=>(H4 P ops ops.toList s).map (.out .normal ks ·)
  | false=>none
 | false=>
  let n:=(ops.toList.takeWhile QM).length
  match Region.lexTailB .any ops n with
  | true=>(H4 P ops (ops.toList.take n) s).map (.ops ops (ops.toList.drop n) ks ·)
  | false=>none
def Q3(P:Program)(ops:Array Oper)(o:Oper)(rest:List Oper)(ks:List Fr)(s:St)(l:Bool):Option DA:=
 match o.dst with
 | some d=>match Nat.blt d s.N with
  | true=>match Jh P s.e s.h o with
   | some v=>some (.ops ops rest ks { e:=(d,v)::s.e,h:=s.h,n:=s.n,N:=s.N })
   | none=>match M6 P s.e s.h s.n o with
    | some (v,q,n')=>some (.ops ops rest ks { e:=(d,v)::s.e,h:=q,n:=n',N:=s.N })
    | none=>match o.op with
     | .call ⟨.value fo,m,_⟩=>match At s.e fo with
      | .fn f j=>match P.funcs[f]? with
       | some fn=>match fn.body with
        | some code => if (fn.name == "runtime.NumGoroutine") = false ∧ Nat.ble (m.toList.map (At s.e) ++ j).length fn.ntmps = true then
          some (.code code (.call ops rest (some d) s.e s.N fn.results.toList::ks) ⟨Cu 0 (m.toList.map (At s.e)++j),s.h,s.n,fn.ntmps⟩) else none
        | none=>none
       | none=>none
      | _=>none
     | _=>none
  | false=>none
 | none=>match l with
  | true=>none
  | false=>match M6 P s.e s.h s.n o with
   | some (_,q,n')=>some (.ops ops rest ks { e:=s.e,h:=q,n:=n',N:=s.N })
   | none=>match o.op with
    | .call ⟨.value fo,m,_⟩=>match At s.e fo with
     | .fn f j=>match P.funcs[f]? with
      | some fn=>match fn.body with
       | some code => if (fn.name == "runtime.NumGoroutine") = false ∧ Nat.ble (m.toList.map (At s.e) ++ j).length fn.ntmps = true then
         some (.code code (.call ops rest none s.e s.N fn.results.toList::ks) ⟨Cu 0 (m.toList.map (At s.e)++j),s.h,s.n,fn.ntmps⟩) else none
       | none=>none
      | none=>none
     | _=>none
    | _=>none
def lZ(N:Nat):Option Nat→Bool
 | some d=>Nat.blt d N
 | none=>true
def Sh(ops:Array Oper)(o:Oper)(rest:List Oper)(ks:List Fr)(s:St):Option DA:=match o.op with
 | .call ⟨.value fo,m,_⟩=>match At s.e fo with
  | .yld id g=>match hget s.h id with
   | some (.lp w e0 N l j q .ready none)=>if(w=g∧lZ s.N o.dst=true)∧(Nat.beq (m.toList.map (At s.e)).length l.length=true∧(l.all λp=>Nat.blt p N)=true)∧(Bt j&&Bt q)=true then
     some (.code j (.rndA id g q ops rest o.dst s.e s.N::ks) ⟨Ji l (m.toList.map (At s.e)) e0,s.h,s.n,N⟩) else none
   | _=>none
  | _=>none
 | _=>none
def T2(P:Program)(g:Operand)(ps:Array Tmp)(asg bd:Code)(ks:List Fr)(s:St):Option DA:=match A8 s.e g with
 | .fn f j=>match P.funcs[f]? with
  | some fn=>match fn.body with
   | some code => if (fn.name == "runtime.NumGoroutine") = false ∧ Nat.blt j.length fn.ntmps = true ∧ IV s.h = true then
     some (.code code (.rng s.n s fn.results.toList::ks) ⟨Cu 0 (.yld s.n s.n::j),(s.n,some (.lp s.n s.e s.N ps.toList asg bd .ready none))::s.h,s.n+1,fn.ntmps⟩) else none
   | none=>none
  | none=>none
 | _=>none
def PY(P:Program)(id:Nat)(j:St)(l:List ResultVar)(ks:List Fr)(s:St):Option DA:=match JX P s l with
 | some _=>match hget s.h id with
  | some (.lp g _ _ _ _ _ .busy _)=>none
  | some (.lp g _ _ _ _ _ _ m)=>if g=j.n then match m with
    | none=>some (.out .normal ks ⟨j.e,(id,none)::s.h,s.n,j.N⟩)
    | some c=>some (.code c ks ⟨j.e,(id,none)::s.h,s.n,j.N⟩)
   else none
  | _=>none
 | none=>none
def UJ(id g:Nat)(bd:Code)(ops:Array Oper)(rest:List Oper)(d:Option Nat)(e:AX)(N:Nat)(ks:List Fr)(s:St):Option DA:=match hget s.h id with
 | some (.lp m e0 q w j l .ready none)=>if m=g then some (.code bd (.rndB id g ops rest d e N::ks) ⟨s.e,(id,some (.lp g e0 q w j l .busy none))::s.h,s.n,s.N⟩) else none
 | _=>none
def Tk(id g:Nat)(ops:Array Oper)(rest:List Oper)(d:Option Nat)(e:AX)(N:Nat)(ks:List Fr)(s:St)(x:Exit):Option DA:=match hget s.h id with
 | some (.lp w e0 l m j q .busy none)=>if w=g then match x with
   | .normal=>some (.ops ops rest ks { e:=Ep d (.r (.bool true)) e,h:=(id,some (.lp g e0 l m j q .ready none))::s.h,n:=s.n,N:=N })
   | .ret=>some (.ops ops rest ks { e:=Ep d (.r (.bool false)) e,h:=(id,some (.lp g e0 l m j q .done (some .ret)))::s.h,n:=s.n,N:=N })
   | .exit i=>some (.ops ops rest ks { e:=Ep d (.r (.bool false)) e,h:=(id,some (.lp g e0 l m j q .done (some (.exit i))))::s.h,n:=s.n,N:=N })
   | _=>none
  else none
 | _=>none
def step(P:Program):DA→Option DA
 | .code c ks s=>match c with
  | .skip=>some (.out .normal ks s)
  | .ret=>some (.out .ret ks s)
  | .exit id=>some (.out (.exit id) ks s)
  | .seq x y=>some (.code x (.seq y::ks) s)
  | .block id x=>some (.code x (.block id::ks) s)
  | .loop x=>some (.code x (.loop 1000000 x::ks) s)
  | .cond b x y=>match A8 s.e b with
   | .r (.bool true)=>some (.code x ks s)
   | .r (.bool false)=>some (.code y ks s)
   | _=>none
  | .region _ ops false=>some (.ops ops ops.toList ks s)
  | .region _ ops true=>Ty P ops ks s
  | .rangeFunc g w l m=>T2 P g w l m ks s
  | _=>none
 | .ops _ [] ks s=>some (.out .normal ks s)
 | .ops ops (o::rest) ks s=>match o.guard with
  | none=>match Q3 P ops o rest ks s false with
   | some c=>some c
   | none=>Sh ops o rest ks s
  | some _=>match IK s.e ops o with
   | some true=>Q3 P ops o rest ks s true
   | some false=>match o.dst with
    | some d=>match Nat.blt d s.N with
     | true=>some (.ops ops rest ks { e:=(d,.whn false (.r (.bool false)))::s.e,h:=s.h,n:=s.n,N:=s.N })
     | false=>none
    | none=>some (.ops ops rest ks s)
   | none=>none
 | .out x (.seq y::ks) s=>match x with
  | .normal=>some (.code y ks s)
  | .ret=>some (.out .ret ks s)
  | .exit id=>some (.out (.exit id) ks s)
  | _=>none
 | .out x (.block id::ks) s=>match x with
  | .normal=>some (.out .normal ks s)
  | .ret=>some (.out .ret ks s)
  | .exit i=>if i=id then some (.out .normal ks s) else some (.out (.exit i) ks s)
  | _=>none
 | .out x (.loop n y::ks) s=>match x with
  | .normal=>match n with
   | n+1=>some (.code y (.loop n y::ks) s)
   | 0=>none
  | .ret=>some (.out .ret ks s)
  | .exit id=>some (.out (.exit id) ks s)
  | _=>none
 | .out x (.call ops rest d e N j::ks) s=>match x with
  | .normal=>(JX P s j).map λr=>.ops ops rest ks { e:=Ep d r e,h:=s.h,n:=s.n,N:=N }
  | .ret=>(JX P s j).map λr=>.ops ops rest ks { e:=Ep d r e,h:=s.h,n:=s.n,N:=N }
  | _=>none
 | .out x (.rng id q j::ks) s=>match x with
  | .normal=>PY P id q j ks s
  | .ret=>PY P id q j ks s
  | _=>none
 | .out x (.rndA id g m ops rest d e N::ks) s=>match x with
  | .normal=>UJ id g m ops rest d e N ks s
  | _=>none
 | .out x (.rndB id g ops rest d e N::ks) s=>Tk id g ops rest d e N ks s x
 | .out _ [] _=>none
end Go.Proofs.YtmeadkhpiobenaaGreatDoor.Al

set_option linter.unusedVariables false
namespace Go.Proofs.YtmeadkhpiobenaaGreatDoor.Al
section
variable{P:Program}{Q:Exit→St→Prop}{ks:List Fr}{s:St}
theorem VJ{ops}{rest}{K}{o:Oper}{d}{j}{v}{h'}{n'}(hg:(j=false∧o.guard=none)∨Cc s.e ops o true)(hd:o.dst=some d)(l:Nat.blt d s.N=true)
 (m:Aw P true o s.e s.h s.n v h' n') (q:AK P ops rest { e := (d, v)::s.e, h := h', n := n', N := s.N } K):AK P ops (o::rest) s K := by
  rcases hg with ⟨_, hg⟩ | hg
  · exact AK.step hg hd l m q
  · exact MV hg rfl hd l m q
theorem Y2{ops}{o:Oper}{rest}{q}{c'}(hg:(q=false∧o.guard=none)∨(q=true∧Cc s.e ops o true))(h:Q3 P ops o rest ks s q=some c')(hc:Cs P Q c') :
  BR P ops (o::rest) s (Ce P Q ks .normal):=by
 have one:∀ {E:St},AK P ops [o] s (λs2=>s2=E)→BR P ops rest E (Ce P Q ks .normal)→BR P ops (o::rest) s (Ce P Q ks .normal):=λC A=>BR.cons C λs2 e=>e ▸ A
 have I:(q=false∧o.guard=none)∨Cc s.e ops o true:=hg.imp id λh=>h.2
 unfold Q3 at h
 split at h
 ·rename_i d hd
  split at h
  ·rename_i T
   split at h
   ·rename_i v J;cases h
    exact one (VJ I hd T ((KV (c:=true) J).spec _) (AK.nil rfl)) hc
   ·split at h
    ·rename_i v h' n' J;cases h
     exact one (VJ I hd T (R2 J) (AK.nil rfl)) hc
    ·split at h
     ·rename_i fo U a0 V
      split at h
      ·rename_i f j F
       split at h
       ·rename_i fn X
        split at h
        ·rename_i code Z
         split at h
         ·rename_i C;cases h
          have w:Ev true s.e fo (.fn f j):=by rw[← F];exact BO true s.e fo
          rcases hg with ⟨_,hg⟩ | ⟨_,hg⟩
          ·exact BR.cons (qG (K:=λE=>BR P ops rest E (Ce P Q ks .normal)) j _ hg hd T V w (Kg true s.e U.toList) X Z C.1 rfl C.2 (AW.mono hc λe s' m=>by
            cases e with
            | normal=>obtain⟨r,A,B⟩:=m;exact⟨r,A,AK.nil B⟩
            | ret=>obtain⟨r,A,B⟩:=m;exact⟨r,A,AK.nil B⟩
            | exit id=>exact m.elim
            | goto l=>exact m.elim
            | panic c=>exact m.elim
            | outgrown=>exact m.elim)) λ_ h=>h
          ·exact BR.cons (qn (K:=λE=>BR P ops rest E (Ce P Q ks .normal)) j _ hg rfl hd T V w (Kg true s.e U.toList) X Z C.1 rfl C.2 (λK' M=>AW.mono hc λe s' m=>by
            cases e with
            | normal=>obtain⟨r,A,B⟩:=m;exact⟨r,A,M _ _ _ (AK.nil B)⟩
            | ret=>obtain⟨r,A,B⟩:=m;exact⟨r,A,M _ _ _ (AK.nil B)⟩
            | exit id=>exact m.elim
            | goto l=>exact m.elim
            | panic c=>exact m.elim
            | outgrown=>exact m.elim)) λ_ h=>h
         ·cases h
        ·cases h
       ·cases h
      ·cases h
     ·cases h
  ·cases h
 ·rename_i hd
  split at h
  ·cases h
  ·have O:o.guard=none:=by
    rcases hg with ⟨_,hg⟩ | ⟨e,_⟩
    ·exact hg
    ·cases e
   split at h
   ·rename_i v h' n' J;cases h
    exact one (aY O hd (R2 J) (AK.nil rfl)) hc
   ·split at h
    ·rename_i fo U a0 V
     split at h
     ·rename_i f j F
      split at h
      ·rename_i fn X
       split at h
       ·rename_i code Z
        split at h
        ·rename_i C;cases h
         have w:Ev true s.e fo (.fn f j):=by rw[← F];exact BO true s.e fo
         exact BR.cons (qL (K:=λE=>BR P ops rest E (Ce P Q ks .normal)) j _ O hd V w (Kg true s.e U.toList) X Z C.1 rfl C.2 (AW.mono hc λe s' m=>by
            cases e with
            | normal=>obtain⟨r,A,B⟩:=m;exact⟨r,A,AK.nil B⟩
            | ret=>obtain⟨r,A,B⟩:=m;exact⟨r,A,AK.nil B⟩
            | exit id=>exact m.elim
            | goto l=>exact m.elim
            | panic c=>exact m.elim
            | outgrown=>exact m.elim)) λ_ h=>h
        ·cases h
       ·cases h
      ·cases h
     ·cases h
    ·cases h
theorem fT{ops}{o:Oper}{rest}{m}(hg:o.guard=none)(h:Sh ops o rest ks s=some m)(hc:Cs P Q m):BR P ops (o::rest) s (Ce P Q ks .normal):=by
 unfold Sh at h
 split at h
 ·rename_i fo w A B
  split at h
  ·rename_i id g l
   split at h
   ·rename_i C e0 N T E U F
    split at h
    ·rename_i I
     obtain⟨⟨rfl,q⟩,⟨J,M⟩,O⟩:=I
     cases h
     have j:Ev true s.e fo (.yld id C):=by rw[← l];exact BO true s.e fo
     exact qM _ hg (λd hd=>by rw[hd] at q;exact q) B j (Kg true s.e w.toList) F J M O hc
    ·cases h
   ·cases h
  ·cases h
 ·cases h
theorem dZ{g}{ps}{asg bd}{l}(h:T2 P g ps asg bd ks s=some l)(hc:Cs P Q l):AW P (.rangeFunc g ps asg bd) (Ce P Q ks) s:=by
 unfold T2 at h
 split at h
 ·rename_i f m hg
  split at h
  ·rename_i fn q
   split at h
   ·rename_i code w
    split at h
    ·rename_i j;cases h
     exact qK _ hg q w j.1 rfl j.2.1 j.2.2 hc
    ·cases h
   ·cases h
  ·cases h
 ·cases h
theorem aM{id}{m}{q}{w}(h:PY P id m q ks s=some w)(hc:Cs P Q w):∃r,I1 P q s r∧TW P (Ce P Q ks) m id r s.h s.n:=by
 unfold PY at h
 split at h
 ·rename_i r A
  refine⟨r,PC A,?_⟩
  split at h
  ·cases h
  ·rename_i g e0 N B j C E F l I
   split at h
   ·rename_i hg;subst hg
    refine⟨e0,N,B,j,C,E,F,I,λe=>?_,?_⟩
    ·exact l e
    ·split at h
     ·cases h;exact hc
     ·cases h;exact hc
   ·cases h
  ·cases h
 ·cases h
theorem pK{id g}{bd}{ops}{rest}{d}{e}{N}{m}(h:UJ id g bd ops rest d e N ks s=some m)(hc:Cs P Q m):Ce P Q (.rndA id g bd ops rest d e N::ks) .normal s:=by
 unfold UJ at h
 split at h
 ·rename_i B e0 q w j l A
  split at h
  ·rename_i hg;subst hg;cases h
   exact⟨e0,q,w,j,l,A,hc⟩
  ·cases h
 ·cases h
theorem lq{id g}{ops}{rest}{d}{e}{N}{x}{A}(h:Tk id g ops rest d e N ks s x=some A)(hc:Cs P Q A):Ce P Q (.rndB id g ops rest d e N::ks) x s:=by
 unfold Tk at h
 split at h
 ·rename_i B e0 l m j q w
  split at h
  ·rename_i hg;subst hg
   split at h
   ·cases h;exact⟨e0,l,m,j,q,w,hc⟩
   ·cases h;exact⟨e0,l,m,j,q,w,hc⟩
   ·cases h;exact⟨e0,l,m,j,q,w,hc⟩
   ·cases h
  ·cases h
 ·cases h
theorem mR(l:P.follows .mixedOrders=true){id}{ops:Array Oper}{m}(h:Ty P ops ks s=some m)(hc:Cs P Q m):AW P (.region id ops true) (Ce P Q ks) s:=by
 unfold Ty at h
 split at h
 ·split at h
  ·rename_i hB
   rw[rU] at h
   obtain⟨q,j,rfl⟩:=h
   exact bF (l:=ops.toList) l hB (Pj j hc)
  ·cases h
 ·dsimp only at h
  split at h
  ·rename_i hB
   rw[rU] at h
   obtain⟨q,j,rfl⟩:=h
   exact qk (l:=ops.toList) _ l hB rfl rfl (Rm j hc)
  ·cases h
theorem ln(B:P.follows .mixedOrders=true){c A}(h:step P c=some A)(hc:Cs P Q A):Cs P Q c:=by
 unfold step at h
 split at h
 ·split at h
  ·cases h;exact AW.skip hc
  ·cases h;exact AW.ret hc
  ·cases h;exact AW.exit hc
  ·cases h;exact AW.seq hc
  ·cases h;exact AW.block hc
  ·cases h;exact qH (1000000+1) (Gm.step hc)
  ·split at h
   ·rename_i m;cases h;exact AW.cond m (λ_=>hc) (λe=>by cases e)
   ·rename_i m;cases h;exact AW.cond m (λe=>by cases e) (λ_=>hc)
   ·cases h
  ·rename_i id ops;cases h;exact aV (l:=ops.toList) hc
  ·exact mR B h hc
  ·exact dZ h hc
  ·cases h
 ·cases h;exact BR.nil hc
 ·rename_i ops o rest ks s
  split at h
  ·rename_i hg
   split at h
   ·rename_i c C;cases h;exact Y2 (.inl ⟨rfl,hg⟩) C hc
   ·exact fT hg h hc
  ·split at h
   ·rename_i j;exact Y2 (.inr ⟨rfl,Fl j⟩) h hc
   ·rename_i j
    split at h
    ·rename_i d hd
     split at h
     ·rename_i E;cases h;exact BR.cons (K1:=λl=>l=_) (JS (Fl j) rfl hd E (AK.nil rfl)) λl e=>e ▸ hc
     ·cases h
    ·rename_i hd;cases h;exact BR.cons (K1:=λl=>l=_) (qE (Fl j) rfl hd (AK.nil rfl)) λl e=>e ▸ hc
   ·cases h
 ·split at h
  ·cases h;exact hc
  ·cases h;exact hc
  ·cases h;exact hc
  ·cases h
 ·split at h
  ·cases h;exact hc
  ·cases h;exact hc
  ·rename_i i
   split at h
   ·rename_i q;cases h;simp only[Cs,Ce,L6];rw[rF q];exact hc
   ·rename_i q;cases h;simp only[Cs,Ce,L6];rw[rE q];exact hc
  ·cases h
 ·split at h
  ·split at h
   ·cases h;exact Gm.step hc
   ·cases h
  ·cases h;exact hc
  ·cases h;exact hc
  ·cases h
 ·split at h
  ·rw[rU] at h
   obtain⟨r,w,rfl⟩:=h
   exact⟨r,PC w,hc⟩
  ·rw[rU] at h
   obtain⟨r,w,rfl⟩:=h
   exact⟨r,PC w,hc⟩
  ·cases h
 ·split at h
  ·exact aM h hc
  ·exact aM h hc
  ·cases h
 ·split at h
  ·exact pK h hc
  ·cases h
 ·exact lq h hc
 ·cases h
end
theorem am {P : Program} {f} {fn : Func} {code} {args : List AV} {r : AV} {N} (hf : P.funcs[f]? = some fn) (Z : fn.body = some code) (M : (fn.name == "runtime.NumGoroutine") = false) (hN : fn.ntmps = N) (hr : r.closed = true)
 (B:DF args=true) (a2:args.length≤N) (hw:AW P code (Ff P fn.results.toList r) ⟨Cu 0 args, [], 0, N⟩):AS P f args r := by
  refine⟨⟨fn, hf, by rw[Z];rfl, M⟩, hr, λx F C O A => ?_⟩
  have a0:F.size=args.length := by simpa using A.1
  have I:({ x with n := 0 } : Cx).ok :=
    ⟨C.S_lt, C.F_lt, C.SF, (λid o (m:x.H id=some o) => by rw[O] at m;cases m), (λid o b k (m:x.H id=some o) => by rw[O] at m;cases m), (λid a1 o o' b k k' (m:x.H id=some o) => by rw[O] at m;cases m), (λid o j b c (m:x.H id=some o) => by rw[O] at m;cases m), D4.same C.tabs rfl λ_ h => h⟩
  have T:Do { x with n := 0 } ⟨Cu 0 args, [], 0, N⟩ { tmps := F++Array.replicate (fn.ntmps - F.size) undef, defers := [] } x.w := by
    refine⟨_, rfl, by simp;omega, { x with n := 0 }, rfl, .refl _, I, by rw[O];rfl, rfl, λt => ?_⟩
    rcases QX args 0 t with h1 | ⟨j, a, h1, U, h3⟩
    · rw[h1];exact .any _
    · rw[h3]
      have hj:j<F.size := by rw[a0];exact(rM.1 U).1
      have ht:t=j := by omega
      subst ht
      have:(F++Array.replicate (fn.ntmps - F.size) undef).getD t undef=F[t] := by
        simp[Array.getD, hj]
        omega
      rw[this]
      exact JC (x := x) (y := { x with n := 0 }) rfl (λ_ h => h) (A.2 t a F[t] U (by simp[hj])) (KA B U)
  have V:∀ {e:Exit} {a:Act} {y:Cx} {s:St}, Li (Db P s) fn.results.toList r→({ x with n := 0 } : Cx).le y→y.ok→y.H=hget s.h→y.n=s.n→Bp y s.e a→∃u, (results fn a.tmps).run P y.w=.ok u y.w∧∃u' y', Ending.returned u=.returned u'∧y'.w=y.w∧x.le y'∧y'.ok∧AM y' r u' := by
    intro e a y s J q w E _ he
    obtain⟨u, h1, U⟩ := WI (P := P) (fn := fn) (y := y) (z := y.frozen) (a := a) (Db P s) (λx r h => Db.rep w E he x r h) J
    have hz := Rv w
    refine⟨u, h1, u, { y.frozen with n := x.n+y.n }, rfl, rfl, ?_, ?_, JC (x := y.frozen) (y := { y.frozen with n := x.n+y.n }) rfl (λ_ h => h) U hr⟩
    · exact⟨q.size, q.os, q.tape, q.output, q.blk, λb Z => .inl (q.S b Z), q.F, vA _ _, (λid o' m => by cases m), λid o' m => by cases m⟩
    · exact⟨hz.S_lt, hz.F_lt, hz.SF, (λid o m => by cases m), (λid o b k m => by cases m), (λid a1 o o' b k k' m => by cases m), (λid o j b c m => by cases m), D4.same hz.tabs rfl λ_ h => h⟩
  refine RP (c0 := { x with n := 0 }) hf Z I T (hw) λe s a y J q w E X he => ?_
  cases e with
  | normal => exact⟨.inl rfl, V (e := .normal) J q w E X he⟩
  | ret => exact⟨.inr rfl, V (e := .ret) J q w E X he⟩
  | exit id => exact J.elim
  | goto l => exact J.elim
  | panic ch => exact J.elim
  | outgrown => exact J.elim
def Sw(j:List ResultVar):DA→Option Bool
 | .out .ret [] s=>match j with
  | [.tmp t]=>match get s.e t with
   | .r (.bool b)=>some b
   | _=>none
  | _=>none
 | .out .normal [] s=>match j with
  | [.tmp t]=>match get s.e t with
   | .r (.bool b)=>some b
   | _=>none
  | _=>none
 | _=>none
theorem pq{P}{j}{c}{b}(h:Sw j c=some b):Cs P (Ff P j (.r (.bool b))) c:=by
 unfold Sw at h
 split at h
 ·split at h
  ·split at h
   ·rename_i hg;cases h
    show Fz _ (get _ _) _
    rw[hg];exact .d rfl
   ·cases h
  ·cases h
 ·split at h
  ·split at h
   ·rename_i hg;cases h
    show Fz _ (get _ _) _
    rw[hg];exact .d rfl
   ·cases h
  ·cases h
 ·cases h
def MO(id g:Nat)(xs:List (List RV)):AV→AV
 | .own j l=>if j=id∧l=g then .r (.sl xs) else .own j l
 | a=>a
def KL(id g:Nat)(xs:List (List RV)):AV→AV
 | .agg j=>.agg (j.map (MO id g xs))
 | a=>MO id g xs a
def Pc(id g:Nat)(xs:List (List RV)):Option AU→Option AU
 | some (.box g0 e j)=>some (.box g0 e (j.map (MO id g xs)))
 | some (.hot _ _ _ _ _ _)=>none
 | o=>o
theorem WY id g xs a:Nb id g xs a (MO id g xs a):=by
 unfold MO
 split
 ·split
  ·rename_i h;obtain⟨rfl,rfl⟩:=h;exact .inr (.inr ⟨rfl,rfl⟩)
  ·exact .inl rfl
 ·exact .inl rfl
theorem UX id g xs:∀cs:List AV,L2 id g xs cs (cs.map (MO id g xs))
 | []=>trivial
 | a::l=>⟨WY id g xs a,UX id g xs l⟩
theorem nG id g xs a:TP id g xs a (KL id g xs a):=by
 unfold KL
 split
 ·exact .inr ⟨_,_,rfl,rfl,UX id g xs _⟩
 ·exact .inl (WY id g xs _)
theorem dn id g xs o:Tf id g xs o (Pc id g xs o):=by
 unfold Pc
 split
 ·exact .inr (.inr (.inl ⟨_,_,_,_,rfl,rfl,UX id g xs _⟩))
 ·exact .inr (.inl rfl)
 ·exact .inl rfl
theorem XE id g xs e:∀l:List Nat,NO id g xs (l.map λt=>(t,KL id g xs (get e t))) e
 | []=>trivial
 | t::l=>⟨nG id g xs _,XE id g xs e l⟩
theorem Vu id g xs h:∀l:List Nat,(∀i∈l,Nat.beq i id=false)→Mw id g xs (l.map λi=>(i,Pc id g xs (hget h i))) h
 | [],_=>trivial
 | i::l,m=>⟨m i (rg ..),dn id g xs _,Vu id g xs h l λj q=>m j (rY _ q)⟩
def Qd:List Nat→List Nat→List Nat
 | _,[]=>[]
 | seen,t::l=>match seen.any (Nat.beq t) with
  | true=>Qd seen l
  | false=>t::Qd (t::seen) l
def J7(id g:Nat)(xs:List (List RV))(s:St):St:=
 { e:=(Qd [] (s.e.map (·.1))).map λt=>(t,KL id g xs (get s.e t)),h:=((Qd [] (s.h.map (·.1))).filter λi=>!Nat.beq i id).map λi=>(i,Pc id g xs (hget s.h i)),n:=s.n,N:=s.N }
theorem P5{id g}{e}{sz}{xs}{s:St}(h:hget s.h id=some (.arr g e sz xs)):Ah s (J7 id g xs s):=
 Ah.frz id h (XE id g xs s.e _) (Vu id g xs s.h _ λi j=>by
  have:=(tD.1 j).2
  simpa using this)
def Mt(h:AO):AV→Option Nat
 | .own id g=>match hget h id with
  | some (.arr j _ _ _)=>if j=g then some id else none
  | _=>none
 | .agg l=>l.findSome? λa=>match a with
  | .own id g=>match hget h id with
   | some (.arr j _ _ _)=>if j=g then some id else none
   | _=>none
  | _=>none
 | _=>none
def Wb(s:St)(o:Oper):Option Nat:=match o.op with
 | .buildSlice _ _ parts=>parts.toList.findSome? λp=>Mt s.h (At s.e p.2)
 | .store _ _ y=>Mt s.h (At s.e y)
 | .slice _ x _ _ _=>Mt s.h (At s.e x)
 | _=>none
def Ug(P:Program)(c:DA):Option DA:=match step P c with
 | some j=>some j
 | none=>match c with
  | .ops ops (o::rest) ks s=>match Wb s o with
   | some id=>match hget s.h id with
    | some (.arr g _ _ l)=>some (.ops ops (o::rest) ks (J7 id g l s))
    | _=>none
   | none=>none
  | _=>none
section
variable{P:Program}{Q:Exit→St→Prop}
theorem WZ(l:P.follows .mixedOrders=true){c j}(h:Ug P c=some j)(hc:Cs P Q j):Cs P Q c:=by
 unfold Ug at h
 split at h
 ·rename_i w m;cases h;exact ln l m hc
 ·split at h
  ·split at h
   ·rename_i id Az
    split at h
    ·rename_i q;cases h;exact BR.weak (P5 q) hc
    ·cases h
   ·cases h
  ·cases h
end
section
variable{ops:Array Oper}{D:Nat→Bool}{G:Nat→Nat}{e:AX}{L:List PO}{t:Nat}
def Rc(ops:Array Oper)(i t:Nat):List PO→Nat→Bool
 | [],_=>true
 | p::L,k=>(match p.d with | some d=>!Nat.beq d t||wt ops 40 k i | none=>true)&&Rc ops i t L (k+1)
theorem X4{i}(w:Bi ops D i):∀ {L:List PO} {k:Nat},Rc ops i t L k=true→Fx PO.wE D t L k
 | [],_,_=>λj p v h=>by simp at h
 | q::L,k,hB=>by
  simp only[Rc,rO] at hB
  obtain⟨l,C⟩:=hB
  intro j p v A m B
  cases j with
  | zero=>
   cases A
   rw[(M4 B).1] at l
   simp only[rV,sB,sX] at l m
   rcases l with l | l
   ·rw[vD] at l;cases l
   ·rw[w.no l] at m;cases m
  | succ j=>
   exact X4 w C j p v (by simpa using A) (by rwa [show k+1+j=k+(j+1) by omega]) B
theorem Rt{i}(j:Bi ops D i)(hB:Rc ops i t L 0=true){a}(l:get e t=a):get (CI D G e L) t=a:=(Fq CB L e 0 (X4 j hB)).trans l
end
mutual
def F3:RV→RV→Bool
 | .int k n,.int k' n'=>(k=k')&&(n=n')
 | .bool b,.bool b'=>b==b'
 | .str s,.str s'=>decide (s=s')
 | .sl xs,.sl ys=>KJ xs ys
 | .any,.any=>true
 | _,_=>false
def Kj:List RV→List RV→Bool
 | [],[]=>true
 | a::l,b::m=>F3 a b&&Kj l m
 | _,_=>false
def KJ:List (List RV)→List (List RV)→Bool
 | [],[]=>true
 | a::l,b::m=>Kj a b&&KJ l m
 | _,_=>false
end
mutual
theorem VZ:∀ {a b:RV},F3 a b=true→a=b
 | .int k n,.int k' n',h=>by simp only[F3,rO,rJ] at h;rw[h.1,h.2]
 | .bool b,.bool b',h=>by simp only[F3,u5] at h;rw[h]
 | .str s,.str s',h=>by simp only[F3,rJ] at h;rw[h]
 | .sl xs,.sl ys,h=>by simp only[F3] at h;rw[R5 h]
 | .any,.any,_=>rfl
 | .int _ _,.bool _,h | .int _ _,.str _,h | .int _ _,.sl _,h | .int _ _,.any,h=>by simp[F3] at h
 | .bool _,.int _ _,h | .bool _,.str _,h | .bool _,.sl _,h | .bool _,.any,h=>by simp[F3] at h
 | .str _,.int _ _,h | .str _,.bool _,h | .str _,.sl _,h | .str _,.any,h=>by simp[F3] at h
 | .sl _,.int _ _,h | .sl _,.bool _,h | .sl _,.str _,h | .sl _,.any,h=>by simp[F3] at h
 | .any,.int _ _,h | .any,.bool _,h | .any,.str _,h | .any,.sl _,h=>by simp[F3] at h
theorem Ue:∀ {a b:List RV},Kj a b=true→a=b
 | [],[],_=>rfl
 | a::l,b::m,h=>by simp only[Kj,rO] at h;rw[VZ h.1,Ue h.2]
 | [],_::_,h=>by simp[Kj] at h
 | _::_,[],h=>by simp[Kj] at h
theorem R5:∀ {a b:List (List RV)},KJ a b=true→a=b
 | [],[],_=>rfl
 | a::l,b::m,h=>by simp only[KJ,rO] at h;rw[Ue h.1,R5 h.2]
 | [],_::_,h=>by simp[KJ] at h
 | _::_,[],h=>by simp[KJ] at h
end
def T1:Value→Value→Bool
 | .slice none 0 0,.slice none 0 0=>true
 | .pointer none,.pointer none=>true
 | .map none,.map none=>true
 | .nilFunc,.nilFunc=>true
 | _,_=>false
theorem gZ{a b}(h:T1 a b=true):a=b:=by
 unfold T1 at h
 split at h<;>first | rfl | cases h
mutual
def D2:AV→AV→Bool
 | .r x,.r y=>F3 x y
 | .agg cs,.agg ds=>Hh cs ds
 | .tup cs,.tup ds=>Hh cs ds
 | .own i g,.own i' g'=>Nat.beq i i'&&Nat.beq g g'
 | .ptr i g j k,.ptr i' g' j' k'=>(Nat.beq i i'&&Nat.beq g g')&&(Nat.beq j j'&&Nat.beq k k')
 | .rop row k,.rop row' k'=>Kj row row'&&Nat.beq k k'
 | .fn f cs,.fn f' ds=>Nat.beq f f'&&Hh cs ds
 | .mref i g,.mref i' g'=>Nat.beq i i'&&Nat.beq g g'
 | .yld i g,.yld i' g'=>Nat.beq i i'&&Nat.beq g g'
 | .cst v,.cst v'=>T1 v v'
 | .whn b v,.whn b' v'=>(b==b')&&D2 v v'
 | .any,.any=>true
 | _,_=>false
def Hh:List AV→List AV→Bool
 | [],[]=>true
 | a::l,b::m=>D2 a b&&Hh l m
 | _,_=>false
end
mutual
theorem Js:∀ {a b:AV},D2 a b=true→a=b:=by
 intro a b h
 cases a<;>cases b<;>first
  | (simp only[D2] at h;rw[VZ h])
  | (simp only[D2] at h;rw[Qb h])
  | (simp only[D2] at h;rw[gZ h])
  | (simp only[D2,rO] at h;rw[Ue h.1,rX h.2])
  | (simp only[D2,rO] at h;rw[rX h.1.1,rX h.1.2,rX h.2.1,rX h.2.2])
  | (simp only[D2,rO] at h;rw[rX h.1,rX h.2])
  | (simp only[D2,rO] at h;rw[rX h.1,Qb h.2])
  | (simp only[D2,rO,u5] at h;rw[h.1,Js h.2])
  | rfl
  | (simp[D2] at h;done)
theorem Qb:∀ {a b:List AV},Hh a b=true→a=b
 | [],[],_=>rfl
 | a::l,b::m,h=>by simp only[Hh,rO] at h;rw[Js h.1,Qb h.2]
 | [],_::_,h=>by simp[Hh] at h
 | _::_,[],h=>by simp[Hh] at h
end
def SW:Option AU→Option AU→Bool
 | some (.arr g e sz q),some (.arr j l m w)=>((Nat.beq g j&&Nat.beq e l)&&Nat.beq sz m)&&KJ q w
 | some (.box g e A),some (.box j l B)=>(Nat.beq g j&&Nat.beq e l)&&Hh A B
 | none,none=>true
 | _,_=>false
theorem lD{a b}(h:SW a b=true):a=b:=by
 unfold SW at h
 split at h
 ·simp only[rO] at h
  rw[rX h.1.1.1,rX h.1.1.2,rX h.1.2,R5 h.2]
 ·simp only[rO] at h
  rw[rX h.1.1,rX h.1.2,Qb h.2]
 ·rfl
 ·cases h
def Gs:AO→AO→Bool
 | [],[]=>true
 | (i,o)::l,(j,p)::m=>(Nat.beq i j&&SW o p)&&Gs l m
 | _,_=>false
theorem Rp:∀ {a b:AO},Gs a b=true→a=b
 | [],[],_=>rfl
 | (i,o)::l,(j,p)::m,h=>by
  simp only[Gs,rO] at h
  rw[rX h.1.1,lD h.1.2,Rp h.2]
 | [],_::_,h=>by simp[Gs] at h
 | _::_,[],h=>by simp[Gs] at h
inductive Tw(ops:Array Oper):Nat→Nat→Prop
 | one {j i:Nat} (h:Region.waitsFor .any ops j i=true):Tw ops j i
 | more {j m i:Nat} (h:Region.waitsFor .any ops j m=true) (h2:Tw ops m i):Tw ops j i
section
variable{ops:Array Oper}
theorem Cl.tw{D}(h:Cl ops D){j i}(hw:Tw ops j i):D j=true→D i=true:=by
 induction hw with
 | one l=>exact λm=>h _ _ m l
 | more l _ q=>exact λm=>q (h _ _ m l)
theorem Bi.yesT{D}{i k}(h:Bi ops D i)(l:Tw ops i k):D k=true:=by
 cases l with
 | one j=>exact h.hw _ j
 | more j m=>exact h.cl.tw m (h.hw _ j)
theorem Bi.noT{D}{i k}(h:Bi ops D i)(j:Tw ops k i):D k=false:=by
 cases l:D k with
 | false=>rfl
 | true=>have:=h.cl.tw j l;rw[h.un] at this;cases this
def PS(o:Oper):List Nat:=o.after.toList.filterMap λe=>match Region.binds .any e with
 | true=>some e.on
 | false=>none
def T4(i:Nat)(l:List Nat):List Nat:=match l.any (Nat.beq i) with
 | true=>l
 | false=>i::l
def Tz:List Nat→List Nat→List Nat
 | [],l=>l
 | i::r,l=>Tz r (T4 i l)
def MC(T:List (List Nat)):List Nat→List Nat→List Nat
 | [],j=>j
 | m::l,j=>match j.any (Nat.beq m) with
  | true=>MC T l j
  | false=>MC T l (Tz (T.getD m []) (m::j))
def Um:List Oper→List (List Nat)→List (List Nat)
 | [],T=>T
 | o::rest,T=>Um rest (T++[MC T (PS o).reverse []])
theorem nc{i j}{l}(h:j∈T4 i l):j=i∨j∈l:=by
 unfold T4 at h
 split at h
 ·exact .inr h
 ·exact ro.1 h
theorem ZQ:∀ {r l:List Nat} {j:Nat},j∈Tz r l→j∈r∨j∈l
 | [],l,j,h=>.inr h
 | i::r,l,j,h=>by
  rcases ZQ (r:=r) h with m | m
  ·exact .inl (rY _ m)
  ·rcases nc m with rfl | q
   ·exact .inl (rg ..)
   ·exact .inr q
theorem SM{T:List (List Nat)} : ∀ {l w:List Nat} {j:Nat},j∈MC T l w→j∈w∨∃m∈l,j=m∨j∈T.getD m []
 | [],w,j,h=>.inl h
 | m::l,w,j,h=>by
  unfold MC at h
  split at h
  ·rcases SM h with q | ⟨A,q,B⟩
   ·exact .inl q
   ·exact .inr ⟨A,rY _ q,B⟩
  ·rcases SM h with q | ⟨A,q,B⟩
   ·rcases ZQ q with q | q
    ·exact .inr ⟨m,rg ..,.inr q⟩
    ·rcases ro.1 q with rfl | q
     ·exact .inr ⟨_,rg ..,.inl rfl⟩
     ·exact .inl q
   ·exact .inr ⟨A,rY _ q,B⟩
theorem il{o:Oper}{j m}(w:ops[j]?=some o)(h:m∈PS o):Region.waitsFor .any ops j m=true:=by
 unfold PS at h
 obtain⟨e,A,l⟩:=List.mem_filterMap.1 h
 split at l
 ·rename_i B
  cases l
  unfold Region.waitsFor
  rw[w]
  show(o.after.any λq=>Region.binds .any q&&q.on==e.on)=true
  rw[← Array.any_toList,sf]
  exact⟨e,A,by rw[B];simp⟩
 ·cases l
theorem Yu:∀ {l:List Oper} {T:List (List Nat)},(∀j,l[j]?=ops[T.length+j]?)→(∀j i,i∈T.getD j []→Tw ops j i)→∀j i,i∈(Um l T).getD j []→Tw ops j i
 | [],T,_,h,j,i,q=>h j i q
 | o::rest,T,C,h,j,i,q=>by
  have F:ops[T.length]?=some o:=by have:=C 0;simpa using this.symm
  refine Yu (l:=rest) (T:=T++[MC T (PS o).reverse []]) (λj=>by
   have:=C (j+1)
   simp only[tC] at this
   rw[this,sG,tI]
   congr 1;omega) (λj i q=>?_) j i q
  by_cases I:j<T.length
  ·refine h j i ?_
   rw[tH,rf I,← tH] at q
   exact q
  ·by_cases w:j=T.length
   ·subst w
    rw[tH,rc (rN _),uK] at q
    simp only[uO,sY] at q
    rcases SM q with A | ⟨m,A,B⟩
    ·simp at A
    ·have E:=il F (List.mem_reverse.1 A)
     rcases B with rfl | B
     ·exact .one E
     ·exact .more E (h m i B)
   ·rw[tH,sd (by simp;omega)] at q
    simp at q
def Wn(ops:Array Oper):List (List Nat):=Um ops.toList []
def tw(T:List (List Nat))(a b:Nat):Bool:=(T.getD a []).any (Nat.beq b)
theorem iI{a b}(h:tw (Wn ops) a b=true):Tw ops a b:=by
 refine Yu (l:=ops.toList) (T:=[]) (λj=>by simp) (λj i l=>by simp at l) a b ?_
 obtain⟨x,m,q⟩:=sf.1 h
 have:=rX q
 subst this
 exact m
end
structure PE where
 d:Option Nat
 v:AV
 eff:Bool
def PE.po(p:PE):PO:=⟨p.d,λ_=>p.v,none,[]⟩
def Co(D:Nat→Bool):List PE→Nat→Nat
 | [],_=>0
 | p::l,k=>(match p.eff&&D k with | true=>1 | false=>0)+Co D l (k+1)
theorem Ko{D D'} : ∀(l:List PE) (k:Nat),(∀j,k≤j→j<k+l.length→D j=true→D' j=true)→Co D l k≤Co D' l k
 | [],_,_=>rN _
 | p::l,k,h=>by
  have m:=Ko l (k+1) λj A B=>h j (by omega) (by simp;omega)
  have q:=h k (rN _) (by simp)
  unfold Co
  cases p.eff
  ·simpa using m
  ·cases w:D k
   ·simp only[uN];omega
   ·rw[q w];simp only[uD];omega
theorem Ze{D D'}{i}(A:D i=false)(B:D' i=true)(w:∀j,j≠i→D' j=D j):∀(l:List PE) (k:Nat) (p:PE),k≤i→l[i-k]?=some p→Co D' l k=Co D l k+(match p.eff with | true=>1 | false=>0)
 | [],k,p,_,h=>by simp at h
 | q::l,k,p,I,h=>by
  unfold Co
  by_cases m:k=i
  ·subst m
   rw[uK] at h
   cases h
   have:Co D' l (k+1)=Co D l (k+1):=Nat.le_antisymm (Ko l _ λj C _ E=>by rwa [← w j (by omega)]) (Ko l _ λj C _ E=>by rwa [w j (by omega)])
   rw[this,A,B]
   cases q.eff<;>simp<;>omega
  ·have F:=Ze A B w l (k+1) p (by omega) (by rw[show i-k=(i-(k+1))+1 by omega] at h;simpa using h)
   rw[F,w k m];omega
section
variable{P:Program}{ops:Array Oper}
def PT(T:List (List Nat))(i t:Nat):List PO→Nat→Bool
 | [],_=>true
 | p::L,k=>(match p.d with | some d=>!Nat.beq d t||tw T k i | none=>true)&&PT T i t L (k+1)
theorem YR{T}(w:∀a b,tw T a b=true→Tw ops a b){D}{i t}(A:Bi ops D i):∀ {L:List PO} {k:Nat},PT T i t L k=true→Fx PO.wE D t L k
 | [],_,_=>λj p v h=>by simp at h
 | q::L,k,hB=>by
  simp only[PT,rO] at hB
  obtain⟨l,E⟩:=hB
  intro j p v B m C
  cases j with
  | zero=>
   cases B
   rw[(M4 C).1] at l
   simp only[rV,sB,sX] at l m
   rcases l with l | l
   ·rw[vD] at l;cases l
   ·rw[A.noT (w _ _ l)] at m;cases m
  | succ j=>exact YR w A E j p v (by simpa using B) (by rwa [show k+1+j=k+(j+1) by omega]) C
def SZ(T:List (List Nat))(e:AX)(L:List PO)(i t:Nat):Option AV:=
 match PT T i t L 0 with
 | true=>some (get e t)
 | false=>(List.range L.length).findSome? λj=>match L[j]? with
  | some p=>match p.d with
   | some l=>if(l=t∧tw T i j=true)∧I0 (L.drop (j+1)) t=true then some (p.v λ_=>0) else none
   | none=>none
  | none=>none
theorem kZ{T}(m:∀a b,tw T a b=true→Tw ops a b){e}{L:List PE}{i t}{a}{D}(q:Bi ops D i)(h:SZ T e (L.map PE.po) i t=some a):get (CI D (λ_=>0) e (L.map PE.po)) t=a:=by
 unfold SZ at h
 split at h
 ·rename_i hB;cases h;exact(Fq CB _ e 0 (YR m q hB)).trans rfl
 ·obtain⟨j,_,l⟩:=sN h
  split at l
  ·rename_i p hp
   split at l
   ·rename_i C hd
    split at l
    ·rename_i w;obtain⟨⟨rfl,A⟩,B⟩:=w
     cases l
     exact(H7 CB (RY hd) _ e 0 j hp (by rw[ru];exact q.yesT (m _ _ A)) (NE B)).trans rfl
    ·cases l
   ·cases l
  ·cases l
def iE:Op→List Operand
 | .move x | .assign x | .unOp _ _ x | .nilCheck x | .fieldAddr _ x _ | .field _ x _ | .load _ x | .convert _ _ x | .extract x _ | .box _ x=>[x]
 | .binOp _ _ x y _ | .indexAddr _ x y | .index _ x y | .store _ x y | .makeSlice _ x y=>[x,y]
 | .pick x y z=>[x,y,z]
 | .slice _ x l m q=>x::(l.toList++m.toList++q.toList)
 | .makeFunc _ _ w=>w.toList
 | .build _ j=>j.toList.map (·.2)
 | .buildSlice _ _ j=>j.toList.map (·.2)
 | .call c=>(match c.callee with | .value f=>[f] | _=>[])++c.args.toList
 | _=>[]
def mW(ops:Array Oper)(o:Oper):List Nat:=
 (iE o.op).filterMap (λx=>match x with | .tmp t=>some t | _=>none)++(match o.guard with | some (j,_)=>((ops[j]?).bind (·.dst)).toList | none=>[])
def Ps(T:List (List Nat))(e:AX)(L:List PO)(i:Nat):List Nat→Option AX
 | []=>some []
 | t::l=>match SZ T e L i t,Ps T e L i l with
  | some a,some r=>some ((t,a)::r)
  | _,_=>none
theorem YO{T}(j:∀a b,tw T a b=true→Tw ops a b){e}{L:List PE}{i}{D}(m:Bi ops D i):∀ {l:List Nat} {R:AX},Ps T e (L.map PE.po) i l=some R→∀t,get R t=.any∨get R t=get (CI D (λ_=>0) e (L.map PE.po)) t
 | [],R,h,t=>by cases h;exact .inl rfl
 | t0::l,R,h,t=>by
  unfold Ps at h
  split at h
  ·rename_i a r q w
   cases h
   rw[CB]
   split
   ·rename_i A;subst A;exact .inr (kZ j m q).symm
   ·exact YO j m w t
  ·cases h
theorem Aw.weakE{c}{o}{R m}{h h'}{n n'}{v}(q:Aw P c o R h n v h' n')(w:∀t,get R t=.any∨get R t=get m t):Aw P c o m h n v h' n':=
 λA x a j B C E K Q F=>q A x a j B C (λt=>by
  rcases w t with l | l
  ·rw[l];exact .any _
  ·rw[l];exact E t) K Q F
theorem Cc.weakE{o}{c}{R B}(h:Cc R ops o c)(C:∀t,get R t=.any∨get R t=get B t):Cc B ops o c:=by
 cases h with
 | @one j l w b hg A m=>
  refine .one hg A ?_
  rcases C l with q | q
  ·rw[show A8 R (.tmp l)=get R l from rfl,q] at m;cases m
  ·exact q.symm.trans m
 | @two j l w b E hg A m=>
  refine .two hg A ?_
  rcases C l with q | q
  ·rw[show A8 R (.tmp l)=get R l from rfl,q] at m;cases m
  ·exact q.symm.trans m
abbrev GS:=AX→AO→Nat→Oper→Option (AV × AO × Nat)
def Is(P:Program)(S:GS):Prop:=∀R h n o r,S R h n o=some r→Aw P true o R h n r.1 r.2.1 r.2.2
abbrev JJ:=AX→AO→Oper→Option AV
def Kb(P:Program)(j:JJ):Prop:=∀R h o v,j R h o=some v→∀n,Aw P true o R h n v h n
def Q4(P:Program)(j:JJ)(R:AX)(h:AO)(o:Oper):Option AV:=match Jh P R h o with
 | some v=>some v
 | none=>j R h o
theorem YI{P}{m}(l:Kb P m){R}{h}{o}{v}(j:Q4 P m R h o=some v)(n:Nat):Aw P true o R h n v h n:=by
 unfold Q4 at j
 split at j
 ·rename_i w q;cases j;exact(KV (c:=true) q).spec n
 ·exact l R h o v j n
def Sm(P:Program)(S:GS)(w:JJ)(ops:Array Oper)(j:List (AO × Nat))(R:AX)(k:Nat)(o:Oper)(p:PE):Bool:=match p.eff with
 | false=>match j[k]? with
  | some (h,_)=>match o.guard with
   | none=>match Q4 P w R h o with
    | some v=>D2 v p.v
    | none=>false
   | some _=>match IK R ops o with
    | some true=>match Q4 P w R h o with
     | some v=>D2 v p.v
     | none=>false
    | some false=>D2 (.whn false (.r (.bool false))) p.v
    | none=>false
  | none=>false
 | true=>match j[k]?,j[k+1]? with
  | some (h,n),some (l,m)=>
   match o.guard with
   | none=>match S R h n o with
    | some (v,q,n')=>(D2 v p.v&&Gs q l)&&Nat.beq n' m
    | none=>false
   | some _=>match IK R ops o with
    | some true=>match S R h n o with
     | some (v,q,n')=>(D2 v p.v&&Gs q l)&&Nat.beq n' m
     | none=>false
    | some false=>(D2 (.whn false (.r (.bool false))) p.v&&Gs h l)&&Nat.beq n m
    | none=>false
  | _,_=>false
theorem lC{P}{S}{T}(Z:Is P S)(w:Kb P T){ops}{E}{R}{k}{o:Oper}{p:PE}{h}{n}(F:E[k]?=some (h,n))(j:Sm P S T ops E R k o p=true) :
  ∃(m:AO) (q:Nat),E[k+(match p.eff with | true=>1 | false=>0)]?=some (m,q) ∧
   ((o.guard=none∧Aw P true o R h n p.v m q)∨(Cc R ops o true∧Aw P true o R h n p.v m q)∨(Cc R ops o false∧p.v=.whn false (.r (.bool false))∧m=h∧q=n)):=by
 unfold Sm at j
 cases U:p.eff with
 | false=>
  rw[U,F] at j
  refine⟨h,n,F,?_⟩
  simp only at j
  split at j
  ·rename_i hg
   split at j
   ·rename_i v I;rw[← Js j];exact .inl ⟨hg,YI w I n⟩
   ·cases j
  ·split at j
   ·rename_i l
    split at j
    ·rename_i v I;rw[← Js j];exact .inr (.inl ⟨Fl l,YI w I n⟩)
    ·cases j
   ·rename_i l;exact .inr (.inr ⟨Fl l,(Js j).symm,rfl,rfl⟩)
   ·cases j
 | true=>
  rw[U,F] at j
  simp only at j
  split at j
  ·rename_i h0 n0 m q V e2
   simp only[rR,rW] at V
   obtain⟨rfl,rfl⟩:=V
   refine⟨m,q,e2,?_⟩
   have A:∀ {v B n'},S R h n o=some (v,B,n')→((D2 v p.v&&Gs B m)&&Nat.beq n' q)=true→Aw P true o R h n p.v m q:=by
    intro v B n' C X
    simp only[rO] at X
    obtain⟨⟨J,M⟩,O⟩:=X
    rw[← Js J,← Rp M,← rX O]
    exact Z R h n o _ C
   split at j
   ·rename_i hg
    split at j
    ·rename_i v B n' C;exact .inl ⟨hg,A C j⟩
    ·cases j
   ·split at j
    ·rename_i l
     split at j
     ·rename_i v B n' C;exact .inr (.inl ⟨Fl l,A C j⟩)
     ·cases j
    ·rename_i l
     simp only[rO] at j
     obtain⟨⟨J,M⟩,O⟩:=j
     exact .inr (.inr ⟨Fl l,(Js J).symm,(Rp M).symm,(rX O).symm⟩)
    ·cases j
  ·cases j
def Sz(P:Program)(T:List (List Nat))(S:GS)(l:JJ)(ops:Array Oper)(e:AX)(N:Nat)(L:List PE)(m:List (AO × Nat))(i:Nat)(o:Oper)(p:PE):Bool:=
 (match o.dst,p.d with | some d,some q=>Nat.beq d q&&Nat.blt d N | none,none=>true | _,_=>false) &&
 match Ps T e (L.map PE.po) i (mW ops o) with
 | some R=>(List.range (Co (λj=>!(tw T j i||Nat.beq j i)) L 0+1)).all λk=>Nat.blt k (Co (λj=>tw T i j) L 0)||Sm P S l ops m R k o p
 | none=>false
def SN(P:Program)(S:GS)(l:JJ)(ops:Array Oper)(s:St)(L:List PE)(j:List (AO × Nat)):Bool:=
 (UV ops ops.size&&GA (L.map PE.po)&&Nat.beq L.length ops.size)&&(match j[0]? with | some (h,n)=>Gs s.h h&&Nat.beq s.n n | none=>false) &&
 (List.range ops.size).all λi=>match ops[i]?,L[i]? with
  | some o,some p=>Sz P (Wn ops) S l ops s.e s.N L j i o p
  | _,_=>false
def Gl(c0:Cx)(s:St)(L:List PE)(l:List (AO × Nat))(listed:Array Bool)(a:Act)(w:World):Prop:=
 ∃j,a.defers=j∧a.tmps.size=s.N∧∃(y:Cx) (h:AO) (n:Nat),l[Co (λk=>listed.getD k false) L 0]?=some (h,n)∧y.w=w∧c0.leM j y∧y.ok∧y.H=hget h∧y.n=n ∧
  ∀t,AM y (get (CI (λk=>listed.getD k false) (λ_=>0) s.e (L.map PE.po)) t) (a.tmps.getD t undef)
theorem Gl.put{c0:Cx}{s:St}{L:List PE}{Hs}{listed:Array Bool}{a:Act}{i}{p:PE}{y z:Cx}{u}{F}{O}(hp:L[i]?=some p)(hN:∀d, p.d=some d→Nat.blt d s.N=true)(hE:GA (L.map PE.po)=true)
 (hi:i<listed.size) (hr:Bi ops (λk => listed.getD k false) i) {ds} (I:a.defers=ds) (hsz:a.tmps.size=s.N) (T:c0.leM ds y)
 (A:Hs[Co (λk => listed.getD k false) L 0+(match p.eff with | true => 1 | false => 0)]?=some (F, O))
 (he:∀t, AM y (get (CI (λk => listed.getD k false) (λ_ => 0) s.e (L.map PE.po)) t) (a.tmps.getD t undef)) (J:y.le z) (M:z.ok) (U:z.H=hget F) (V:z.n=O)
 (hv:AM z p.v u):Gl c0 s L Hs (listed.setIfInBounds i true) (a.put p.d u) z.w := by
  have B:(L.map PE.po)[i]?=some p.po := by rw[rT, hp];rfl
  have C:∀k, (listed.setIfInBounds i true).getD k false=(listed.getD k false||(k=i)) := λk => by
    by_cases A:i=k
    · subst A;simp[hi]
    · rw[getD_set_ne false A];simp[uM A]
  have w:∀k, k≠i→(listed.setIfInBounds i true).getD k false=listed.getD k false := λk A => by rw[C];simp[A]
  have X:(λk => (listed.setIfInBounds i true).getD k false) (0+i)=true := by show(listed.setIfInBounds i true).getD (0+i) false=true;rw[ru, C];simp
  refine⟨ds, by cases l:p.d<;>simpa[Act.put, l] using I, ?_, z, F, O, ?_, rfl, T.trans J, M, U, V, λt => ?_⟩
  · cases l:p.d<;>simpa[Act.put, l] using hsz
  · rw[Ze (D := λk => listed.getD k false) (i := i) hr.un (by show(listed.setIfInBounds i true).getD i false=true;rw[C];simp) w L 0 p (sh _) (by simpa using hp)]
    exact A
  · by_cases m:p.d=some t
    · have Z:get (CI (λk => (listed.setIfInBounds i true).getD k false) (λ_ => 0) s.e (L.map PE.po)) t=p.v :=
        H7 CB (RY (p := p.po) m) (L.map PE.po) _ 0 i B X (NE (S3 hE B m))
      have E:t<a.tmps.size := by rw[hsz];exact By (hN t m)
      rw[Z, m]
      simp only[Act.put, MS E, tm]
      exact hv
    · have Z:get (CI (λk => (listed.setIfInBounds i true).getD k false) (λ_ => 0) s.e (L.map PE.po)) t=get (CI (λk => listed.getD k false) (λ_ => 0) s.e (L.map PE.po)) t := by
        refine HE CB (L.map PE.po) _ _ 0 rfl λj q v h1 F => ?_
        obtain⟨h4, h5⟩ := M4 F
        have a0:j≠i := λe => by subst e;rw[B] at h1;cases h1;exact m h4
        rw[ru]
        exact⟨w j a0, λ_ => by
          have:q ∈ L.map PE.po := rj h1
          obtain⟨q', _, rfl⟩ := sM.1 this
          rfl⟩
      rw[Z]
      have h0 := (he t).mono J
      cases l:p.d with
      | none => exact h0
      | some d =>
        have a1:d≠t := λe => m (by rw[l, e])
        have E:d<a.tmps.size := by rw[hsz];exact By (hN d l)
        simp only[Act.put, MS E, rE a1]
        exact h0
theorem Gl.step{T}(hT:∀a b, tw T a b=true→Tw ops a b){S}{Sp}(hS:Is P S)(a0:Kb P Sp){c0}{s:St}{L:List PE}{Hs}{listed:Array Bool}{a:Act}{w}{i}{p:PE}{o:Oper}{Q}(hp:L[i]?=some p)(ho:ops[i]?=some o)(l:Sz P T S Sp ops s.e s.N L Hs i o p=true)
 (hE:GA (L.map PE.po)=true) (hi:i<listed.size) (I:Bi ops (λk => listed.getD k false) i) (M:Gl c0 s L Hs listed a w) :
    wpOp P ops Q i (Gl c0 s L Hs (listed.setIfInBounds i true)) a w := by
  obtain⟨_, A, hsz, y, h, n, a1, a2, O, U, V, X, Z⟩ := M
  subst a2
  unfold Sz at l
  rw[rO] at l
  obtain⟨m, l⟩ := l
  have hd:o.dst=p.d∧∀d, p.d=some d→Nat.blt d s.N=true := by
    split at m
    · rename_i d d' q B
      rw[rO] at m
      have := rX m.1
      subst this
      exact⟨q.trans B.symm, λd2 h3 => by rw[B] at h3;cases h3;exact m.2⟩
    · rename_i q B;exact⟨q.trans B.symm, λd2 h3 => by rw[B] at h3;cases h3⟩
    · cases m
  split at l
  · rename_i R hR
    have C := YO hT (D := λk => listed.getD k false) I hR
    have a7:Co (λj => tw T i j) L 0≤Co (λk => listed.getD k false) L 0 := Ko L 0 λj _ _ q => I.yesT (hT _ _ q)
    have a8:Co (λk => listed.getD k false) L 0≤Co (λj => !(tw T j i||Nat.beq j i)) L 0 := Ko L 0 λj _ _ q => by
      cases hw:tw T j i with
      | true => have := I.noT (hT _ _ hw);rw[this] at q;cases q
      | false =>
        cases a6:Nat.beq j i with
        | true => have := rX a6;subst this;exact absurd (q.symm.trans I.un) (by decide)
        | false => rfl
    have J := ri.1 l (Co (λk => listed.getD k false) L 0) (rp.2 (by omega))
    rw[rV] at J
    rcases J with J | J
    · have := By J;omega
    · obtain⟨B, n2, e2, E⟩ := lC hS a0 a1 J
      unfold wpOp
      simp only[ho]
      have run:Aw P true o R h n p.v B n2→o.wp P a y.w (Gl c0 s L Hs (listed.setIfInBounds i true)) Q := λhs =>
        (hs.weakE C) rfl y a U V X Z _ Q λu z k1 k2 k3 k4 k5 => by
          rw[hd.1]
          exact Gl.put hp hd.2 hE hi I A hsz O e2 Z k1 k2 k3 k4 k5
      rcases E with ⟨hg, hs⟩ | ⟨F, hs⟩ | ⟨F, hv, rfl, rfl⟩
      · rw[rF (by simp[Region.wanted, hg])]
        exact .inl (run hs)
      · have hw:Region.wanted o (yielded ops a.tmps)=true := Cc.wanted (s := ⟨_, [], 0, 0⟩) (F.weakE C) Z
        rw[hw, rF rfl]
        exact .inl (run hs)
      · have hw:Region.wanted o (yielded ops a.tmps)=false := Cc.wanted (s := ⟨_, [], 0, 0⟩) (F.weakE C) Z
        rw[hw, rE (by decide), hd.1]
        refine Gl.put hp hd.2 hE hi I A hsz O e2 Z (.refl y) U V X ?_
        rw[hv];exact .whn (λe => by cases e) (λ_ => rfl)
  · cases l
theorem qr{S}{Sp}(hS:Is P S)(a8:Kb P Sp){id}{s:St}{Q}(L:List PE)(Hs:List (AO × Nat)){h'}{n'}(hm:P.follows .mixedOrders=true)(hB:SN P S Sp ops s L Hs=true)(a0:Hs[Co (λ_ => true) L 0]?=some (h', n'))
 (h:Q .normal ⟨CI (λ_ => true) (λ_ => 0) s.e (L.map PE.po), h', n', s.N⟩):AW P (.region id ops true) Q s := by
  intro z0 aa c0 a w ⟨_, a1, hsz, y, ab, ac, ad, hH, hn, T⟩
  subst ab
  obtain⟨r1, r2⟩ := PG ad
  unfold SN at hB
  simp only[rO] at hB
  obtain⟨⟨⟨⟨b1, b2⟩, b3⟩, b4⟩, b5⟩ := hB
  have ax := rX b3
  have ae:Hs[0]?=some (s.h, s.n) := by
    split at b4
    · rename_i h0 n0 e0
      rw[rO] at b4
      rw[e0, Rp b4.1, rX b4.2]
    · cases b4
  refine Ml JQ hm aa ?_
  generalize hz:({ y with w := { y.w with drawn := y.w.drawn+1 } } : Cx)=z at r1 r2
  have af:z.w = { y.w with drawn := y.w.drawn+1 } := by rw[← hz]
  have ag:z.H=hget s.h := by rw[← hz];exact hH
  have ah:z.n=s.n := by rw[← hz];exact hn
  rw[← af]
  have B:∀j, (Array.replicate ops.size false).getD j false=false := getD_replicate_false _
  have key:∀(f:Nat) (listed:Array Bool) (a:Act) (w:World), Dj listed ops.size=f→HeadInv .any ops ops.size listed→Gl c0 s L Hs listed a w→wpAny P .any ops (DT c0 Q) f listed a w := by
    intro f
    induction f with
    | zero =>
      intro listed a w M C E
      have m := SE M
      refine⟨?_, ?_⟩
      · rw[List.eq_nil_iff_forall_not_mem]
        intro j hj
        obtain⟨U, o, I, _⟩ := mem_ready.1 hj
        have ai:j<ops.size := (sC.1 I).1
        have := getD_both U
        rw[m j ai] at this;cases this
      · obtain⟨_, i1, i2, z', hh, nn, J, i3, i4, i5, i6, aj, i7⟩ := E
        subst i3
        have ak:Co (λk => listed.getD k false) L 0=Co (λ_ => true) L 0 :=
          Nat.le_antisymm (Ko L 0 λ_ _ _ _ => rfl) (Ko L 0 λj _ hj _ => m j (by omega))
        rw[ak, a0] at J
        cases J
        refine⟨by simp, _, h, _, i1, i2, z', rfl, i4, i5, i6, aj, λt => ?_⟩
        show AM z' (get (Dw _ _ _ _ _ _) t) _
        rw[Rr (L.map PE.po) _ 0 (D' := λk => listed.getD k false) λj _ hj => (m j (by simp at hj;omega)).symm]
        exact i7 t
    | succ f ih =>
      intro listed a w M C E
      obtain⟨J, al, a2, F⟩ := VE (listed := listed) (n := ops.size) (by omega)
      have an:J<listed.size := by rw[C.size];omega
      have A:J ∈ Region.ready .any ops listed := by
        refine mem_ready.2 ⟨getD_in an a2, ?_⟩
        have ao:∃o, ops[J]?=some o := ⟨ops[J]'(by omega), by simp[rl (show J<ops.size by omega)]⟩
        obtain⟨o, I⟩ := ao
        refine⟨o, I, λe T hb => ?_⟩
        have U := ri.1 b1 J (rp.2 al)
        simp only[I] at U
        have h2 := (uV.1 U) e T
        simp only[hb, tS, sO, rJ] at h2
        exact F _ h2
      refine⟨λh => (by rw[h] at A;cases A), λi hi => ?_⟩
      obtain⟨aq, o, I, m⟩ := mem_ready.1 hi
      have V:i<ops.size := (sC.1 I).1
      have O := getD_both aq
      have a6:i<listed.size := by rw[C.size];omega
      obtain⟨p, hp⟩:∃p, L[i]?=some p := ⟨L[i]'(by omega), by simp[rK (show i<L.length by omega)]⟩
      have a7 := ri.1 b5 i (rp.2 V)
      simp only[I, hp] at a7
      have ar:Bi ops (λk => listed.getD k false) i := by
        refine⟨λj k hj hk => ?_, λk hk => ?_, O⟩
        · obtain⟨oj, au, e, T, hb, X⟩ := Region.waitsFor_spec hk
          rw[← X];exact C.closed j oj au hj e T hb
        · obtain⟨oi, av, e, T, hb, X⟩ := Region.waitsFor_spec hk
          have:oi=o := rn (av.symm.trans I)
          subst this
          rw[← X];exact m e T hb
      have step := Gl.step (Q := DT c0 Q) (λ_ _ => iI) hS a8 hp I a7 b2 a6 ar E
      refine wpOp_mono (λa' w' h' => ih _ a' w' ?_ (C.set hi V) h') step
      have := Ti a6 O ops.size
      rw[rF V] at this
      omega
  have Z:Dj (Array.replicate ops.size false) ops.size=ops.size := Ul B ops.size
  have aw:Co (λk => (Array.replicate ops.size false).getD k false) L 0=0 := by
    have:∀(l:List PE) (k:Nat), Co (λk => (Array.replicate ops.size false).getD k false) l k=0 := by
      intro l
      induction l with
      | nil => intro k;rfl
      | cons q l ih => intro k;unfold Co;rw[ih, B, uN]
    exact this L 0
  exact key ops.size _ a z.w Z ⟨by simp, λj oj _ hl => (by rw[B] at hl;cases hl), λt ay ht => by omega⟩
    ⟨_, a1, hsz, z, s.h, s.n, by rw[aw];exact ae, rfl, ac.trans r1, r2, ag, ah, λt => by
      have e1:get (CI (λk => (Array.replicate ops.size false).getD k false) (λ_ => 0) s.e (L.map PE.po)) t=get s.e t := Fq CB (L.map PE.po) _ 0 λj p _ _ U => by rw[B] at U;cases U
      rw[e1];exact(T t).mono r1⟩
end
variable{β:Type}
def Cm(n:Nat)(k:Nat→β):β:=match n with
 | 0=>k 0
 | m+1=>k (m+1)
theorem Cz(n:Nat)(k:Nat→β):Cm n k=k n:=by cases n<;>rfl
def QW(z:Int)(k:Int→β):β:=match z with
 | .ofNat n=>Cm n λn=>k (.ofNat n)
 | .negSucc n=>Cm n λn=>k (.negSucc n)
theorem Yf(z:Int)(k:Int→β):QW z k=k z:=by cases z<;>simp only[QW,Cz]
def R3(c:UInt8)(k:UInt8→β):β:=Cm c.toNat λn=>k (UInt8.ofNat n)
theorem mw(c:UInt8)(k:UInt8→β):R3 c k=k c:=by unfold R3;rw[Cz];congr 1;simp
def RQ:List UInt8→(List UInt8→β)→β
 | [],k=>k []
 | c::r,k=>R3 c λc=>RQ r λr=>k (c::r)
theorem Va:∀(l:List UInt8) (k:List UInt8→β),RQ l k=k l
 | [],_=>rfl
 | c::r,k=>by unfold RQ;rw[mw,Va r]
def U3(x:IntKind)(k:IntKind→β):β:=match x with
 | .i8=>k .i8 | .i16=>k .i16 | .i32=>k .i32 | .i64=>k .i64 | .u8=>k .u8 | .u16=>k .u16 | .u32=>k .u32 | .u64=>k .u64
theorem Vj(x:IntKind)(k:IntKind→β):U3 x k=k x:=by cases x<;>rfl
def TJ(x:Bool)(k:Bool→β):β:=match x with
 | true=>k true
 | false=>k false
theorem ZC(x:Bool)(k:Bool→β):TJ x k=k x:=by cases x<;>rfl
mutual
def Ic:RV→(RV→β)→β
 | .int kd n,k=>U3 kd λkd=>QW n λn=>k (.int kd n)
 | .bool b,k=>TJ b λb=>k (.bool b)
 | .str s,k=>RQ s λs=>k (.str s)
 | .sl xs,k=>Lr xs λxs=>k (.sl xs)
 | .any,k=>k .any
def Ky:List RV→(List RV→β)→β
 | [],k=>k []
 | a::l,k=>Ic a λa=>Ky l λl=>k (a::l)
def Lr:List (List RV)→(List (List RV)→β)→β
 | [],k=>k []
 | a::l,k=>Ky a λa=>Lr l λl=>k (a::l)
end
mutual
theorem VQ:∀(a:RV) (k:RV→β),Ic a k=k a
 | .int kd n,k=>by unfold Ic;rw[Vj,Yf]
 | .bool b,k=>by unfold Ic;rw[ZC]
 | .str s,k=>by unfold Ic;rw[Va]
 | .sl xs,k=>by unfold Ic;rw[SL xs]
 | .any,k=>by unfold Ic;rfl
theorem UT:∀(a:List RV) (k:List RV→β),Ky a k=k a
 | [],k=>by unfold Ky;rfl
 | a::l,k=>by unfold Ky;rw[VQ a,UT l]
theorem SL:∀(a:List (List RV)) (k:List (List RV)→β),Lr a k=k a
 | [],k=>by unfold Lr;rfl
 | a::l,k=>by unfold Lr;rw[UT a,SL l]
end
mutual
def De:AV→(AV→β)→β
 | .r x,k=>Ic x λx=>k (.r x)
 | .agg cs,k=>G9 cs λcs=>k (.agg cs)
 | .tup cs,k=>G9 cs λcs=>k (.tup cs)
 | .own i g,k=>Cm i λi=>Cm g λg=>k (.own i g)
 | .ptr i g j m,k=>Cm i λi=>Cm g λg=>Cm j λj=>Cm m λm=>k (.ptr i g j m)
 | .rop row m,k=>Ky row λrow=>Cm m λm=>k (.rop row m)
 | .fn f cs,k=>Cm f λf=>G9 cs λcs=>k (.fn f cs)
 | a,k=>k a
def G9:List AV→(List AV→β)→β
 | [],k=>k []
 | a::l,k=>De a λa=>G9 l λl=>k (a::l)
end
mutual
theorem ZL:∀(a:AV) (k:AV→β),De a k=k a
 | .r x,k=>by unfold De;rw[VQ]
 | .agg cs,k=>by unfold De;rw[Jv cs]
 | .tup cs,k=>by unfold De;rw[Jv cs]
 | .own i g,k=>by unfold De;rw[Cz,Cz]
 | .ptr i g j m,k=>by unfold De;rw[Cz,Cz,Cz,Cz]
 | .rop row m,k=>by unfold De;rw[UT,Cz]
 | .fn f cs,k=>by unfold De;rw[Cz,Jv cs]
 | .mref _ _,k=>by unfold De;rfl
 | .yld _ _,k=>by unfold De;rfl
 | .full _,k=>by unfold De;rfl
 | .pk _ _ _ _ _,k=>by unfold De;rfl
 | .fo _ _ _ _,k=>by unfold De;rfl
 | .pre _ _ _,k=>by unfold De;rfl
 | .ifc _,k=>by unfold De;rfl
 | .cst _,k=>by unfold De;rfl
 | .whn _ _,k=>by unfold De;rfl
 | .any,k=>by unfold De;rfl
theorem Jv:∀(a:List AV) (k:List AV→β),G9 a k=k a
 | [],k=>by unfold G9;rfl
 | a::l,k=>by unfold G9;rw[ZL a,Jv l]
end
def UL:Option AU→(Option AU→β)→β
 | some (.arr g e sz j),k=>Cm g λg=>Cm e λe=>Cm sz λsz=>Lr j λj=>k (some (.arr g e sz j))
 | some (.box g e l),k=>Cm g λg=>Cm e λe=>G9 l λl=>k (some (.box g e l))
 | o,k=>k o
theorem eQ(o:Option AU)(k:Option AU→β):UL o k=k o:=by
 unfold UL
 split
 ·rw[Cz,Cz,Cz,SL]
 ·rw[Cz,Cz,Jv]
 ·rfl
def Qo:AO→(AO→β)→β
 | [],k=>k []
 | (i,o)::r,k=>Cm i λi=>UL o λo=>Qo r λr=>k ((i,o)::r)
theorem Wd:∀(h:AO) (k:AO→β),Qo h k=k h
 | [],_=>rfl
 | (i,o)::r,k=>by unfold Qo;rw[Cz,eQ,Wd r]
def Uj(a:AV)(k:AV→β):β:=match a with
 | .r (.int l n)=>U3 l λl=>QW n λn=>k (.r (.int l n))
 | .r (.bool b)=>TJ b λb=>k (.r (.bool b))
 | .own i g=>Cm i λi=>Cm g λg=>k (.own i g)
 | .ptr i g j m=>Cm i λi=>Cm g λg=>Cm j λj=>Cm m λm=>k (.ptr i g j m)
 | a=>k a
theorem ee(a:AV)(k:AV→β):Uj a k=k a:=by
 unfold Uj
 split
 ·rw[Vj,Yf]
 ·rw[ZC]
 ·rw[Cz,Cz]
 ·rw[Cz,Cz,Cz,Cz]
 ·rfl
def Up(s:St)(k:St→β):β:=match s with
 | ⟨(d,v)::e,h,n,N⟩=>Uj v λv=>Cm n λn=>k ⟨(d,v)::e,h,n,N⟩
 | s=>k s
theorem nj(s:St)(k:St→β):Up s k=k s:=by
 unfold Up
 split
 ·rw[ee,Cz]
 ·rfl
section
variable{P:Program}
theorem Aw.frzV{c}{o}{R}{h j}{n n1}{v}{id g e sz}{xs}(J:Aw P c o R h n v j n1)(M:hget j id=some (.arr g e sz xs)) :
  Aw P c o R h n (KL id g xs v) (J7 id g xs ⟨[(0,v)],j,n1,1⟩).h n1:=by
 intro O x a q T U V K Q X
 refine J O x a q T U V K Q λu y Z k2 k3 k4 k5=>?_
 have l:Do y ⟨[(0,v)],j,n1,1⟩ { tmps:=#[u],defers:=[] } y.w:=by
  refine⟨_,rfl,rfl,y,rfl,.refl y,k2,k3,k4,λt=>?_⟩
  rw[CB]
  split
  ·rename_i ht;subst ht;exact k5
  ·exact .any _
 obtain⟨_,_,_,z,w,A,m,B,C,E⟩:=P5 (s:=⟨[(0,v)],j,n1,1⟩) M y _ _ l
 have F:=E 0
 have:get (J7 id g xs ⟨[(0,v)],j,n1,1⟩).e 0=KL id g xs v:=rfl
 rw[this] at F
 have I:=X u z (Z.trans A.le) m B C F
 rw[w] at I;exact I
def LI:Nat→AV→AO→Nat→AV × AO
 | 0,v,h,_=>(v,h)
 | f+1,v,h,n=>match Mt h v with
  | some id=>match hget h id with
   | some (.arr g _ _ j)=>LI f (KL id g j v) (J7 id g j ⟨[(0,v)],h,n,1⟩).h n
   | _=>(v,h)
  | none=>(v,h)
theorem Wj{c}{o}{R}{h}{n n1} : ∀(f:Nat) {v:AV} {j:AO},Aw P c o R h n v j n1→Aw P c o R h n (LI f v j n1).1 (LI f v j n1).2 n1
 | 0,v,j,l=>l
 | f+1,v,j,l=>by
  unfold LI
  split
  ·split
   ·rename_i m;exact Wj f (l.frzV m)
   ·exact l
  ·exact l
def nE(o:Oper):Bool:=match o.op with
 | .buildSlice _ _ _=>true
 | .call ⟨.builtin .append,⟨[.const _,_]⟩,_⟩=>true
 | .call ⟨.value _,_,_⟩=>true
 | _=>false
def QV(S:GS):GS:=λR h n o=>match S R h n o with
 | some (v,j,n')=>match nE o with
  | true=>some ((LI 9 v j n').1,(LI 9 v j n').2,n')
  | false=>some (v,j,n')
 | none=>none
theorem eh{S}(m:Is P S):Is P (QV S):=by
 intro R h n o r j
 unfold QV at j
 split at j
 ·rename_i v w n' q
  have l:=m R h n o _ q
  split at j
  ·cases j;exact Wj 9 l
  ·cases j;exact l
 ·cases j
def NJ(S:GS)(l:JJ)(ops:Array Oper):List Oper→List PE→List (AO × Nat)→AX→AO→Nat→Option (List PE × List (AO × Nat))
 | [],L,j,_,_,_=>some (L.reverse,j.reverse)
 | o::rest,L,j,e,h,n=>
  match (match o.guard with | none=>some true | some _=>IK e ops o) with
  | some true=>match QM o with
   | true=>match S e h n o with
    | some (v,_,_)=>NJ S l ops rest (⟨o.dst,v,false⟩::L) j (Ep o.dst v e) h n
    | none=>none
   | false=>match l e h o with
    | some v=>NJ S l ops rest (⟨o.dst,v,false⟩::L) j (Ep o.dst v e) h n
    | none=>match S e h n o with
     | some (v,m,n')=>NJ S l ops rest (⟨o.dst,v,true⟩::L) ((m,n')::j) (Ep o.dst v e) m n'
     | none=>none
  | some false=>NJ S l ops rest (⟨o.dst,.whn false (.r (.bool false)),false⟩::L) j (Ep o.dst (.whn false (.r (.bool false))) e) h n
  | none=>none
def Sx(P:Program)(S:GS)(j:JJ)(ops:Array Oper)(s:St):Option St:=match NJ S j ops ops.toList [] [(s.h,s.n)] s.e s.h s.n with
 | some (L,l)=>match SN P S j ops s L l with
  | true=>match l[Co (λ_=>true) L 0]? with
   | some (m,n')=>some ⟨CI (λ_=>true) (λ_=>0) s.e (L.map PE.po),m,n',s.N⟩
   | none=>none
  | false=>none
 | none=>none
def RF(S:GS)(ops:Array Oper):List Oper→AX→AO→Nat→Option Nat
 | [],_,_,_=>none
 | o::rest,e,h,n=>
  match (match o.guard with | none=>some true | some _=>IK e ops o) with
  | some true=>match S e h n o with
   | some (v,j,n')=>match QM o with
    | true=>RF S ops rest (Ep o.dst v e) h n
    | false=>RF S ops rest (Ep o.dst v e) j n'
   | none=>Wb ⟨e,h,n,0⟩ o
  | some false=>RF S ops rest (Ep o.dst (.whn false (.r (.bool false))) e) h n
  | none=>none
def jV(F:List Nat)(s:St)(o:Oper):Option Nat:=match o.op with
 | .call ⟨.value fo,j,_⟩=>match At s.e fo with
  | .fn f _=>match F.any (Nat.beq f) with
   | true=>j.toList.findSome? λx=>Mt s.h (At s.e x)
   | false=>none
  | _=>none
 | _=>none
def Rl(F:List Nat)(c:DA):DA:=match c with
 | .ops ops (o::rest) ks s=>match jV F s o with
  | some id=>match hget s.h id with
   | some (.arr g _ _ j)=>.ops ops (o::rest) ks (J7 id g j s)
   | _=>c
  | none=>c
 | c=>c
theorem Z4{F}{Q}{c}(h:Cs P Q (Rl F c)):Cs P Q c:=by
 unfold Rl at h
 split at h
 ·split at h
  ·split at h
   ·rename_i j;exact BR.weak (P5 j) h
   ·exact h
  ·exact h
 ·exact h
structure Lv where
 S:GS
 Sp:JJ
structure Km(P:Program)(p:Lv):Prop where
 S:Is P p.S
 Sp:Kb P p.Sp
def Tc(p:Lv)(ops:Array Oper)(o:Oper)(rest:List Oper)(ks:List Fr)(s:St):Option DA:=match o.op with
 | .call ⟨.value _,_,_⟩=>match (match o.guard with | none=>some true | some _=>IK s.e ops o) with
  | some true=>match p.Sp s.e s.h o with
   | some v=>match o.dst with
    | some d=>match Nat.blt d s.N with
     | true=>some (.ops ops rest ks { e:=(d,v)::s.e,h:=s.h,n:=s.n,N:=s.N })
     | false=>none
    | none=>none
   | none=>none
  | _=>none
 | _=>none
theorem dh{p}(hp:Km P p){Q}{ops}{o:Oper}{rest}{ks}{s:St}{q}(h:Tc p ops o rest ks s=some q)(hc:Cs P Q q):Cs P Q (.ops ops (o::rest) ks s):=by
 unfold Tc at h
 split at h
 ·split at h
  ·rename_i hg
   split at h
   ·rename_i v A
    split at h
    ·rename_i d hd
     split at h
     ·rename_i B;cases h
      have l:(false=false∧o.guard=none)∨Cc s.e ops o true:=by
       cases m:o.guard with
       | none=>exact .inl ⟨rfl,rfl⟩
       | some j=>rw[m] at hg;exact .inr (Fl hg)
      exact BR.cons (K1:=λw=>w=_) (VJ l hd B (hp.Sp _ _ _ _ A _) (AK.nil rfl)) λw e=>e ▸ hc
     ·cases h
    ·cases h
   ·cases h
  ·cases h
 ·cases h
def QO(P:Program)(p:Lv)(c:DA):Option DA:=match Ug P c with
 | some (.ops o r ks s)=>Up s λs=>some (.ops o r ks s)
 | some j=>some j
 | none=>match c with
  | .code (.region i ops true) ks s=>match Sx P (QV p.S) p.Sp ops s with
   | some l=>some (.out .normal ks l)
   | none=>match RF (QV p.S) ops ops.toList s.e s.h s.n with
    | some id=>match hget s.h id with
     | some (.arr g _ _ m)=>some (.code (.region i ops true) ks (J7 id g m s))
     | _=>none
    | none=>none
  | _=>none
def SH(P:Program)(p:Lv)(c:DA):Option DA:=match c with
 | .ops ops (o::rest) ks s=>match Tc p ops o rest ks s with
  | some j=>some j
  | none=>QO P p c
 | c=>QO P p c
theorem ev{S}{q}{Q}(w:P.follows .mixedOrders=true)(A:Is P S)(m:Kb P q){ops}{s s'}{id}(j:Sx P S q ops s=some s')(hc:Q .normal s'):AW P (.region id ops true) Q s:=by
 unfold Sx at j
 split at j
 ·rename_i L B _
  split at j
  ·rename_i hB
   split at j
   ·rename_i C n' l
    cases j
    exact qr A m L B w hB l hc
   ·cases j
  ·cases j
 ·cases j
theorem Ww{p}{Q}(l:P.follows .mixedOrders=true)(hp:Km P p){c m}(h:QO P p c=some m)(hc:Cs P Q m):Cs P Q c:=by
 unfold QO at h
 split at h
 ·rename_i o r ks s j;rw[nj] at h;cases h;exact WZ l j hc
 ·rename_i w _ j;cases h;exact WZ l j hc
 ·split at h
  ·split at h
   ·rename_i A j;cases h;exact ev l (eh hp.S) hp.Sp j hc
   ·split at h
    ·split at h
     ·rename_i q;cases h;exact AW.weak (P5 q) hc
     ·cases h
    ·cases h
  ·cases h
theorem pD{p}{Q}(j:P.follows .mixedOrders=true)(hp:Km P p){c l}(h:SH P p c=some l)(hc:Cs P Q l):Cs P Q c:=by
 unfold SH at h
 split at h
 ·split at h
  ·rename_i q m;cases h;exact dh hp m hc
  ·exact Ww j hp h hc
 ·exact Ww j hp h hc
def runX(P:Program)(F:List Nat)(p:Lv):Nat→DA→DA
 | 0,c=>c
 | n+1,c=>match SH P p (Rl F (Rl F c)) with
  | some j=>runX P F p n j
  | none=>c
theorem Od{F}{p}{Q}(j:P.follows .mixedOrders=true)(hp:Km P p):∀ {n:Nat} {c:DA},Cs P Q (runX P F p n c)→Cs P Q c
 | 0,c,h=>h
 | n+1,c,h=>by
  unfold runX at h
  split at h
  ·rename_i m l;exact Z4 (Z4 (pD j hp l (Od j hp h)))
  ·exact h
def Pb(P:Program):GS:=λR h n o=>match Jh P R h o with
 | some v=>some (v,h,n)
 | none=>M6 P R h n o
theorem Yw:Is P (Pb P):=by
 intro R h n o r j
 unfold Pb at j
 split at j
 ·rename_i v l;cases j;exact(KV (c:=true) l).spec _
 ·exact R2 j
def Ut(P:Program)(F:List Nat)(p:Lv)(R:AX)(h:AO)(n:Nat)(o:Oper):Option (AV × AO × Nat):=match o.op with
 | .call ⟨.value fo,l,_⟩=>match At R fo with
  | .fn f j=>match P.funcs[f]? with
   | some fn=>match fn.body with
    | some code => if (fn.name == "runtime.NumGoroutine") = false ∧ Nat.ble (l.toList.map (At R) ++ j).length fn.ntmps = true then
      G9 (l.toList.map (At R)++j) λm=>Cm n λn=>Qo h λh=>
      match runX P F p 1000000 (.code code [] ⟨Cu 0 m,h,n,fn.ntmps⟩) with
      | .out .ret [] s=>match JX P s fn.results.toList with
       | some r=>some (r,s.h,s.n)
       | none=>none
      | .out .normal [] s=>match JX P s fn.results.toList with
       | some r=>some (r,s.h,s.n)
       | none=>none
      | _=>none
     else none
    | none=>none
   | none=>none
  | _=>none
 | _=>none
theorem de{F}{p}(O:P.follows .mixedOrders=true)(hp:Km P p){R}{h}{n}{o}{r}(j:Ut P F p R h n o=some r):Aw P true o R h n r.1 r.2.1 r.2.2:=by
 unfold Ut at j
 split at j
 ·rename_i fo T V X
  split at j
  ·rename_i f m E
   split at j
   ·rename_i fn Z
    split at j
    ·rename_i code hb
     split at j
     ·rename_i U
      rw[Jv,Cz,Wd] at j
      have A:Ev true R fo (.fn f m):=by rw[← E];exact BO true R fo
      have B:∀(v:AV) (I:AO) (n':Nat),AW P code (GW P fn.results.toList λr q w=>r=v∧q=I∧w=n') ⟨Cu 0 (T.toList.map (At R)++m),h,n,fn.ntmps⟩→Aw P true o R h n v I n':=by
       intro v I n' hw hc z a J hH hn he K Q hK
       refine RM X A (Kg true R T.toList) Z hb U.1 rfl (sR U.2) J hH hn he hw K Q λu y r q w k1 k2 k3 k4 k5 ⟨e1,e2,e3⟩=>?_
       subst e1;subst e2;subst e3
       exact hK u y k1 k2 k3 k4 k5
      split at j
      ·rename_i s M
       split at j
       ·rename_i C l;cases j
        refine B _ _ _ (Od (F:=F) (Q:=GW P fn.results.toList λr q w=>r=C∧q=s.h∧w=s.n) (c:=.code code [] _) (n:=1000000) O hp ?_)
        rw[M];exact⟨C,PC l,rfl,rfl,rfl⟩
       ·cases j
      ·rename_i s M
       split at j
       ·rename_i C l;cases j
        refine B _ _ _ (Od (F:=F) (Q:=GW P fn.results.toList λr q w=>r=C∧q=s.h∧w=s.n) (c:=.code code [] _) (n:=1000000) O hp ?_)
        rw[M];exact⟨C,PC l,rfl,rfl,rfl⟩
       ·cases j
      ·cases j
     ·cases j
    ·cases j
   ·cases j
  ·cases j
 ·cases j
def LM(h:AO):List AV→Option (List AV)
 | []=>some []
 | a::l=>match (match a with
   | .own id g=>match hget h id with
    | some (.arr j _ _ q)=>if j=g then some (.r (.sl q)) else none
    | _=>none
   | a=>match a.closed with
    | true=>some a
    | false=>none),LM h l with
  | some b,some m=>some (b::m)
  | _,_=>none
def Jt(h:AO)(a:AV):Option AV:=match a with
 | .own id g=>match hget h id with
  | some (.arr j _ _ l)=>if j=g then some (.r (.sl l)) else none
  | _=>none
 | .agg m=>(LM h m).map .agg
 | a=>match a.closed with
  | true=>some a
  | false=>none
theorem X9{h} : ∀ {cs ds:List AV},LM h cs=some ds→Nq h cs ds
 | [],ds,q=>by cases q;trivial
 | a::l,ds,q=>by
  unfold LM at q
  split at q
  ·rename_i b m j w
   cases q
   refine⟨?_,X9 w⟩
   split at j
   ·split at j
    ·rename_i A
     split at j
     ·rename_i hg;subst hg;cases j;exact .own A
     ·cases j
    ·cases j
   ·split at j
    ·rename_i B;cases j;exact .closed _ B
    ·cases j
  ·cases q
theorem P2{h}{a b}(j:Jt h a=some b):Fz h a b:=by
 unfold Jt at j
 split at j
 ·split at j
  ·rename_i l
   split at j
   ·rename_i hg;subst hg;cases j;exact .one (.own l)
   ·cases j
  ·cases j
 ·rw[rU] at j
  obtain⟨w,m,rfl⟩:=j
  exact .agg (X9 m)
 ·split at j
  ·rename_i q;cases j;exact .one (.closed _ q)
  ·cases j
def MB(R:AX)(h:AO):List Operand→Option (List AV)
 | []=>some []
 | x::j=>match Jt h (At R x),MB R h j with
  | some b,some l=>some (b::l)
  | _,_=>none
theorem XX{R}{h} : ∀ {xs:List Operand} {bs:List AV},MB R h xs=some bs→G5 true R h xs bs
 | [],bs,j=>by cases j;trivial
 | x::xs,bs,j=>by
  unfold MB at j
  split at j
  ·rename_i b l m q
   cases j
   exact⟨⟨_,BO true R x,P2 m⟩,XX q⟩
  ·cases j
theorem WT{R} : ∀(xs:List Operand),DF (xs.map (At R))=true→Mp true R xs (xs.map (At R))
 | [],_=>trivial
 | x::xs,h=>by
  simp only[rq,DF,rO] at h
  exact⟨.inl ⟨BO true R x,h.1⟩,WT xs h.2⟩
def P1(P:Program)(s:St):ResultVar→Option AV
 | .tmp t=>Jt s.h (get s.e t)
 | .cell a t=>match get s.e a with
  | .ptr id g 0 0=>match hget s.h id with
   | some (.box l _ j)=>if l=g then match Jg P t with
     | true=>match j with
      | [r]=>Jt s.h r
      | _=>none
     | false=>match Ku P t with
      | some sz=>if j.length=sz then Jt s.h (.agg j) else none
      | none=>none
    else none
   | _=>none
  | _=>none
theorem Xn{s}{x}{r}(h:P1 P s x=some r):Db P s x r:=by
 unfold P1 at h
 split at h
 ·exact P2 h
 ·split at h
  ·rename_i id g hp
   split at h
   ·rename_i w e A j
    split at h
    ·rename_i hg;subst hg
     split at h
     ·rename_i l
      split at h
      ·exact .inl ⟨id,_,_,_,Mc l,hp,j,P2 h⟩
      ·cases h
     ·split at h
      ·rename_i sz m
       split at h
       ·rename_i q;exact .inr ⟨sz,id,_,_,_,Oo m,hp,j,q,P2 h⟩
       ·cases h
      ·cases h
    ·cases h
   ·cases h
  ·cases h
def PR(P:Program)(s:St):List ResultVar→Option (List AV)
 | []=>some []
 | x::l=>match P1 P s x,PR P s l with
  | some r,some j=>some (r::j)
  | _,_=>none
theorem YJ{s} : ∀ {l:List ResultVar} {j:List AV},PR P s l=some j→LS (Db P s) l j
 | [],j,h=>by cases h;trivial
 | x::l,j,h=>by
  unfold PR at h
  split at h
  ·rename_i r m q w;cases h;exact⟨Xn q,YJ w⟩
  ·cases h
def Pk(P:Program)(s:St)(l:List ResultVar):Option AV:=match l with
 | [x]=>P1 P s x
 | l=>(PR P s l).map .tup
theorem V1{s}{l}{r}(h:Pk P s l=some r):Li (Db P s) l r:=by
 unfold Pk at h
 split at h
 ·exact Xn h
 ·rename_i A j
  rw[rU] at h
  obtain⟨m,q,rfl⟩:=h
  have w:=YJ q
  unfold Li
  split
  ·rename_i x;exact absurd rfl (j x)
  ·exact⟨m,rfl,w⟩
def So(P:Program)(j:List ResultVar):DA→Option AV
 | .out .ret [] s=>Pk P s j
 | .out .normal [] s=>Pk P s j
 | _=>none
theorem jn{j}{c}{r}(h:So P j c=some r):Cs P (Ff P j r) c:=by
 unfold So at h
 split at h
 ·exact V1 h
 ·exact V1 h
 ·cases h
def Rf(P:Program)(F X:List Nat)(p:Lv)(R:AX)(h:AO)(o:Oper):Option AV:=match o.op with
 | .call ⟨.value fo,m,_⟩=>match At R fo with
  | .fn f j=>match X.any (Nat.beq f) with
   | true=>none
   | false=>match DF j,MB R h m.toList with
    | true,some l=>match P.funcs[f]? with
     | some fn=>match fn.body with
      | some code => if (fn.name == "runtime.NumGoroutine") = false ∧ Nat.ble (l ++ j).length fn.ntmps = true ∧ DF (l ++ j) = true then
        G9 (l++j) λq=>
        match So P fn.results.toList (runX P F p 1000000 (.code code [] ⟨Cu 0 q,[],0,fn.ntmps⟩)) with
        | some r=>De r λr=>if r.closed=true∧(r.flat=true∨DF (m.toList.map (At R))=true) then some r else none
        | none=>none
       else none
      | none=>none
     | none=>none
    | _,_=>none
  | _=>none
 | _=>none
theorem Zd{R}{h} : ∀ {xs:List Operand} {bs:List AV},MB R h xs=some bs→DF (xs.map (At R))=true→bs=xs.map (At R)
 | [],bs,j,_=>by cases j;rfl
 | x::xs,bs,j,B=>by
  unfold MB at j
  simp only[rq,DF,rO] at B
  split at j
  ·rename_i b I q J
   cases j
   rw[rq,Zd J B.2]
   congr 1
   unfold Jt at q
   split at q
   ·rename_i F;rw[F] at B;cases B.1
   ·rename_i w F
    rw[rU] at q
    obtain⟨C,M,rfl⟩:=q
    rw[F] at B ⊢
    have:∀(w C:List AV),DF w=true→LM h w=some C→C=w:=by
     intro w
     induction w with
     | nil=>intro C _ j;cases j;rfl
     | cons a l O=>
      intro C A j
      simp only[DF,rO] at A
      unfold LM at j
      split at j
      ·rename_i b m E T
       cases j
       rw[O m A.2 T]
       congr 1
       split at E
       ·cases A.1
       ·split at E
        ·cases E;rfl
        ·cases E
      ·cases j
    rw[this w C B.1 M]
   ·split at q
    ·cases q;rfl
    ·cases q
  ·cases j
theorem X6{F X}{p}(T:P.follows .mixedOrders=true)(hp:Km P p):Kb P (Rf P F X p):=by
 intro R h o v j n
 unfold Rf at j
 split at j
 ·rename_i fo U V M
  split at j
  ·rename_i f q E
   split at j
   ·cases j
   ·split at j
    ·rename_i I l m
     split at j
     ·rename_i fn Z
      split at j
      ·rename_i code hb
       split at j
       ·rename_i J
        rw[Jv] at j
        split at j
        ·rename_i r B
         rw[ZL] at j
         split at j
         ·rename_i O
          cases j
          have w:Ev true R fo (.fn f q):=by rw[← E];exact BO true R fo
          have A:AS P f (I++q) v:=am Z hb J.1 rfl O.1 J.2.2 (sR J.2.1) (Od (F:=F) (Q:=Ff P fn.results.toList v) T hp (jn B))
          rcases O.2 with C | C
          ·exact Dz M w l (XX m) (λ_=>A) C
          ·refine EA M w l (WT U.toList C) (λ_=>?_)
           rw[← Zd m C];exact A
         ·cases j
        ·cases j
       ·cases j
      ·cases j
     ·cases j
    ·cases j
  ·cases j
 ·cases j
def UD(P:Program)(T:List (FuncId × Bool)):Prop:=∀p∈T,AS P p.1 [] (.r (.bool p.2))
def QP(T:List (FuncId × Bool))(R:AX)(o:Oper):Option AV:=match o.op with
 | .call ⟨.value fo,⟨[]⟩,_⟩=>match At R fo with
  | .fn f []=>match T.find? (λp=>Nat.beq p.1 f) with
   | some p=>some (.r (.bool p.2))
   | none=>none
  | _=>none
 | _=>none
theorem YB{T}(w:UD P T){R}{h}{n}{o}{r}(j:QP T R o=some r):Aw P true o R h n r h n:=by
 unfold QP at j
 split at j
 ·rename_i fo A B
  split at j
  ·rename_i f m
   split at j
   ·rename_i p hp
    cases j
    have C:=tg hp
    have E:p.1=f:=rX (by have:=List.find?_some hp;exact this)
    have l:Ev true R fo (.fn f []):=by rw[← m];exact BO true R fo
    have q:=w p C
    rw[E] at q
    exact Dz (caps:=[]) (bs:=[]) B l rfl trivial (λ_=>q) rfl
   ·cases j
  ·cases j
 ·cases j
def Kk(P:Program)(T:List (FuncId × Bool))(F X:List Nat):Nat→Lv
  | 0 => ⟨Pb P, λ_ _ _ => none⟩
  | l+1 =>
    ⟨λR h n o => match Pb P R h n o with
      | some r => some r
      | none => match QP T R o with
        | some v => some (v, h, n)
        | none => match Rf P F X (Kk P T F X l) R h o with
          | some v => some (v, h, n)
          | none => Ut P F (Kk P T F X l) R h n o,
     λR h o => match QP T R o with
      | some v => some v
      | none => Rf P F X (Kk P T F X l) R h o⟩
theorem W3{T}{F X}(q:P.follows .mixedOrders=true)(w:UD P T):∀l:Nat,Km P (Kk P T F X l)
 | 0=>⟨Yw,λR h o v j=>by cases j⟩
 | l+1=>by
  have A:=W3 q w l (F:=F) (X:=X)
  refine⟨λR h n o r j=>?_,λR h o v j n=>?_⟩
  ·unfold Kk at j
   dsimp only at j
   split at j
   ·rename_i B m;cases j;exact Yw R h n o _ m
   ·split at j
    ·rename_i v m;cases j;exact YB w m
    ·split at j
     ·rename_i v m;cases j;exact X6 q A _ _ _ _ m _
     ·exact de q A j
  ·unfold Kk at j
   dsimp only at j
   split at j
   ·rename_i C m;cases j;exact YB w m
   ·exact X6 q A _ _ _ _ j _
theorem AS.runX {f} {fn : Func} {code} {N} {b} (T : List (FuncId × Bool)) (q : UD P T) (F X : List Nat) (l n : Nat) (m : P.follows .mixedOrders = true) (w : P.funcs[f]? = some fn) (A : fn.body = some code) (j : (fn.name == "runtime.NumGoroutine") = false) (B : fn.ntmps = N)
 (C:Sw fn.results.toList (Al.runX P F (Kk P T F X l) n (.code code [] ⟨[], [], 0, N⟩))=some b):AS P f [] (.r (.bool b)) :=
  am w A j B rfl rfl (sh _) (Od (F := F) (Q := Ff P fn.results.toList (.r (.bool b))) m (W3 m q l) (pq C))
end
theorem iL{α:Sort _}{x:α}{p:Prop} : x=x∨p:=.inl rfl
section
variable{P:Program}{ops:Array Oper}{rest:List Oper}{s:St}{K:St→Prop}{o:Oper}
theorem sQ{d}{v}(hg:(o.guard, o.dst, Nat.blt d s.N)=(none, some d, true))(j:AP P true o s.e s.h v)
 (l:AK P ops rest { e := (d, v)::s.e, h := s.h, n := s.n, N := s.N } K):AK P ops (o::rest) s K :=
  AK.step (sx hg).1 (sx (sx hg).2).1 (sx (sx hg).2).2 (AP.spec j _) l
end
theorem jL{α:Sort _}{x:α}{p q:Prop} : (x=x∨p)∨q:=.inl (.inl rfl)
theorem iR{c}{R}{x}{v}(h:A8 R x=.whn c v):Ev c R x v:=.inr ⟨c,id,h⟩
theorem nL{n:Nat} : n≤n:=rN n
theorem fR{α β:Sort _}{x:β}(_:α):x=x:=rfl
section
variable{P:Program}{ops:Array Oper}{rest:List Oper}{s:St}{K:St→Prop}{o:Oper}
theorem aZ(h:K s):AK P ops [] s K:=AK.nil h
end
section
variable{P:Program}{Q:Exit→St→Prop}{s:St}{x y:Code}
theorem aS(h:∀K:St→Prop,(∀s,AW P y Q s→K s)→(∀s j,Ah s j→K j→K s)→AW P x (Eg K Q) s):AW P (.seq x y) Q s:=qF h
theorem aR{id}{l:List Oper}(h:AK P l.toArray l s (Q .normal)):AW P (.region id l.toArray false) Q s:=AW.region h
theorem aC{c}{b}(hc:A8 s.e c=.r (.bool b))(j:b=true→AW P x Q s)(l:b=false→AW P y Q s):AW P (.cond c x y) Q s:=AW.cond hc j l
end
theorem fB{P}{c}{o:Oper}{R}{h}{t}{x}{f off}{id g j i k}{e}{cs}(l:o.op=.fieldAddr t x f)(m:Ai P t f off)(q:Ev c R x (.ptr id g i k))(w:c=true→hget h id=some (.box j e cs))
 (hg:j=g):AP P c o R h (.ptr id g i (k+off)) := HB (ob := .box j e cs) l m q w hg
@[reducible] def rI(k:Int):AV:=.r (.int .i64 k)
@[reducible] def rB(b:Bool):AV:=.r (.bool b)
@[reducible] def cZ:AV:=.cst (.slice none 0 0)
inductive Bh(e:AX):List Nat→AX→Prop
 | nil:Bh e [] []
 | cons {k:Nat} {ks:List Nat} {v:AV} {r:AX} (h:get e k=v) (t:Bh e ks r):Bh e (k::ks) ((k,v)::r)
inductive E6(e:AO):List Nat→AO→Prop
 | nil:E6 e [] []
 | cons {k:Nat} {ks:List Nat} {v:AU} {r:AO} (h:hget e k=some v) (t:E6 e ks r):E6 e (k::ks) ((k,some v)::r)
theorem Bh.cv{e}{ks}{e'}(h:Bh e ks e'):OQ e' e:=by
 induction h with
 | nil=>trivial
 | cons h _ j=>exact⟨.inl (.inl h),j⟩
theorem E6.cv{e}{ks}{e'}(h:E6 e ks e'):Oe e' e:=by
 induction h with
 | nil=>trivial
 | cons h _ j=>exact⟨.inl h,j⟩
section
variable{e:AX}{k:Nat}{ks:List Nat}{r:AX}
theorem kR{d}(t:Bh e ks r)(h:get e k=.r d):Bh e (k::ks) ((k,.r d)::r):=.cons h t
theorem kP{a b c d}(t:Bh e ks r)(h:get e k=.ptr a b c d):Bh e (k::ks) ((k,.ptr a b c d)::r):=.cons h t
theorem kO{a b}(t:Bh e ks r)(h:get e k=.own a b):Bh e (k::ks) ((k,.own a b)::r):=.cons h t
theorem kA{d}(t:Bh e ks r)(h:get e k=.agg d):Bh e (k::ks) ((k,.agg d)::r):=.cons h t
theorem kC{d}(t:Bh e ks r)(h:get e k=.cst d):Bh e (k::ks) ((k,.cst d)::r):=.cons h t
theorem kT{d}(t:Bh e ks r)(h:get e k=.tup d):Bh e (k::ks) ((k,.tup d)::r):=.cons h t
theorem kF{f}{d}(t:Bh e ks r)(h:get e k=.fn f d):Bh e (k::ks) ((k,.fn f d)::r):=.cons h t
theorem kQ{d}{i}(t:Bh e ks r)(h:get e k=.rop d i):Bh e (k::ks) ((k,.rop d i)::r):=.cons h t
theorem kM{a b}(t:Bh e ks r)(h:get e k=.mref a b):Bh e (k::ks) ((k,.mref a b)::r):=.cons h t
theorem kW{b}{v}(t:Bh e ks r)(h:get e k=.whn b v):Bh e (k::ks) ((k,.whn b v)::r):=.cons h t
theorem kK{a b c d f}(t:Bh e ks r)(h:get e k=.pk a b c d f):Bh e (k::ks) ((k,.pk a b c d f)::r):=.cons h t
theorem kU{a b c}{d}(t:Bh e ks r)(h:get e k=.fo a b c d):Bh e (k::ks) ((k,.fo a b c d)::r):=.cons h t
theorem kI{b}(t:Bh e ks r)(h:get e k=.ifc b):Bh e (k::ks) ((k,.ifc b)::r):=.cons h t
theorem kV{a b c}(t:Bh e ks r)(h:get e k=.pre a b c):Bh e (k::ks) ((k,.pre a b c)::r):=.cons h t
theorem kY{a b}(t:Bh e ks r)(h:get e k=.yld a b):Bh e (k::ks) ((k,.yld a b)::r):=.cons h t
theorem kL{xs}(t:Bh e ks r)(h:get e k=.full xs):Bh e (k::ks) ((k,.full xs)::r):=.cons h t
end
section
variable{e:AO}{k:Nat}{ks:List Nat}{r:AO}
theorem hB{g}{t}{cs}(t1:E6 e ks r)(h:hget e k=some (.box g t cs)):E6 e (k::ks) ((k,some (.box g t cs))::r):=.cons h t1
theorem hA{g}{t}{sz}{xs}(t1:E6 e ks r)(h:hget e k=some (.arr g t sz xs)):E6 e (k::ks) ((k,some (.arr g t sz xs))::r):=.cons h t1
theorem hC{o}(t1:E6 e ks r)(h:hget e k=some o):E6 e (k::ks) ((k,some o)::r):=.cons h t1
end
section
variable{P:Program}{Q:Exit→St→Prop}{x y:Code}
theorem aF{e:AX}{h:AO}{n N:Nat}(ks:List Nat){e':AX}(hr:AW P x Q ⟨e',[],n,N⟩)
  (he:Bh e ks e':=by repeat' first | exact Bh.nil | apply kR _ rfl | apply kP _ rfl | apply kA _ rfl | apply kO _ rfl | apply kC _ rfl | apply kT _ rfl | apply kF _ rfl | apply kQ _ rfl | apply kM _ rfl | apply kW _ rfl | apply kL _ rfl | apply kK _ rfl | apply kU _ rfl | apply kI _ rfl | apply kV _ rfl | apply kY _ rfl):AW P x Q ⟨e,h,n,N⟩:=
 AW.weak (Ah.cv (h':=[]) he.cv trivial (rN _)) hr
theorem aG{e:AX}{h:AO}{n N:Nat}(ks js:List Nat){e':AX}{h':AO}(hr:AW P x Q ⟨e',h',n,N⟩)
  (he:Bh e ks e':=by repeat' first | exact Bh.nil | apply kR _ rfl | apply kP _ rfl | apply kA _ rfl | apply kO _ rfl | apply kC _ rfl | apply kT _ rfl | apply kF _ rfl | apply kQ _ rfl | apply kM _ rfl | apply kW _ rfl | apply kL _ rfl | apply kK _ rfl | apply kU _ rfl | apply kI _ rfl | apply kV _ rfl | apply kY _ rfl)
  (hh:E6 h js h':=by repeat' first | exact E6.nil | apply hB _ rfl | apply hA _ rfl | apply hC _ rfl):AW P x Q ⟨e,h,n,N⟩:=
 AW.weak (Ah.cv he.cv hh.cv (rN _)) hr
end
section
variable{P:Program}{ops:Array Oper}{rest:List Oper}{K:St→Prop}{o o2:Oper}{e:AX}{h:AO}{n N:Nat}
theorem Bm(ks js:List Nat){e':AX}{h':AO}(hr:AK P ops rest ⟨e',h',n,N⟩ K)
  (he:Bh e ks e':=by repeat' first | exact Bh.nil | apply kR _ rfl | apply kP _ rfl | apply kA _ rfl | apply kO _ rfl | apply kC _ rfl | apply kT _ rfl | apply kF _ rfl | apply kQ _ rfl | apply kM _ rfl | apply kW _ rfl | apply kL _ rfl | apply kK _ rfl | apply kU _ rfl | apply kI _ rfl | apply kV _ rfl | apply kY _ rfl)
  (hh:E6 h js h':=by repeat' first | exact E6.nil | apply hB _ rfl | apply hA _ rfl | apply hC _ rfl):AK P ops rest ⟨e,h,n,N⟩ K:=
 AK.weak (Ah.cv he.cv hh.cv (rN _)) hr
end
section
variable{P:Program}{ops:Array Oper}{rest:List Oper}{K:St→Prop}{o o2:Oper}{s:St}
theorem vQ{d j m}{l b}{v}(hg:(o.guard, o.dst, Nat.blt d s.N, (ops[j]?).bind (·.dst), A8 s.e (.tmp m))=(some (j, l), some d, true, some m, .r (.bool b)))(q:AP P (b==l) o s.e s.h v)
 (w:AK P ops rest { e := (d, .whn (b==l) v)::s.e, h := s.h, n := s.n, N := s.N } K):AK P ops (o::rest) s K := by
  simp only[rW] at hg
  obtain⟨A, B, C, E, F⟩ := hg
  exact AK.stepW (.one A E F) B C (AP.spec q _) w
theorem wQ{d j q}{l b m}{v}(hg:(o.guard, o.dst, Nat.blt d s.N, (ops[j]?).bind (·.dst), A8 s.e (.tmp q))=(some (j, l), some d, true, some q, .whn m (.r (.bool b))))(w:AP P (m&&(b==l)) o s.e s.h v)
 (A:AK P ops rest { e := (d, .whn (m&&(b==l)) v)::s.e, h := s.h, n := s.n, N := s.N } K):AK P ops (o::rest) s K := by
  simp only[rW] at hg
  obtain⟨B, C, E, F, I⟩ := hg
  exact AK.stepW (.two B F I) C E (AP.spec w _) A
theorem qP{d}{v}(hg:(o.guard, o.dst, Nat.blt d s.N)=(none, some d, true))(j:AP P true o s.e s.h v)
 (l:AQ P ops rest { e := (d, v)::s.e, h := s.h, n := s.n, N := s.N } K):AQ P ops (o::rest) s K :=
  AQ.step (sx hg).1 (sx (sx hg).2).1 (sx (sx hg).2).2 j l
theorem qO{d j m}{l b}{v}(hg:(o.guard, o.dst, Nat.blt d s.N, (ops[j]?).bind (·.dst), A8 s.e (.tmp m))=(some (j, l), some d, true, some m, .r (.bool b)))(q:AP P (b==l) o s.e s.h v)
 (w:AQ P ops rest { e := (d, .whn (b==l) v)::s.e, h := s.h, n := s.n, N := s.N } K):AQ P ops (o::rest) s K := by
  simp only[rW] at hg
  obtain⟨A, B, C, E, F⟩ := hg
  exact AQ.stepW (.one A E F) B C q w
theorem qT{d j q}{l b m}{v}(hg:(o.guard, o.dst, Nat.blt d s.N, (ops[j]?).bind (·.dst), A8 s.e (.tmp q))=(some (j, l), some d, true, some q, .whn m (.r (.bool b))))(w:AP P (m&&(b==l)) o s.e s.h v)
 (A:AQ P ops rest { e := (d, .whn (m&&(b==l)) v)::s.e, h := s.h, n := s.n, N := s.N } K):AQ P ops (o::rest) s K := by
  simp only[rW] at hg
  obtain⟨B, C, E, F, I⟩ := hg
  exact AQ.stepW (.two B F I) C E w A
theorem sS{d}{v}{h'}{n'}(hg:(o.guard, o.dst, Nat.blt d s.N)=(none, some d, true))(j:Aw P true o s.e s.h s.n v h' n')
 (l:AK P ops rest { e := (d, v)::s.e, h := h', n := n', N := s.N } K):AK P ops (o::rest) s K :=
  AK.step (sx hg).1 (sx (sx hg).2).1 (sx (sx hg).2).2 j l
theorem lF{t t2}{x y}{f off id g i k d1 d2 id' l m}{e1 e2}{cs j}{a}(A:Ai P t f off)(B:BL P t2)
 (q:(o.guard, o.dst, Nat.blt d1 s.N, o.op, A8 s.e x, hget s.h id)=(none, some d1, true, .fieldAddr t x f, .ptr id g i k, some (.box g e1 cs)))
 (w:(o2.guard, o2.dst, Nat.blt d2 s.N, o2.op, A8 ((d1, .ptr id g i (k+off))::s.e) y, hget s.h id', j[m]?)=(none, some d2, true, .load t2 y, .ptr id' l 0 m, some (.box l e2 j), some a))
 (C:AK P ops rest { e := (d2, a)::(d1, .ptr id g i (k+off))::s.e, h := s.h, n := s.n, N := s.N } K):AK P ops (o::o2::rest) s K := by
  simp only[rW] at q w
  obtain⟨E, F, a3, a4, a5, I⟩ := q
  obtain⟨J, M, O, T, U, V, X⟩ := w
  exact AK.step E F a3 (AP.spec (HB (ob := .box g e1 cs) a4 A (.inl a5) (λ_ => I) rfl) _) (AK.step J M O (AP.spec (Ab T B (.inl U) V X) _) C)
theorem vF{t t2}{x y}{f off id g i k d1 d2 id' B C j E F l}{w b A m}{e1 e2}{cs q}{a}(M:Ai P t f off)(O:BL P t2)
 (I:(o.guard, o.dst, Nat.blt d1 s.N, (ops[j]?).bind (·.dst), A8 s.e (.tmp E), o.op, A8 s.e x, hget s.h id)=(some (j, w), some d1, true, some E, .r (.bool b), .fieldAddr t x f, .ptr id g i k, some (.box g e1 cs)))
 (J:(o2.guard, o2.dst, Nat.blt d2 s.N, (ops[F]?).bind (·.dst), A8 ((d1, .whn (b==w) (.ptr id g i (k+off)))::s.e) (.tmp l), o2.op, A8 ((d1, .whn (b==w) (.ptr id g i (k+off)))::s.e) y, hget s.h id', q[C]?)=(some (F, A), some d2, true, some l, .r (.bool m), .load t2 y, .whn (m==A) (.ptr id' B 0 C), some (.box B e2 q), some a))
 (T:AK P ops rest { e := (d2, .whn (m==A) a)::(d1, .whn (b==w) (.ptr id g i (k+off)))::s.e, h := s.h, n := s.n, N := s.N } K):AK P ops (o::o2::rest) s K := by
  simp only[rW] at I J
  obtain⟨U, V, a3, a4, a5, X, Z, a8⟩ := I
  obtain⟨b1, m, b3, b4, b5, b6, b7, b8, b9⟩ := J
  exact AK.stepW (.one U a4 a5) V a3 (AP.spec (HB (ob := .box g e1 cs) X M (.inl Z) (λ_ => a8) rfl) _) (AK.stepW (.one b1 b4 b5) m b3 (AP.spec (Ab b6 O (iR b7) b8 b9) _) T)
end
def aW:AV→Bool
 | .r _=>true
 | _=>false
theorem jH{l:List AV}(h:l.all aW=true):∃cs:List RV,l=cs.map .r:=by
 induction l with
 | nil=>exact⟨[],rfl⟩
 | cons a l j=>
  rw[uR,rO] at h
  obtain⟨cs,rfl⟩:=j h.2
  cases a with
  | r d=>exact⟨d::cs,rfl⟩
  | _=>exact Bool.noConfusion h.1
theorem Fz.g2{h}{a}{ds:List AV}(e:a=.agg ds)(e2:ds.all aW=true):Fz h a (.agg ds):=by
 obtain⟨l,j⟩:=jH e2
 exact .g e j
section
variable{P:Program}{ops:Array Oper}{rest:List Oper}{K:St→Prop}{o:Oper}{s:St}
theorem cL{d:Nat}{f:FuncId}{fo:Operand}{xs:Array Operand}{ats:Array TypeId}{bs:List AV}{r:AV}(hq:AS P f bs r)
  (hg:(o.guard,o.dst,Nat.blt d s.N,o.op,A8 s.e fo,r.flat)=(none,some d,true,.call { callee:=.value fo,args:=xs,argTypes:=ats },.fn f [],true))
  (hr:AK P ops rest { e:=(d,r)::s.e,h:=s.h,n:=s.n,N:=s.N } K)
  (hx:G5 true s.e s.h xs.toList bs:=by repeat' first | exact trivial | refine⟨⟨_,iL,.d rfl⟩,?_⟩ | refine⟨⟨_,iL,.g2 rfl rfl⟩,?_⟩ | refine⟨⟨_,iL,.one (.own rfl)⟩,?_⟩ | refine⟨⟨_,iR rfl,.d rfl⟩,?_⟩ | refine⟨⟨_,iR rfl,.g2 rfl rfl⟩,?_⟩):AK P ops (o::rest) s K:=by
 simp only[rW] at hg
 obtain⟨h1,h2,h3,h4,h5,h6⟩:=hg
 exact AK.step h1 h2 h3 (Dz (caps:=[]) h4 (.inl h5) rfl hx (λ_=>by rw[tA];exact hq) h6) hr
theorem vL{d j dj:Nat}{want b:Bool}{f:FuncId}{fo:Operand}{xs:Array Operand}{ats:Array TypeId}{bs:List AV}{r:AV}(hq:(b==want)=true→AS P f bs r)
  (hg:(o.guard,o.dst,Nat.blt d s.N,(ops[j]?).bind (·.dst),A8 s.e (.tmp dj),o.op,A8 s.e fo,r.flat)=(some (j,want),some d,true,some dj,.r (.bool b),.call { callee:=.value fo,args:=xs,argTypes:=ats },.fn f [],true))
  (hr:AK P ops rest { e:=(d,.whn (b==want) r)::s.e,h:=s.h,n:=s.n,N:=s.N } K)
  (hx:G5 (b==want) s.e s.h xs.toList bs:=by repeat' first | exact trivial | refine⟨⟨_,iL,.d rfl⟩,?_⟩ | refine⟨⟨_,iL,.g2 rfl rfl⟩,?_⟩ | refine⟨⟨_,iL,.one (.own rfl)⟩,?_⟩ | refine⟨⟨_,iR rfl,.d rfl⟩,?_⟩ | refine⟨⟨_,iR rfl,.g2 rfl rfl⟩,?_⟩):AK P ops (o::rest) s K:=by
 simp only[rW] at hg
 obtain⟨h1,h2,h3,h4,h5,h6,h7,h8⟩:=hg
 exact AK.stepW (.one h1 h4 h5) h2 h3 (Dz (caps:=[]) h6 (.inl h7) rfl hx (λhc=>by rw[tA];exact hq hc) h8) hr
end
section
variable{P:Program}{Q:Exit→St→Prop}{s:St}{x y:Code}
theorem aU{id}{l:List Oper}(h:AK P l.toArray l s λj=>AW P y Q j):AW P (.seq (.region id l.toArray false) y) Q s:=.seq (.region h)
theorem aT(h:∀ {K:St→Prop},(∀s,AW P y Q s→K s)→AW P x (Eg K Q) s):AW P (.seq x y) Q s:=ql λ_ j=>h j
theorem cI{α:Type}{b:Bool}{c:Operand}{X Y Z:α}(hc:A8 s.e c=.r (.bool b))(h:(if b=true then X else Y)=Z)(j:X=Z→AW P x Q s)(l:Y=Z→AW P y Q s):AW P (.cond c x y) Q s:=
 AW.cond hc (λe=>j (EQ e h)) (λe=>l (EM e h))
end
theorem mF{P:Program}{f}{fn:Func}{code}{args:List AV}{r:AV}{N}(l:P.funcs[f]?=some fn)(m:fn.ntmps=N)
 (j : (fn.body, fn.name == "runtime.NumGoroutine", r.closed, Nat.ble args.length N) = (some code, false, true, true)) (hw : ∀ q, AW P code (Ff P fn.results.toList r) ⟨Cu 0 args, [], q, N⟩) : AS P f args r := by
  simp only[rW] at j
  obtain⟨w, A, B, C⟩ := j
  exact qD l w A m B (sR C) hw
theorem oZ{P}{ops}{s}{K}{y}{Q}(j:∀s,AW P y Q s→K s)(h:AW P y Q s):AK P ops [] s K:=AK.nil (j _ h)
def WS(t i:Nat):List PO→Nat→Option Nat→Option Nat
 | [],_,r=>r
 | p::L,k,r=>match Nat.blt k i with
  | true=>WS t i L (k+1) (match p.d with
   | some d=>(match Nat.beq d t with
    | true=>some k
    | false=>r)
   | none=>r)
  | false=>r
def ZY(t i:Nat):List PO→Nat→Option Nat→Option Nat
 | [],_,r=>r
 | p::L,k,r=>match Nat.blt k i with
  | true=>ZY t i L (k+1) (match p.hp with
   | some (d,_)=>(match Nat.beq d t with
    | true=>some k
    | false=>r)
   | none=>r)
  | false=>r
section
variable{P:Program}{ops:Array Oper}{s:St}{L:List PO}{i:Nat}{p:PO}{o:Oper}
theorem Q5{D}{G}{e}{t j}(l:Bi ops D i)(_:WS t i L 0 none=some j){p:PO}{a}(m:L[j]?=some p)(hd:p.d=some t)(hw:wt ops 40 i j=true)(hB:I0 (L.drop (j+1)) t=true)(q:p.v G=a):get (CI D G e L) t=a:=YG l j m hd hw hB q
theorem RA{D}{G}{h}{t j}(l:Bi ops D i)(_:ZY t i L 0 none=some j){p:PO}{ob}{a}(m:L[j]?=some p)(hd:p.hp=some (t,ob))(hw:wt ops 40 i j=true)(hB:MR ops i t (L.drop (j+1)) (j+1)=true)(q:ob G=a):hget (Dk D G h L) t=a:=me l j m hd hw hB q
theorem oB(ie:AX)(ih:AO)(h:∀ {G e h'},AP P true o (ie++e) (ih++h') (p.v G))
  (hg:o.guard=none:=by rfl) (hd:o.dst=p.d:=by rfl) (hN:∀d,p.d=some d→Nat.blt d s.N=true:=by intro d h;cases h<;>rfl) (hp:p.hp=none:=by rfl) (hv:∀G n,p.v (Cy G i n)=p.v G:=by intros;rfl)
  (hE:∀D G,Bi ops D i→Gt (CI D G s.e L) ie:=by intro _ _ hr;repeat' first | exact trivial | refine⟨Pz rfl rfl,?_⟩ | refine⟨Q5 hr rfl rfl rfl (by kernel_rfl) rfl rfl,?_⟩ | refine⟨Rt hr (by kernel_rfl) rfl,?_⟩)
  (hH:∀D G,Bi ops D i→Gj (Dk D G s.h L) ih:=by intro _ _ hr;repeat' first | exact trivial | refine⟨Qs rfl rfl,?_⟩ | refine⟨RA hr rfl rfl rfl (by kernel_rfl) (by kernel_rfl) rfl,?_⟩ | refine⟨Rg hr (by kernel_rfl) rfl,?_⟩):Ob P ops s L i p o:=
 VO (n1:=λn=>n) hg hd hN hp (λ_=>ie) (λ_=>ih) hE hH hv λ_ _ _ _=>AP.spec h _
theorem oC(ie:(Nat→Nat)→AX)(ih:(Nat→Nat)→AO)(h:∀G e h',AP P true o (ie G++e) (ih G++h') (p.v G))
  (hg:o.guard=none:=by rfl) (hd:o.dst=p.d:=by rfl) (hN:∀d,p.d=some d→Nat.blt d s.N=true:=by intro d h;cases h<;>rfl) (hp:p.hp=none:=by rfl) (hv:∀G n,p.v (Cy G i n)=p.v G:=by intros;rfl)
  (hE:∀D G,Bi ops D i→Gt (CI D G s.e L) (ie G):=by intro _ _ hr;repeat' first | exact trivial | refine⟨Pz rfl rfl,?_⟩ | refine⟨Q5 hr rfl rfl rfl (by kernel_rfl) rfl rfl,?_⟩ | refine⟨Rt hr (by kernel_rfl) rfl,?_⟩)
  (hH:∀D G,Bi ops D i→Gj (Dk D G s.h L) (ih G):=by intro _ _ hr;repeat' first | exact trivial | refine⟨Qs rfl rfl,?_⟩ | refine⟨RA hr rfl rfl rfl (by kernel_rfl) (by kernel_rfl) rfl,?_⟩ | refine⟨Rg hr (by kernel_rfl) rfl,?_⟩):Ob P ops s L i p o:=
 VO (n1:=λn=>n) hg hd hN hp ie ih hE hH hv λG e h' _=>AP.spec (h G e h') _
theorem oD(ie:(Nat→Nat)→AX)(ih:(Nat→Nat)→AO){n1:Nat→Nat}(h:∀G e h' n,Aw P true o (ie G++e) (ih G++h') n (p.v G) (ih G++h') (n1 n))
  (hg:o.guard=none:=by rfl) (hd:o.dst=p.d:=by rfl) (hN:∀d,p.d=some d→Nat.blt d s.N=true:=by intro d h;cases h<;>rfl) (hp:p.hp=none:=by rfl) (hv:∀G n,p.v (Cy G i n)=p.v G:=by intros;rfl)
  (hE:∀D G,Bi ops D i→Gt (CI D G s.e L) (ie G):=by intro _ _ hr;repeat' first | exact trivial | refine⟨Pz rfl rfl,?_⟩ | refine⟨Q5 hr rfl rfl rfl (by kernel_rfl) rfl rfl,?_⟩ | refine⟨Rt hr (by kernel_rfl) rfl,?_⟩)
  (hH:∀D G,Bi ops D i→Gj (Dk D G s.h L) (ih G):=by intro _ _ hr;repeat' first | exact trivial | refine⟨Qs rfl rfl,?_⟩ | refine⟨RA hr rfl rfl rfl (by kernel_rfl) (by kernel_rfl) rfl,?_⟩ | refine⟨Rg hr (by kernel_rfl) rfl,?_⟩):Ob P ops s L i p o:=
 VO hg hd hN hp ie ih hE hH hv h
theorem oM{id:Nat}{ob:(Nat→Nat)→Option AU}{n1:Nat→Nat}(ie:(Nat→Nat)→AX)(ih:(Nat→Nat)→AO)(hp:p.hp=some (id,ob))(h:∀(G:Nat→Nat) e h' n,Aw P true o (ie G++e) (ih G++h') n (p.v (Cy G i n)) ((id,ob (Cy G i n))::(ih G++h')) (n1 n))
  (hg:o.guard=none:=by rfl) (hd:o.dst=p.d:=by rfl) (hN:∀d,p.d=some d→Nat.blt d s.N=true:=by intro d h;cases h<;>rfl)
  (hE:∀D G,Bi ops D i→Gt (CI D G s.e L) (ie G):=by intro _ _ hr;repeat' first | exact trivial | refine⟨Pz rfl rfl,?_⟩ | refine⟨Q5 hr rfl rfl rfl (by kernel_rfl) rfl rfl,?_⟩ | refine⟨Rt hr (by kernel_rfl) rfl,?_⟩)
  (hH:∀D G,Bi ops D i→Gj (Dk D G s.h L) (ih G):=by intro _ _ hr;repeat' first | exact trivial | refine⟨Qs rfl rfl,?_⟩ | refine⟨RA hr rfl rfl rfl (by kernel_rfl) (by kernel_rfl) rfl,?_⟩ | refine⟨Rg hr (by kernel_rfl) rfl,?_⟩):Ob P ops s L i p o:=
 qi hg hd hN hp ie ih hE hH h
end
@[reducible] def pO(d:Nat)(v:AV):PO:=⟨some d,λ_=>v,none,[]⟩
theorem rP{P:Program}{id:Nat}{l:List Oper}{s:St}{Q:Exit→St→Prop}(n:Nat)(L:List PO){lt:List Oper}(hm:P.follows .mixedOrders=true)(e4:l.drop n=lt)(hOb:Ju P l.toArray s L 0 L l)
  (h:∀(G:Nat→Nat) (n':Nat),AK P l.toArray lt ⟨CI (λ_=>true) G s.e L,Dk (λ_=>true) G s.h L,n',s.N⟩ (Q .normal)) (hB:Sn l.toArray n L=true:=by kernel_rfl)
  (hLoc:HW L:=by repeat' first | exact trivial | refine⟨λ_ _ _=>⟨rfl,λ_ _ e=>by cases e<;>rfl⟩,?_⟩):AW P (.region id l.toArray true) Q s:=JT n L hm hB hLoc e4 hOb h
theorem wk{s s'}(h:Ah s s':=by refine Ah.cv ?_ ?_ nL<;>repeat (first | exact trivial | refine⟨jL,?_⟩ | refine⟨.inl rfl,?_⟩)):Ah s s':=h
section
variable{P:Program}{ops:Array Oper}{rest:List Oper}{K:St→Prop}{o:Oper}{s:St}
theorem mM{d}{x}(hg:(o.guard,o.dst,Nat.blt d s.N,o.op)=(none,some d,true,.move x))(j:AK P ops rest { e:=(d,A8 s.e x)::s.e,h:=s.h,n:=s.n,N:=s.N } K):AK P ops (o::rest) s K:=by
 simp only[rW] at hg
 obtain⟨l,m,q,w⟩:=hg
 exact AK.step l m q (AP.spec (AL w (.inl rfl)) _) j
theorem mA{d}{x}(hg:(o.guard,o.dst,Nat.blt d s.N,o.op)=(none,some d,true,.assign x))(j:AK P ops rest { e:=(d,A8 s.e x)::s.e,h:=s.h,n:=s.n,N:=s.N } K):AK P ops (o::rest) s K:=by
 simp only[rW] at hg
 obtain⟨l,m,q,w⟩:=hg
 exact AK.step l m q (AP.spec (D7 w (.inl rfl)) _) j
theorem vM{d j m}{l b}{x}(hg:(o.guard, o.dst, Nat.blt d s.N, (ops[j]?).bind (·.dst), A8 s.e (.tmp m), o.op)=(some (j, l), some d, true, some m, .r (.bool b), .move x))
 (q:AK P ops rest { e := (d, .whn (b==l) (A8 s.e x))::s.e, h := s.h, n := s.n, N := s.N } K):AK P ops (o::rest) s K := by
  simp only[rW] at hg
  obtain⟨w, A, B, C, E, F⟩ := hg
  exact AK.stepW (.one w C E) A B (AP.spec (AL F (.inl rfl)) _) q
end
section
variable{P:Program}{ops:Array Oper}{rest:List Oper}{K:St→Prop}{o:Oper}{s:St}{d:Nat}{x y:Operand}
theorem one{v}(hg:o.guard=none)(hd:o.dst=some d)(j:Nat.blt d s.N=true)(l:AP P true o s.e s.h v)(m:AK P ops rest { e:=(d,v)::s.e,h:=s.h,n:=s.n,N:=s.N } K):AK P ops (o::rest) s K:=AK.step hg hd j (AP.spec l _) m
theorem xI{α:Type}{f}{t e}{sz b}{l:List α}{k}{z}{a}(m:Bn P t e sz b)(hg:(o.guard, o.dst, Nat.blt d s.N, o.op, A8 s.e x, A8 s.e y)=(none, some d, true, .indexAddr t x y, .r (.sl (l.map f)), .r (.int k z)))
 (q:AN l z=some a) (w:AK P ops rest { e := (d, .rop (f a) 0)::s.e, h := s.h, n := s.n, N := s.N } K) (j:∀a, (f a).length=sz := by intro _;rfl):AK P ops (o::rest) s K := by
  simp only[rW] at hg
  exact one hg.1 hg.2.1 hg.2.2.1 (BK hg.2.2.2.1 m.slice (.inl hg.2.2.2.2.1) (.inl hg.2.2.2.2.2) j λ_ => q) w
theorem xL{α:Type}{f}{t e}{sz b}{l:List α}(j:Bn P t e sz b)(hg:(o.guard, o.dst, Nat.blt d s.N, o.op, A8 s.e x)=(none, some d, true, .call { callee := .builtin .len, args := #[x], argTypes := #[t] }, .r (.sl (l.map f))))
 (m:AK P ops rest { e := (d, .r (.int .i64 l.length))::s.e, h := s.h, n := s.n, N := s.N } K):AK P ops (o::rest) s K := by
  simp only[rW] at hg
  exact one hg.1 hg.2.1 hg.2.2.1 (Dl hg.2.2.2.1 j.slice (.inl hg.2.2.2.2)) m
theorem xA{t j}{k}{a b r}(hg:(o.guard, o.dst, Nat.blt d s.N, o.op, A8 s.e x, A8 s.e y)=(none, some d, true, .binOp .add t x y j, .r (.int k a), .r (.int k b)))
 (l:AY k (a+b)=some r) (m:AK P ops rest { e := (d, .r (.int k r))::s.e, h := s.h, n := s.n, N := s.N } K):AK P ops (o::rest) s K := by
  simp only[rW] at hg
  exact one hg.1 hg.2.1 hg.2.2.1 (KF hg.2.2.2.1 (.inl hg.2.2.2.2.1) (.inl hg.2.2.2.2.2) λ_ => l) m
theorem xN{a b}(hg:(o.guard, o.dst, Nat.blt d s.N, o.op, A8 s.e x, A8 s.e y)=(none, some d, true, .pick x y (.const (.bool false)), .r (.bool a), .whn (a==true) (.r (.bool b))))
 (j:AK P ops rest { e := (d, .r (.bool (a&&b)))::s.e, h := s.h, n := s.n, N := s.N } K):AK P ops (o::rest) s K := by
  simp only[rW] at hg
  exact one hg.1 hg.2.1 hg.2.2.1 (BS hg.2.2.2.1 (.inl hg.2.2.2.2.1) (iR hg.2.2.2.2.2)) j
theorem xO{a b}(hg:(o.guard, o.dst, Nat.blt d s.N, o.op, A8 s.e x, A8 s.e y)=(none, some d, true, .pick x (.const (.bool true)) y, .r (.bool a), .whn (a==false) (.r (.bool b))))
 (j:AK P ops rest { e := (d, .r (.bool (a||b)))::s.e, h := s.h, n := s.n, N := s.N } K):AK P ops (o::rest) s K := by
  simp only[rW] at hg
  exact one hg.1 hg.2.1 hg.2.2.1 (CN hg.2.2.2.1 (.inl hg.2.2.2.2.1) (iR hg.2.2.2.2.2)) j
theorem xB{t}{row:List RV}{sz}(cs:List AV)(j:Bb P t sz)(hg:(o.guard, o.dst, Nat.blt d s.N, o.op, A8 s.e x, row.length, row.map AV.r)=(none, some d, true, .load t x, .rop row 0, sz, cs))
 (l:AK P ops rest { e := (d, .agg cs)::s.e, h := s.h, n := s.n, N := s.N } K):AK P ops (o::rest) s K := by
  simp only[rW] at hg
  exact one hg.1 hg.2.1 hg.2.2.1 (ET hg.2.2.2.1 j (.inl hg.2.2.2.2.1) hg.2.2.2.2.2.1 hg.2.2.2.2.2.2) l
theorem xC{t}{id g}{e}{sz}{cs:List AV}(j:Bb P t sz)(hg:(o.guard, o.dst, Nat.blt d s.N, o.op, A8 s.e x, hget s.h id, cs.length)=(none, some d, true, .load t x, .ptr id g 0 0, some (.box g e cs), sz))
 (l:AK P ops rest { e := (d, .agg cs)::s.e, h := s.h, n := s.n, N := s.N } K):AK P ops (o::rest) s K := by
  simp only[rW] at hg
  exact one hg.1 hg.2.1 hg.2.2.1 (Dr hg.2.2.2.1 j (.inl hg.2.2.2.2.1) hg.2.2.2.2.2.1 hg.2.2.2.2.2.2) l
theorem xV{t}{row}{k}(r:RV)(j:BL P t)(hg:(o.guard, o.dst, Nat.blt d s.N, o.op, A8 s.e x, row[k]?)=(none, some d, true, .load t x, .rop row k, some r))
 (l:AK P ops rest { e := (d, .r r)::s.e, h := s.h, n := s.n, N := s.N } K):AK P ops (o::rest) s K := by
  simp only[rW] at hg
  exact one hg.1 hg.2.1 hg.2.2.1 (Bj hg.2.2.2.1 j (.inl hg.2.2.2.2.1) hg.2.2.2.2.2) l
theorem xX{vs}{i}{a}(hg:(o.guard, o.dst, Nat.blt d s.N, o.op, A8 s.e x, vs[i]?)=(none, some d, true, .extract x i, .tup vs, some a))
 (j:AK P ops rest { e := (d, a)::s.e, h := s.h, n := s.n, N := s.N } K):AK P ops (o::rest) s K := by
  simp only[rW] at hg
  exact one hg.1 hg.2.1 hg.2.2.1 (PJ hg.2.2.2.1 (.inl hg.2.2.2.2.1) hg.2.2.2.2.2) j
theorem xS{t j}{k}{a b}(hg:(o.guard, o.dst, Nat.blt d s.N, o.op, A8 s.e x, A8 s.e y)=(none, some d, true, .binOp .lss t x y j, .r (.int k a), .r (.int k b)))
 (l:AK P ops rest { e := (d, .r (.bool (decide (a<b))))::s.e, h := s.h, n := s.n, N := s.N } K):AK P ops (o::rest) s K := by
  simp only[rW] at hg
  exact one hg.1 hg.2.1 hg.2.2.1 (Bu hg.2.2.2.1 (.inl hg.2.2.2.2.1) (.inl hg.2.2.2.2.2)) l
theorem xQ{t j}{k}{a b}(hg:(o.guard, o.dst, Nat.blt d s.N, o.op, A8 s.e x, A8 s.e y)=(none, some d, true, .binOp .eql t x y j, .r (.int k a), .r (.int k b)))
 (l:AK P ops rest { e := (d, .r (.bool (decide (a=b))))::s.e, h := s.h, n := s.n, N := s.N } K):AK P ops (o::rest) s K := by
  simp only[rW] at hg
  exact one hg.1 hg.2.1 hg.2.2.1 (BE hg.2.2.2.1 (.inl hg.2.2.2.2.1) (.inl hg.2.2.2.2.2)) l
theorem xU{t j}{k}{a b}(hg:(o.guard, o.dst, Nat.blt d s.N, o.op, A8 s.e x, A8 s.e y)=(none, some d, true, .binOp .neq t x y j, .r (.int k a), .r (.int k b)))
 (l:AK P ops rest { e := (d, .r (.bool (!(a=b))))::s.e, h := s.h, n := s.n, N := s.N } K):AK P ops (o::rest) s K := by
  simp only[rW] at hg
  exact one hg.1 hg.2.1 hg.2.2.1 (C0 hg.2.2.2.1 (.inl hg.2.2.2.2.1) (.inl hg.2.2.2.2.2)) l
end
theorem xH{ρ α:Type}{o:ρ}{v:α ⊕ ρ}{q:ρ}(j:∀q,v=.inr q→o=q)(h:some (.inr q)=some v):o=q:=j _ (rn h).symm
theorem ZK{P}{T r}{s:St}{t}(e:some T=some r)(h:get s.e t=rI T):Ff P [.tmp t] (rI r) .ret s:=Cb (λr=>rI r) e (.inl rfl) (.t (.d h))
theorem Y3{P}{T r}{s:St}{t}(e:some T=some r)(h:get s.e t=rB T):Ff P [.tmp t] (rB r) .ret s:=Cb (λr=>rB r) e (.inl rfl) (.t (.d h))
theorem zI{P}{T r}{s:St}{t id}{x}{o:Oper}{Q}(e:some T=some r)(h:(o.guard, o.dst, Nat.blt t s.N, o.op, A8 s.e x)=(none, some t, true, .assign x, rI T))
 (k:Ff P [.tmp t] (rI r) .ret { e := (t, A8 s.e x)::s.e, h := s.h, n := s.n, N := s.N } → Q .ret { e := (t, A8 s.e x)::s.e, h := s.h, n := s.n, N := s.N }):AW P (.seq (.region id [o].toArray false) .ret) Q s := by
  simp only[rW] at h
  refine aU (AK.step h.1 h.2.1 h.2.2.1 (AP.spec (D7 h.2.2.2.1 (.inl rfl)) _) (AK.nil (AW.ret (k (ZK e ?_)))))
  show get (_::_) t=_
  unfold get
  rw[vD]
  exact h.2.2.2.2
theorem zB{P}{T r}{s:St}{t id}{x}{o:Oper}{Q}(e:some T=some r)(h:(o.guard, o.dst, Nat.blt t s.N, o.op, A8 s.e x)=(none, some t, true, .assign x, rB T))
 (k:Ff P [.tmp t] (rB r) .ret { e := (t, A8 s.e x)::s.e, h := s.h, n := s.n, N := s.N } → Q .ret { e := (t, A8 s.e x)::s.e, h := s.h, n := s.n, N := s.N }):AW P (.seq (.region id [o].toArray false) .ret) Q s := by
  simp only[rW] at h
  refine aU (AK.step h.1 h.2.1 h.2.2.1 (AP.spec (D7 h.2.2.2.1 (.inl rfl)) _) (AK.nil (AW.ret (k (Y3 e ?_)))))
  show get (_::_) t=_
  unfold get
  rw[vD]
  exact h.2.2.2.2
@[reducible] def rL{α:Type}(l:List α):AV:=rI (l.length:Int)
@[reducible] def rS(l:List UInt8):AV:=.r (.str l)
abbrev NN:=Nat→Nat
open Go.WideShapes
section
variable{H:Type}(K:GN H){enc:TypeId × Value→H}{P:Program}{W:World}
theorem kJ{t:TypeId}{w:Array Field}{α:Type}{f:α→List RV}{ok:α→Prop}{μ:α→Nat}{v:Value}{d:DataW H}{p:List MemPlace}{r:Reach}{A:Nat}(B:P.underlying t=some (.struct w))(C:BW K enc P W t f ok μ)
  (j:Value.okWide P W r A t v) (h:DataW.Trod enc P W 0 (λ_=>true) true t v d p):∃a,ok a∧AM (Cx.start W) (.agg ((f a).map .r)) v∧μ a≤K.B d:=by
 obtain⟨O,rfl,_⟩:=okWide_struct B j
 obtain⟨l,E⟩:=h
 obtain⟨a,F,m,I⟩:=C l _ _ E
 refine⟨a,F,.agg ?_ λi c u q J=>?_,I⟩
 ·have:=m.1
  rw[rx,← this];rfl
 ·rw[rT,rU] at q
  obtain⟨M,hd,rfl⟩:=q
  exact .r (m.2 i M u hd (by rw[← J];exact sK))
end
end Go.Proofs.YtmeadkhpiobenaaGreatDoor.Al

namespace Go.Proofs.YtmeadkhpiobenaaGreatDoor.Al
open Go.Lib
theorem YE{W:World}{g}{row}(h:∀j d,row[j]?=some d→∃v,W.cell? ⟨g,j,none⟩=some v∧A4 W (· < W.heap.size) d v):AM (Cx.start W) (.rop row 0) (.pointer (some ⟨g,0,none⟩)):=by
 have q:row≠[]→g<W.heap.size:=by
  intro w
  obtain⟨d,hd⟩:∃d,row[0]?=some d:=by
   cases row with
   | nil=>exact absurd rfl w
   | cons d r=>exact⟨d,rfl⟩
  obtain⟨v,l,_⟩:=h 0 d hd
  unfold World.cell? at l
  rcases th g W.heap.size with m | m
  ·exact m
  ·rw[tG m] at l;cases l
 exact AM.rop (x:=Cx.start W) (row:=row) (k:=0) (b:=g) (off:=0) (λj=>(W.cell? ⟨g,j,none⟩).getD undef) q
  (λj d A=>by obtain⟨v,l,_⟩:=h j d A;rw[ru];show W.cell? _=_;rw[l];rfl)
  (λj d A=>by obtain⟨v,l,m⟩:=h j d A;rw[l];exact m)
theorem Wg{α β:Type}(f:α→β):∀(l:List α) (j:Nat),(l.flatMap λz=>[f z])[j]?=(l[j]?).map f
 | [],j=>by simp
 | x::l,0=>by simp
 | x::l,j+1=>by
  have:=Wg f l j
  rw[su,List.singleton_append,tC,this,tC]
theorem W4{α β:Type}(f g:α→β):∀(l:List α) (j:Nat) (d:β),(l.flatMap λz=>[f z,g z])[j]?=some d→∃i a,l[i]?=some a∧((j=2 * i∧d=f a)∨(j=2 * i+1∧d=g a))
 | [],j,d,h=>by simp at h
 | x::l,0,d,h=>by
  have:f x=d:=by simpa using h
  exact⟨0,x,rfl,.inl ⟨rfl,this.symm⟩⟩
 | x::l,1,d,h=>by
  have:g x=d:=by simpa using h
  exact⟨0,x,rfl,.inr ⟨rfl,this.symm⟩⟩
 | x::l,j+2,d,h=>by
  rw[su] at h
  have w:(l.flatMap λz=>[f z,g z])[j]?=some d:=by simpa using h
  obtain⟨i,a,A,m⟩:=W4 f g l j d w
  refine⟨i+1,a,by simpa using A,?_⟩
  rcases m with ⟨m,q⟩ | ⟨m,q⟩
  ·exact .inl ⟨by omega,q⟩
  ·exact .inr ⟨by omega,q⟩
theorem pg{P:Program}{W:World}{w}{k}{A:List Int}{g n}{t e}{d}(C:VarReads P W w d)(l:d=tabData k A)(n1:P.globalNamed w=some g)
 (E:(P.globals[g]?).map (·.type)=some t) (F:P.underlying t=some (.array n e)) (I:P.underlying e=some (.int k)) (ce:P.cellsOf e=1) (J:P.cellsOf t=n):∃t p, W.heap[g]?=some (.cells ((A.map λz => Value.int k z).toArray) t p) := by
  obtain⟨U, V, X, B, p, hg, m, j, hd⟩ := C
  obtain rfl := rn (n1.symm.trans hg)
  obtain rfl := rn (E.symm.trans m)
  subst l
  have q := cells_of_tab F I ce J hd
  unfold World.var? at j
  rw[n1] at j
  simp only[sD] at j
  split at j
  · rename_i c M O T
    cases j
    refine⟨M, O, ?_⟩
    rw[T, ← q]
  · cases j
theorem bQ {P : Program} {W : World} {d1 d2 : DataW Unit} {t1 t2 e1 e2 : TypeId} {fs : Array Field} (h1 : VarReads P W "unicode/utf8.first" d1) (hd1 : d1 = tabData .u8 F5) (n1 : P.globalNamed "unicode/utf8.first" = some IO)
  (y1:(P.globals[IO]?).map (·.type)=some t1) (u1:P.underlying t1=some (.array 256 e1)) (ue:P.underlying e1=some (.int .u8)) (ce:P.cellsOf e1=1) (ct:P.cellsOf t1=256)
  (h2 : VarReads P W "unicode/utf8.acceptRanges" d2) (hd2 : d2 = .agg (Iy.map fun p => .agg ([p.1, p.2].map fun z => .lit (.int .u8 z)))) (n2 : P.globalNamed "unicode/utf8.acceptRanges" = some IB)
  (y2:(P.globals[IB]?).map (·.type)=some t2) (u2:P.underlying t2=some (.array 16 e2)) (us:P.underlying e2=some (.struct fs)) (hfs:∀(i:Nat) (f:Field),fs[i]?=some f→P.underlying f.type=some (.int .u8)∧f.offset=i∧P.cellsOf f.type=1)
  (hsz:fs.size=2) (c2:P.cellsOf e2=2)
  (hw:∀g cs,Qk g=some cs→0<cs.size∧∃t p,W.heap[g]?=some (.cells cs t p):=by intro _ _ h;cases h) (hF:U9 W:=by trivial):D4 (Cx.start W):=by
 refine⟨λg row hg=>?_,λg cs hg=>⟨?_,hw g cs hg⟩,W,hF,Go.RowKit.Below.refl _ _,λ_ h=>h⟩
 rotate_left
 ·obtain⟨_,t,p,h⟩:=hw g cs hg
  show g<W.heap.size
  exact(sC.1 h).1
 unfold Gn at hg
 by_cases hF:g=IO
 ·rw[rF hF] at hg
  cases hg
  subst hF
  obtain⟨g,t,cs,fuel,p,hg,hty,hvar,hd⟩:=h1
  obtain rfl:=rn (n1.symm.trans hg)
  obtain rfl:=rn (y1.symm.trans hty)
  subst hd1
  have hcs:=cells_of_tab u1 ue ce ct hd
  refine YE λj d hj=>?_
  rw[Wg,rU] at hj
  obtain⟨z,hz,rfl⟩:=hj
  refine⟨.int .u8 z,?_,.int _ _⟩
  rw[World.var?_cell hg hvar j,← sK,hcs,rT,hz];rfl
 ·rw[rE hF] at hg
  by_cases hA:g=IB
  ·rw[rF hA] at hg
   cases hg
   subst hA
   obtain⟨g,t,cs,fuel,p,hg,hty,hvar,hd⟩:=h2
   obtain rfl:=rn (n2.symm.trans hg)
   obtain rfl:=rn (y2.symm.trans hty)
   subst hd2
   refine YE λj d hj=>?_
   obtain⟨i,a,hi,hja⟩:=W4 _ _ _ _ _ hj
   have hil:i<16:=(rM.1 hi).1
   obtain⟨fuel',d',q,hdi,he⟩:=array_elem u2 hd i hil
   rw[rT,hi] at hdi
   cases hdi
   rw[c2] at he
   have hcs:=ints_of_struct us hfs (by rw[c2,hsz]) he
   have e0:=rh (·[0]?) hcs
   have e1:=rh (·[1]?) hcs
   simp only[sL,sF] at e0 e1
   rcases hja with ⟨rfl,rfl⟩ | ⟨rfl,rfl⟩
   ·refine⟨.int .u8 a.1,?_,.int _ _⟩
    rw[World.var?_cell hg hvar (2 * i),← sK]
    simpa[tO] using e0
   ·refine⟨.int .u8 a.2,?_,.int _ _⟩
    rw[World.var?_cell hg hvar (2 * i+1),← sK]
    simpa[tO] using e1
  ·rw[rE hA] at hg;cases hg
end Go.Proofs.YtmeadkhpiobenaaGreatDoor.Al
