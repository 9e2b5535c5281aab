/- The program logic, a part of it. -/
import Derived.Test.YtifgmfoihehlbaaGreatDoorAl2
import Derived.Lib.LaidU8
import Derived.Shelf.SlGeneric
import Derived.Shelf.SlSortCmp.NoneTotal
import Derived.Shelf.Strconv.AtoiAll
import Derived.Shelf.Strconv.Itoa3
import Derived.Shelf.Unicode.ValidAny
import Derived.Test.YtifgmfoihehlbaaGreatDoorProg
set_option linter.all false
namespace Go.Proofs.YtifgmfoihehlbaaGreatDoor.Al
open Go.Shelf Go.Proofs
def mI:Go.Shelf.Ren:=⟨fun | 196=>160 | 259=>174 | n=>n,fun | 9=>9 | 4=>4 | 3=>3 | 5=>5 | 12=>12 | 119=>206 | 0=>0 | 46=>158 | 139=>209 | 138=>208 | 53=>220 | n=>n,fun | 3=>0 | 4=>1 | n=>n⟩
theorem jn:Go.Proofs.Lays.n196 Tryz.prog mI:={
 mixed:=by kernel_rfl
 f196:=Tryz.func160.trans (ro some (by kernel_rfl))
 f259:=Tryz.func174.trans (ro some (by kernel_rfl))
 t0:=Tryz.underlying0
 a0:=Tryz.isAgg0
 z0:=Tryz.sizeOf0
 v0:=Tryz.zeroValue0
 t3:=Tryz.underlying3
 a3:=Tryz.isAgg3
 z3:=Tryz.sizeOf3
 v3:=Tryz.zeroValue3
 t4:=Tryz.underlying4
 a4:=Tryz.isAgg4
 z4:=Tryz.sizeOf4
 v4:=Tryz.zeroValue4
 t5:=Tryz.underlying5
 a5:=Tryz.isAgg5
 z5:=Tryz.sizeOf5
 v5:=Tryz.zeroValue5
 t9:=Tryz.underlying9
 a9:=Tryz.isAgg9
 z9:=Tryz.sizeOf9
 v9:=Tryz.zeroValue9
 t12:=Tryz.underlying12
 a12:=Tryz.isAgg12
 z12:=Tryz.sizeOf12
 v12:=Tryz.zeroValue12
 t46:=Tryz.underlying158
 a46:=Tryz.isAgg158
 z46:=Tryz.sizeOf158
 v46:=Tryz.zeroValue158
 t53:=Tryz.underlying220
 a53:=Tryz.isAgg220
 z53:=Tryz.sizeOf220
 v53:=Tryz.zeroValue220
 t119:=Tryz.underlying206
 a119:=Tryz.isAgg206
 z119:=Tryz.sizeOf206
 t138:=Tryz.underlying208
 a138:=Tryz.isAgg208
 z138:=Tryz.sizeOf208
 v138:=Tryz.zeroValue208
 t139:=Tryz.underlying209
 a139:=Tryz.isAgg209
 z139:=Tryz.sizeOf209
 v139:=Tryz.zeroValue209
 g3:=by kernel_rfl
 g4:=by kernel_rfl }
def pT:Go.Shelf.Ren:=⟨fun | 171=>156 | 243=>172 | 246=>185 | 283=>199 | 284=>200 | 285=>201 | 286=>202 | 129=>195 | 317=>210 | 318=>211 | 319=>212 | 320=>213 | 337=>215 | 338=>216 | n=>n,fun | 3=>3 | 9=>9 | 2=>2 | 4=>4 | 171=>238 | 0=>0 | 53=>220 | 37=>213 | 5=>5 | 173=>240 | 212=>255 | 51=>230 | 20=>20 | 213=>256 | 46=>158 | 232=>260 | 233=>261 | n=>n,fun | 17=>4 | 18=>5 | 19=>6 | n=>n⟩
theorem l6:Go.Proofs.LaysM.n171 Tryz.prog pT:={
 mixed:=by kernel_rfl
 f129:=Tryz.func195.trans (ro some (by kernel_rfl))
 f171:=Tryz.func156.trans (ro some (by kernel_rfl))
 f243:=Tryz.func172.trans (ro some (by kernel_rfl))
 f246:=Tryz.func185.trans (ro some (by kernel_rfl))
 f283:=Tryz.func199.trans (ro some (by kernel_rfl))
 f284:=Tryz.func200.trans (ro some (by kernel_rfl))
 f285:=Tryz.func201.trans (ro some (by kernel_rfl))
 f286:=Tryz.func202.trans (ro some (by kernel_rfl))
 f317:=Tryz.func210.trans (ro some (by kernel_rfl))
 f318:=Tryz.func211.trans (ro some (by kernel_rfl))
 f319:=Tryz.func212.trans (ro some (by kernel_rfl))
 f320:=Tryz.func213.trans (ro some (by kernel_rfl))
 f337:=Tryz.func215.trans (ro some (by kernel_rfl))
 f338:=Tryz.func216.trans (ro some (by kernel_rfl))
 t0:=Tryz.underlying0
 a0:=Tryz.isAgg0
 z0:=Tryz.sizeOf0
 v0:=Tryz.zeroValue0
 t2:=Tryz.underlying2
 a2:=Tryz.isAgg2
 z2:=Tryz.sizeOf2
 v2:=Tryz.zeroValue2
 t3:=Tryz.underlying3
 a3:=Tryz.isAgg3
 z3:=Tryz.sizeOf3
 v3:=Tryz.zeroValue3
 t4:=Tryz.underlying4
 a4:=Tryz.isAgg4
 z4:=Tryz.sizeOf4
 v4:=Tryz.zeroValue4
 t5:=Tryz.underlying5
 a5:=Tryz.isAgg5
 z5:=Tryz.sizeOf5
 v5:=Tryz.zeroValue5
 t9:=Tryz.underlying9
 a9:=Tryz.isAgg9
 z9:=Tryz.sizeOf9
 v9:=Tryz.zeroValue9
 t20:=Tryz.underlying20
 a20:=Tryz.isAgg20
 z20:=Tryz.sizeOf20
 v20:=Tryz.zeroValue20
 t37:=Tryz.underlying213
 a37:=Tryz.isAgg213
 z37:=Tryz.sizeOf213
 v37:=Tryz.zeroValue213
 t46:=Tryz.underlying158
 a46:=Tryz.isAgg158
 z46:=Tryz.sizeOf158
 v46:=Tryz.zeroValue158
 t51:=Tryz.underlying230
 a51:=Tryz.isAgg230
 z51:=Tryz.sizeOf230
 v51:=Tryz.zeroValue230
 t53:=Tryz.underlying220
 a53:=Tryz.isAgg220
 z53:=Tryz.sizeOf220
 v53:=Tryz.zeroValue220
 t171:=Tryz.underlying238
 a171:=Tryz.isAgg238
 z171:=Tryz.sizeOf238
 v171:=Tryz.zeroValue238
 t173:=Tryz.underlying240
 a173:=Tryz.isAgg240
 z173:=Tryz.sizeOf240
 v173:=Tryz.zeroValue240
 t212:=Tryz.underlying255
 a212:=Tryz.isAgg255
 z212:=Tryz.sizeOf255
 v212:=Tryz.zeroValue255
 t213:=Tryz.underlying256
 a213:=Tryz.isAgg256
 z213:=Tryz.sizeOf256
 t232:=Tryz.underlying260
 a232:=Tryz.isAgg260
 z232:=Tryz.sizeOf260
 v232:=Tryz.zeroValue260
 t233:=Tryz.underlying261
 a233:=Tryz.isAgg261
 z233:=Tryz.sizeOf261
 v233:=Tryz.zeroValue261
 g17:=by kernel_rfl
 g18:=by kernel_rfl
 g19:=by kernel_rfl
 i0:=by kernel_rfl
 i2:=by kernel_rfl
 i3:=by kernel_rfl
 i4:=by kernel_rfl
 i5:=by kernel_rfl
 i9:=by kernel_rfl
 i20:=by kernel_rfl
 i37:=by kernel_rfl
 i46:=by kernel_rfl
 i51:=by kernel_rfl
 i53:=by kernel_rfl
 i171:=by kernel_rfl
 i173:=by kernel_rfl
 i212:=by kernel_rfl
 i232:=by kernel_rfl
 i233:=by kernel_rfl
 m17:=by kernel_rfl
 m18:=by kernel_rfl
 m19:=by kernel_rfl }
def qJ:Go.Shelf.Ren:=⟨fun | 172=>155 | 244=>170 | 245=>171 | 247=>180 | 279=>181 | 280=>182 | 281=>183 | 282=>184 | 287=>196 | 316=>197 | 171=>156 | 205=>198 | 321=>208 | 322=>209 | 243=>172 | 246=>185 | 283=>199 | 284=>200 | 285=>201 | 286=>202 | 129=>195 | 317=>210 | 318=>211 | 319=>212 | 320=>213 | 337=>215 | 338=>216 | n=>n,fun | 9=>9 | 3=>3 | 75=>181 | 76=>182 | 4=>4 | 5=>5 | 167=>212 | 37=>213 | 0=>0 | 85=>214 | 2=>2 | 168=>216 | 53=>220 | 175=>232 | 46=>158 | 210=>236 | 127=>249 | 145=>252 | 143=>250 | 21=>21 | 171=>238 | 173=>240 | 212=>255 | 51=>230 | 20=>20 | 213=>256 | 232=>260 | 233=>261 | 80=>262 | n=>n,fun | 15=>2 | 16=>3 | 17=>4 | 18=>5 | 19=>6 | n=>n⟩
theorem pH:Go.Proofs.LaysC.n172 Tryz.prog qJ:={
 mixed:=by kernel_rfl
 f129:=Tryz.func195.trans (ro some (by kernel_rfl))
 f171:=Tryz.func156.trans (ro some (by kernel_rfl))
 f172:=Tryz.func155.trans (ro some (by kernel_rfl))
 f205:=Tryz.func198.trans (ro some (by kernel_rfl))
 f243:=Tryz.func172.trans (ro some (by kernel_rfl))
 f244:=Tryz.func170.trans (ro some (by kernel_rfl))
 f245:=Tryz.func171.trans (ro some (by kernel_rfl))
 f246:=Tryz.func185.trans (ro some (by kernel_rfl))
 f247:=Tryz.func180.trans (ro some (by kernel_rfl))
 f279:=Tryz.func181.trans (ro some (by kernel_rfl))
 f280:=Tryz.func182.trans (ro some (by kernel_rfl))
 f281:=Tryz.func183.trans (ro some (by kernel_rfl))
 f282:=Tryz.func184.trans (ro some (by kernel_rfl))
 f283:=Tryz.func199.trans (ro some (by kernel_rfl))
 f284:=Tryz.func200.trans (ro some (by kernel_rfl))
 f285:=Tryz.func201.trans (ro some (by kernel_rfl))
 f286:=Tryz.func202.trans (ro some (by kernel_rfl))
 f287:=Tryz.func196.trans (ro some (by kernel_rfl))
 f316:=Tryz.func197.trans (ro some (by kernel_rfl))
 f317:=Tryz.func210.trans (ro some (by kernel_rfl))
 f318:=Tryz.func211.trans (ro some (by kernel_rfl))
 f319:=Tryz.func212.trans (ro some (by kernel_rfl))
 f320:=Tryz.func213.trans (ro some (by kernel_rfl))
 f321:=Tryz.func208.trans (ro some (by kernel_rfl))
 f322:=Tryz.func209.trans (ro some (by kernel_rfl))
 f337:=Tryz.func215.trans (ro some (by kernel_rfl))
 f338:=Tryz.func216.trans (ro some (by kernel_rfl))
 t0:=Tryz.underlying0
 a0:=Tryz.isAgg0
 z0:=Tryz.sizeOf0
 v0:=Tryz.zeroValue0
 t2:=Tryz.underlying2
 a2:=Tryz.isAgg2
 z2:=Tryz.sizeOf2
 v2:=Tryz.zeroValue2
 t3:=Tryz.underlying3
 a3:=Tryz.isAgg3
 z3:=Tryz.sizeOf3
 v3:=Tryz.zeroValue3
 t4:=Tryz.underlying4
 a4:=Tryz.isAgg4
 z4:=Tryz.sizeOf4
 v4:=Tryz.zeroValue4
 t5:=Tryz.underlying5
 a5:=Tryz.isAgg5
 z5:=Tryz.sizeOf5
 v5:=Tryz.zeroValue5
 t9:=Tryz.underlying9
 a9:=Tryz.isAgg9
 z9:=Tryz.sizeOf9
 v9:=Tryz.zeroValue9
 t20:=Tryz.underlying20
 a20:=Tryz.isAgg20
 z20:=Tryz.sizeOf20
 v20:=Tryz.zeroValue20
 t21:=Tryz.underlying21
 a21:=Tryz.isAgg21
 z21:=Tryz.sizeOf21
 v21:=Tryz.zeroValue21
 t37:=Tryz.underlying213
 a37:=Tryz.isAgg213
 z37:=Tryz.sizeOf213
 v37:=Tryz.zeroValue213
 t46:=Tryz.underlying158
 a46:=Tryz.isAgg158
 z46:=Tryz.sizeOf158
 v46:=Tryz.zeroValue158
 t51:=Tryz.underlying230
 a51:=Tryz.isAgg230
 z51:=Tryz.sizeOf230
 v51:=Tryz.zeroValue230
 t53:=Tryz.underlying220
 a53:=Tryz.isAgg220
 z53:=Tryz.sizeOf220
 v53:=Tryz.zeroValue220
 t75:=Tryz.underlying181
 a75:=Tryz.isAgg181
 z75:=Tryz.sizeOf181
 v75:=Tryz.zeroValue181
 t76:=Tryz.underlying182
 a76:=Tryz.isAgg182
 z76:=Tryz.sizeOf182
 v76:=Tryz.zeroValue182
 t85:=Tryz.underlying214
 a85:=Tryz.isAgg214
 z85:=Tryz.sizeOf214
 v85:=Tryz.zeroValue214
 t127:=Tryz.underlying249
 a127:=Tryz.isAgg249
 z127:=Tryz.sizeOf249
 v127:=Tryz.zeroValue249
 t143:=Tryz.underlying250
 a143:=Tryz.isAgg250
 z143:=Tryz.sizeOf250
 v143:=Tryz.zeroValue250
 t145:=Tryz.underlying252
 a145:=Tryz.isAgg252
 z145:=Tryz.sizeOf252
 v145:=Tryz.zeroValue252
 t167:=Tryz.underlying212
 a167:=Tryz.isAgg212
 z167:=Tryz.sizeOf212
 v167:=Tryz.zeroValue212
 t168:=Tryz.underlying216
 a168:=Tryz.isAgg216
 z168:=Tryz.sizeOf216
 v168:=Tryz.zeroValue216
 t171:=Tryz.underlying238
 a171:=Tryz.isAgg238
 z171:=Tryz.sizeOf238
 v171:=Tryz.zeroValue238
 t173:=Tryz.underlying240
 a173:=Tryz.isAgg240
 z173:=Tryz.sizeOf240
 v173:=Tryz.zeroValue240
 t175:=Tryz.underlying232
 a175:=Tryz.isAgg232
 z175:=Tryz.sizeOf232
 v175:=Tryz.zeroValue232
 t210:=Tryz.underlying236
 a210:=Tryz.isAgg236
 z210:=Tryz.sizeOf236
 v210:=Tryz.zeroValue236
 t212:=Tryz.underlying255
 a212:=Tryz.isAgg255
 z212:=Tryz.sizeOf255
 v212:=Tryz.zeroValue255
 t213:=Tryz.underlying256
 a213:=Tryz.isAgg256
 z213:=Tryz.sizeOf256
 t232:=Tryz.underlying260
 a232:=Tryz.isAgg260
 z232:=Tryz.sizeOf260
 v232:=Tryz.zeroValue260
 t233:=Tryz.underlying261
 a233:=Tryz.isAgg261
 z233:=Tryz.sizeOf261
 v233:=Tryz.zeroValue261
 g15:=by kernel_rfl
 g16:=by kernel_rfl
 g17:=by kernel_rfl
 g18:=by kernel_rfl
 g19:=by kernel_rfl
 t80:=Tryz.underlying262
 a80:=Tryz.isAgg262
 z80:=Tryz.sizeOf262
 v80:=Tryz.zeroValue262
 i0:=by kernel_rfl
 i2:=by kernel_rfl
 i3:=by kernel_rfl
 i4:=by kernel_rfl
 i5:=by kernel_rfl
 i9:=by kernel_rfl
 i20:=by kernel_rfl
 i21:=by kernel_rfl
 i37:=by kernel_rfl
 i46:=by kernel_rfl
 i51:=by kernel_rfl
 i53:=by kernel_rfl
 i75:=by kernel_rfl
 i76:=by kernel_rfl
 i80:=by kernel_rfl
 i85:=by kernel_rfl
 i127:=by kernel_rfl
 i143:=by kernel_rfl
 i145:=by kernel_rfl
 i167:=by kernel_rfl
 i168:=by kernel_rfl
 i171:=by kernel_rfl
 i173:=by kernel_rfl
 i175:=by kernel_rfl
 i210:=by kernel_rfl
 i212:=by kernel_rfl
 i232:=by kernel_rfl
 i233:=by kernel_rfl
 m15:=by kernel_rfl
 m16:=by kernel_rfl
 m17:=by kernel_rfl
 m18:=by kernel_rfl
 m19:=by kernel_rfl
 c0:=by kernel_rfl
 c2:=by kernel_rfl
 c3:=by kernel_rfl
 c4:=by kernel_rfl
 c5:=by kernel_rfl
 c9:=by kernel_rfl
 c20:=by kernel_rfl
 c21:=by kernel_rfl
 c37:=by kernel_rfl
 c46:=by kernel_rfl
 c51:=by kernel_rfl
 c53:=by kernel_rfl
 c75:=by kernel_rfl
 c76:=by kernel_rfl
 c80:=by kernel_rfl
 c85:=by kernel_rfl
 c127:=by kernel_rfl
 c143:=by kernel_rfl
 c145:=by kernel_rfl
 c167:=by kernel_rfl
 c168:=by kernel_rfl
 c171:=by kernel_rfl
 c173:=by kernel_rfl
 c175:=by kernel_rfl
 c210:=by kernel_rfl
 c212:=by kernel_rfl
 c213:=by kernel_rfl
 c232:=by kernel_rfl
 c233:=by kernel_rfl }
def ju:Go.Shelf.Ren:=⟨fun | 6=>166 | 15=>178 | 14=>177 | 28=>194 | 29=>195 | 20=>186 | 21=>187 | 22=>188 | 23=>189 | 24=>190 | 25=>191 | 26=>192 | 27=>193 | 46=>203 | 47=>204 | 48=>205 | 49=>206 | 50=>207 | 57=>214 | n=>n,fun | 22=>162 | 24=>167 | 25=>202 | 3=>3 | 39=>158 | 0=>0 | 53=>230 | 55=>220 | 4=>4 | 46=>224 | 45=>223 | 50=>90 | 5=>5 | 9=>9 | 66=>242 | 70=>246 | 76=>257 | 77=>258 | n=>n,fun | n=>n⟩
theorem jW:Go.Proofs.SlLaysF0.n6 Tryz.prog ju:={
 mixed:=by kernel_rfl
 f6:=⟨Tryz.f166.name,by decide,Tryz.func166.trans (ro some (by kernel_rfl))⟩
 f14:=⟨Tryz.f177.name,by decide,Tryz.func177.trans (ro some (by kernel_rfl))⟩
 f15:=Tryz.func178.trans (ro some (by kernel_rfl))
 f20:=⟨Tryz.f186.name,by decide,Tryz.func186.trans (ro some (by kernel_rfl))⟩
 f21:=⟨Tryz.f187.name,by decide,Tryz.func187.trans (ro some (by kernel_rfl))⟩
 f22:=⟨Tryz.f188.name,by decide,Tryz.func188.trans (ro some (by kernel_rfl))⟩
 f23:=⟨Tryz.f189.name,by decide,Tryz.func189.trans (ro some (by kernel_rfl))⟩
 f24:=⟨Tryz.f190.name,by decide,Tryz.func190.trans (ro some (by kernel_rfl))⟩
 f25:=⟨Tryz.f191.name,by decide,Tryz.func191.trans (ro some (by kernel_rfl))⟩
 f26:=⟨Tryz.f192.name,by decide,Tryz.func192.trans (ro some (by kernel_rfl))⟩
 f27:=⟨Tryz.f193.name,by decide,Tryz.func193.trans (ro some (by kernel_rfl))⟩
 f28:=Tryz.func194.trans (ro some (by kernel_rfl))
 f29:=Tryz.func195.trans (ro some (by kernel_rfl))
 f46:=⟨Tryz.f203.name,by decide,Tryz.func203.trans (ro some (by kernel_rfl))⟩
 f47:=Tryz.func204.trans (ro some (by kernel_rfl))
 f48:=Tryz.func205.trans (ro some (by kernel_rfl))
 f49:=⟨Tryz.f206.name,by decide,Tryz.func206.trans (ro some (by kernel_rfl))⟩
 f50:=⟨Tryz.f207.name,by decide,Tryz.func207.trans (ro some (by kernel_rfl))⟩
 f57:=⟨Tryz.f214.name,by decide,Tryz.func214.trans (ro some (by kernel_rfl))⟩
 t0:=Tryz.underlying0
 a0:=Tryz.isAgg0
 z0:=Tryz.sizeOf0
 v0:=Tryz.zeroValue0
 t3:=Tryz.underlying3
 a3:=Tryz.isAgg3
 z3:=Tryz.sizeOf3
 v3:=Tryz.zeroValue3
 t4:=Tryz.underlying4
 a4:=Tryz.isAgg4
 z4:=Tryz.sizeOf4
 v4:=Tryz.zeroValue4
 t5:=Tryz.underlying5
 a5:=Tryz.isAgg5
 z5:=Tryz.sizeOf5
 v5:=Tryz.zeroValue5
 t9:=Tryz.underlying9
 a9:=Tryz.isAgg9
 z9:=Tryz.sizeOf9
 v9:=Tryz.zeroValue9
 t22:=Tryz.underlying162
 a22:=Tryz.isAgg162
 z22:=Tryz.sizeOf162
 v22:=Tryz.zeroValue162
 t25:=Tryz.underlying202
 a25:=Tryz.isAgg202
 z25:=Tryz.sizeOf202
 v25:=Tryz.zeroValue202
 t39:=Tryz.underlying158
 a39:=Tryz.isAgg158
 z39:=Tryz.sizeOf158
 v39:=Tryz.zeroValue158
 t45:=Tryz.underlying223
 a45:=Tryz.isAgg223
 z45:=Tryz.sizeOf223
 v45:=Tryz.zeroValue223
 t46:=Tryz.underlying224
 a46:=Tryz.isAgg224
 z46:=Tryz.sizeOf224
 v46:=Tryz.zeroValue224
 t50:=Tryz.underlying90
 a50:=Tryz.isAgg90
 z50:=Tryz.sizeOf90
 v50:=Tryz.zeroValue90
 t53:=Tryz.underlying230
 a53:=Tryz.isAgg230
 z53:=Tryz.sizeOf230
 v53:=Tryz.zeroValue230
 t55:=Tryz.underlying220
 a55:=Tryz.isAgg220
 z55:=Tryz.sizeOf220
 v55:=Tryz.zeroValue220
 t66:=Tryz.underlying242
 a66:=Tryz.isAgg242
 z66:=Tryz.sizeOf242
 v66:=Tryz.zeroValue242
 t70:=Tryz.underlying246
 a70:=Tryz.isAgg246
 z70:=Tryz.sizeOf246
 v70:=Tryz.zeroValue246
 t76:=Tryz.underlying257
 a76:=Tryz.isAgg257
 z76:=Tryz.sizeOf257
 v76:=Tryz.zeroValue257
 t77:=Tryz.underlying258
 a77:=Tryz.isAgg258
 z77:=Tryz.sizeOf258
 v77:=Tryz.zeroValue258 }
end Go.Proofs.YtifgmfoihehlbaaGreatDoor.Al

namespace Go.Proofs.YtifgmfoihehlbaaGreatDoor.Al
section
variable{P:Program}{ops:Array Oper}{rest:List Oper}{s:St}{K:St→Prop}{o:Oper}
def ON(R:Am)(L:List Nat)(id n:Nat):List Operand→List AV→Prop
 | [],[]=>True
 | x::j,b::l=>(((Ev true R x (ren L b)∧b.canon L.length=true)∨(Ev true R x (.cst (.slice none 0 0))∧b=.r (.sl [])))∨(Ev true R x (.cst (.slice none 0 0))∧ren L b=.own id n∧b.canon L.length=true))∧ON R L id n j l
 | _,_=>False
theorem ON.get{R}{L:List Nat}{id n}{xs:List Operand}{bs:List AV}(j:ON R L id n xs bs) :
  xs.length=bs.length∧∀(i:Nat) (b:AV),bs[i]?=some b→∃x,xs[i]?=some x∧(((Ev true R x (ren L b)∧b.canon L.length=true)∨(Ev true R x (.cst (.slice none 0 0))∧b=.r (.sl [])))∨(Ev true R x (.cst (.slice none 0 0))∧ren L b=.own id n∧b.canon L.length=true)):=by
 induction xs generalizing bs with
 | nil=>cases bs with | nil=>exact⟨rfl,by simp⟩ | cons _ _=>exact j.elim
 | cons x l w=>
  cases bs with
  | nil=>exact j.elim
  | cons b m=>
   obtain⟨A,B⟩:=w j.2
   refine⟨by simp[A],λi c q=>?_⟩
   cases i with
   | zero=>simp at q;subst q;exact⟨x,rfl,j.1⟩
   | succ i=>simpa using B i c (by simpa using q)
theorem nl{f}{fo}{xs:Array Operand}{ac}{caps bs:List AV}{L:List Nat}{hc}{Post}{R}{h}{a:Act}{z:Cx}(id:Nat)(e:TypeId)(sz:Nat)(ad:Nat.blt 0 sz=true)
 (ho:o.op=.call { callee := .value fo, args := xs, argTypes := ac }) (ae:Ev true R fo (.fn f (EI L caps))) (af:FK L.length caps=true) (hx:ON R L id z.n xs.toList bs) (F:FV ((id, some (.arr z.n e sz []))::h) L hc) (I:L.Nodup)
 (w:BC P f L.length (bs++caps) hc Post) (ag:z.ok) (hH:z.H=hget h) (he:B3 z R a) (K:Act→World→Prop) (Q:Exit→Act→World→Prop)
 (hK:∀(u:Value) (y:Cx) (r:AV) (X:Ag), z.le y→y.ok→y.H=hget (E2 L X 1000 L++((id, some (.arr z.n e sz []))::h))→AO y (ren L r) u→Post r X→K (a.put o.dst u) y.w):o.wp P a z.w K Q := by
  have A := Dj ag id (.arr z.n e sz []) z.w none (z.n+1) (rV _) rfl rfl rfl (λ_ _ _ => rfl) (λb k hb => by cases hb) (by omega) (by simp[Ab.gen]) (λhg => absurd hg (by simp[Ab.gen]))
    (λZ => ⟨Cn ad, by simp, .slice none 0 0, [], ⟨rfl, rfl⟩, World.ownsRow_nil _ _ _ _, by simp⟩)
  generalize B:({ z with H := λi => if id=i then some (.arr z.n e sz []) else z.H i, β := λi => if id=i then none else z.β i, K := λi => if id=i then λ_ => none else z.K i, n := z.n+1 } : Cx)=m at A
  have j:m.H=hget ((id, some (.arr z.n e sz []))::h) := by rw[← B];simp only[hH];exact Co _ _ _
  have BT:m.H id=some (.arr z.n e sz []) := by rw[j, BI, rO rfl]
  have a0:m.β id=none := by rw[← B];simp
  have a1:m.n=z.n+1 := by rw[← B]
  have a2:m.w=z.w := by rw[← B]
  have C := he.mono A.1
  obtain⟨J, w⟩ := w
  obtain⟨l, M⟩ := hx.get
  have hv := ae.rep C rfl
  generalize ah:a.eval fo=v at hv
  cases hv with
  | @fn _ _ us hl a6 =>
    have a7 := M5 J ho ah z.w
    rw[GG] at hl
    have O:∀ {b:AV} {u:Value}, AO m (ren L b) u→b.canon L.length=true→AO (m.view L hc) b u := λ{b u} T h2 => RN (x := m) (y := m.view L hc) (L := L) (k := L.length) rfl (λ_ h => h) (rV _) (Q3 j F) T b rfl h2
    have U:Fh (m.view L hc) (bs++caps) (xs.map a.eval++us).toList := by
      refine⟨by simp[hl];simpa using l, λi b u T h2 => ?_⟩
      have q:((xs.toList.map a.eval)++us.toList)[i]?=some u := by simpa using h2
      by_cases hi:i<bs.length
      · rw[rm hi] at T
        obtain⟨x, k1, E⟩ := M i b T
        rw[rm (by simp at l ⊢;omega), rc, k1] at q
        simp only[sY, rY] at q
        subst q
        rcases E with (⟨E, k3⟩ | ⟨E, rfl⟩) | ⟨E, k3, k4⟩
        · exact O (E.rep C rfl) k3
        · have := E.rep C rfl
          generalize a.eval x=v at this ⊢
          cases this;exact .r .snil
        · refine O ?_ k4
          rw[k3]
          have := E.rep C rfl
          generalize a.eval x=v at this ⊢
          cases this
          refine .own (by rw[a1];omega) rfl λo' a8 _ => ?_
          rw[BT] at a8;cases a8
          rw[a0];exact⟨rfl, rfl⟩
      · rw[rl (by omega)] at T
        rw[rl (by simp at l ⊢;omega)] at q
        have ai:(xs.toList.map a.eval).length=bs.length := by simpa using l
        rw[ai] at q
        exact O (a6 _ (ren L b) u (by rw[Gp, T];rfl) (by simpa using q)) (Gl af T)
    unfold Oper.wp
    rw[a7, ← a2]
    refine(w (m.view L hc) _ (Uk A.2 j F I) rfl U).mono λe' w' ⟨u, y, r, X, he', aj, Z, aa, ab, ak, al, an, V⟩ => ?_
    subst he'
    subst aj
    obtain⟨k1, E⟩ := V5 A.2 j F I Z aa ab an
    exact hK u (m.back y L X _) r X (A.1.trans k1) E rfl (UL (x := y) (y := m.back y L X _) (L := L) (k := L.length) rfl (λ_ h => h) (rV _) (Tp I ab) ak al) V
theorem Zb{d:Nat}{f:FuncId}{fo:Operand}{xs:Array Operand}{C:Array TypeId}{caps bs:List AV}(id:Nat)(e:TypeId)(sz:Nat)(E:Nat.blt 0 sz=true)(L:List Nat){hc:Ag}{F:(Nat→Nat)→AV}{G:(Nat→Nat)→Ag}(hg:o.guard=none)(hd:o.dst=some d)(hN:Nat.blt d s.N=true)
  (ho:o.op=.call { callee:=.value fo,args:=xs,argTypes:=C }) (I:Ev true s.e fo (.fn f (EI L caps))) (J:FK L.length caps=true) (hx:ON s.e L id s.n xs.toList bs) (l:FV ((id,some (.arr s.n e sz []))::s.h) L hc) (M:L.Nodup)
  (m:BC P f L.length (bs++caps) hc (λr h'=>∃i,r=F i∧h'=G i))
  (hr:∀i n',AX P ops rest { e:=(d,ren L (F i))::s.e,h:=E2 L (G i) 1000 L++((id,some (.arr s.n e sz []))::s.h),n:=n',N:=s.N } K):AX P ops (o::rest) s K:=by
 intro c0 a w ⟨_,q,hsz,y,O,T,U,hH,hn,he⟩ Q hQ
 subst O
 rw[← hn] at hx l hr
 refine wpList_plain hg λK' V=>?_
 refine nl id e sz E ho I J hx l M m U hH he K' Q λu z r h' A B X Z j=>?_
 refine V _ _ ?_
 have a0:d<a.tmps.size:=by rw[hsz];exact Cn hN
 obtain⟨i,rfl,rfl⟩:=j
 rw[hd]
 exact hr i z.n c0 (a.put (some d) u) z.w ⟨_,q,by simpa[Act.put] using hsz,z,rfl,T.trans A,B,X,rfl,(he.mono A).put a0 Z⟩ Q hQ
end
theorem pl{α:Type}{l j:List α}{z:Int}(h:CB l 0 z=some j):j=l.take z.toNat:=by
 obtain⟨_,_,_,rfl⟩:=Rr h
 simp
section
variable{P:Program}{c:Bool}{o:Oper}{R:Am}{h:Ag}{n:Nat}
theorem bN{α:Type}{f}{t e e'}{sz C}{x y}{id g}{l l':List α}{q:Int}(ho:o.op=.slice t x none (some y) none)(ht:EQ P t e sz)(hx:Ev c R x (.own id g))
 (hh:hget h id=some (.arr g e' C (l.map f))) (X:∃k, Ev c R y (.r (.int k q))) (hs:c=true→CB l 0 q=some l'):AY P c o R h (.pre id g q.toNat) := by
  intro Z z w E hH he
  obtain⟨F, ii, I, a0⟩ := ht
  obtain⟨J, h2, h3, rfl⟩ := Rr (hs Z)
  have j:z.H id=some (.arr g e' C (l.map f)) := by rw[hH];exact hh
  obtain⟨h0, a2, us, hd, A, a7⟩ := L3 E j (hx.rep he Z)
  have M := (E.obj _ _ j).1
  obtain⟨k, hk⟩ := X
  have hy := Cu (hk.rep he Z)
  have B:∀(len cap:Nat), q≤cap→∀W, (Instr.sliceBounds true len cap none (some (w.eval y)) none).run P W=.ok (0, q.toNat, cap) W := by
    intro len cap O W
    have hH:(Instr.sliceBound (w.eval y) cap .sliceAcap).run P W=.ok q.toNat W := by rw[hy, MV h2 O]
    simp[Instr.sliceBounds, hH]
  rw[rt] at hd
  generalize T:w.eval x=xv at hd A
  unfold Cr at hd
  split at hd
  · rename_i heq
    obtain⟨hz, rfl⟩ := hd
    have U:q.toNat=0 := by omega
    refine⟨.slice none 0 0, λw2 a1 => ?_, .pre M rfl λo' m _ => ?_⟩
    · unfold execOp
      rw[ho]
      have V := B 0 0 (by omega) w2
      rw[U] at V
      simp[T, Instr.sliceAt, Instr.slice, run_underlying F, Dw I, V]
    · rw[j] at m;cases m
      rw[heq, U]
      exact⟨s6 _, rfl, rfl⟩
  · rename_i b cap heq
    subst hd
    have a8:l.length≤cap := by
      rcases A.2 with ⟨J, _⟩ | ⟨g', a6, aa, J, _, _, h2, h3, _⟩
      · cases J
      · simp only[Value.slice.injEq] at J;rw[J.2.2];simpa using h2
    refine⟨.slice (some ⟨b, 0, none⟩) q.toNat cap, λw2 a1 => ?_, .pre M rfl λo' m _ => ?_⟩
    · unfold execOp
      rw[ho]
      simp[T, Instr.sliceAt, Instr.slice, run_underlying F, Dw I, a0, B _ cap (by omega), Addr.add_lit]
    · rw[j] at m;cases m
      rw[heq]
      exact⟨by simp[Ab.shape];omega, rfl⟩
end
section
variable{P:Program}{c:Bool}{o:Oper}{R:Am}{h:Ag}{n:Nat}
theorem ne{t e}{sz a0 len}{parts:Array (Nat × Operand)}(id:Nat){rows:List (List RV)}(ho:o.op=.buildSlice t len parts)(ht:Br P t e sz a0)
 (hp:HZ c R 0 parts.toList rows) (l:rows.length=len) (A:∀row ∈ rows, row.length=sz) (B:Nat.ble (len * sz) 16777216=true) :
    c=true→∀(x:Cx) (a:Act), x.ok→x.H=hget h→x.n=n→B3 x R a→∀(K:Act→World→Prop) (Q:Exit→Act→World→Prop),
      (∀(u:Value) (y:Cx), x.le y→y.ok→y.H=hget ((id, some (.arr n e sz rows))::h)→y.n=n+1→AO y (.own id n) u→(∃a, u=.slice a rows.length rows.length)→K (a.put o.dst u) y.w)→o.wp P a x.w K Q := by
  intro hc z w a1 hH hn he K Q hK
  obtain⟨F, ii, zv, hi, C, _, hz, a7, _, h0⟩ := ht
  have a8:len * sz≤16777216 := sx B
  have aa:len≤len * sz := uU _ h0
  obtain⟨I, J⟩ := hp.get
  have E:∃init:Array Value, init.size=len * sz∧∀W, (Instr.buildSlice t len (parts.map λ(i, x) => (i, w.eval x))).run P W =
      match Instr.fill (λi => some (i * sz, sz)) init (parts.toList.map λ(i, x) => (i, w.eval x)) with
      | some cells => .ok (.slice (some ⟨W.heap.size, 0, none⟩) len len) (W.alloc (.cells cells e))
      | none => .halt (.stuck "buildSlice: a part of the wrong size") W := by
    refine⟨(Array.range (len * sz)).map (λi => (if len * sz=0 then #[] else zv.cells)[i % (if len * sz=0 then #[] else zv.cells).size]!), by simp, λW => ?_⟩
    have M:¬ 2 ^ 24<len * sz := by omega
    by_cases O:len * sz=0
    · simp only[Instr.buildSlice, Sem.run_bind, run_underlying F, Result.andThen_ok, Dw hi, C, O]
      simp
      split<;>simp_all [newRow, Instr.fill]
    · simp only[Instr.buildSlice, Sem.run_bind, run_underlying F, Result.andThen_ok, Dw hi, C]
      simp only[M, O, zeroValue, typeInfo, ti, Sem.run_bind, run_program, Result.andThen_ok, hi, hz, Sem.run_pure, uc]
      generalize Instr.fill _ _ _=r
      cases r<;>simp[newRow]
  obtain⟨init, m, T⟩ := E
  obtain⟨a2, f1, f2, _, f4⟩ := QG sz (parts.toList.map λ(i, x) => (i, w.eval x)) 0 init (λj p hj => by
    simp only[rc, rg] at hj
    obtain⟨q, hq, rfl⟩ := hj
    obtain⟨U, row, a, X, Z, h4⟩ := J j q hq
    refine⟨by simpa using U, ?_⟩
    rw[(KK h4 (Z.rep he hc)).1]
    exact A row (rq X)) (by rw[m];simp only[rt, I, l, sF];exact rV _)
  obtain⟨y, k1, k2, k3, k4, k5, k6⟩ := QW a1 id e sz rows a2 h0 A (by rw[f2, m, l]) (by unfold maxLen;omega) (λi row k d U X => by
    have V:i<parts.toList.length := by rw[I];exact(rW.1 U).1
    obtain⟨_, a6, a, Z, h4, h5⟩ := J i _ (rU V)
    rw[U] at Z;cases Z
    obtain⟨u, h6, h7⟩ := (KK h5 (h4.rep he hc)).2 k d X
    refine⟨u, ?_, h7⟩
    have hk:k<sz := by rw[← A row (rq U)];exact(rW.1 X).1
    have := f4 i (parts.toList[i].1, w.eval parts.toList[i].2) k (by simp[rc, rU V]) hk
    rw[sF] at this
    rw[this];exact h6)
  unfold Oper.wp execOp
  simp only[ho, Sem.run_bind, T, f1, Result.andThen_ok, Sem.run_pure]
  have := hK _ y k1 k2 (by rw[k4, hH, hn, Co]) (by rw[k5, hn]) (by rw[← hn];exact k6) ⟨_, by rw[l]⟩
  rw[k3, l] at this
  exact this
theorem mq{t e:TypeId}{sz T len}{parts:Array (Nat × Operand)}(id:Nat){rows:List (List RV)}(l:o.op=.buildSlice t len parts)(ht:Br P t e sz T)
 (hp:HZ c R 0 parts.toList rows) (C:rows.length=len) (E:∀row ∈ rows, row.length=sz) (B:Nat.ble (len * sz) 16777216=true) :
    BQ P c o R h n (.full rows) ((id, none)::h) (n+1) := by
  intro hc x a U hH hn he K Q hK
  refine ne id l ht hp C E B hc x a U hH hn he K Q λu y k1 w k3 kn k4 k5 => ?_
  have q:y.H id=some (.arr n e sz rows) := by rw[k3, BI, rO rfl]
  let F:Cx := { y with S := λb => y.S b∨∃k, y.β id=some (b, k), H := hget ((id, none)::h) }
  have j:∀i o, F.H i=some o→i≠id∧y.H i=some o := by
    intro i o l
    simp only[F, BI] at l
    split at l
    · cases l
    · rename_i I
      refine⟨λe => I e.symm, ?_⟩
      rw[k3, BI, rN I];exact l
  have A:y.le F := ⟨rV _, rfl, rfl, rfl, λ_ _ => rfl, λ_ h => .inl h, rfl, rV _, λi o l _ => ⟨o, (j i o l).2, rfl, rfl, rfl⟩, λi o l hf _ _ => ⟨o, (j i o l).2, hf, rfl, rfl, rfl, rfl⟩⟩
  have J:F.ok := by
    refine⟨λb m => ?_, w.F_lt, λb m => ?_, λi o l => ?_, λi o b k l m => ?_, λi i' o o' b k M l V => w.inj i i' o o' b k M (j _ _ l).2 (j _ _ V).2, w.extOf (λi o l => ⟨o, (j i o l).2⟩) rfl rfl (rV _) (λi o b k l O hS => hS.elim (w.own' i o b k (j i o l).2 O).2.1 λ⟨M, m⟩ => (j i o l).1 (w.inj' (j i o l).2 q O (.inl m))) (λi o b k l O => (w.own' i o b k (j i o l).2 O).2.2), w.tabs.le A⟩
    · rcases m with m | ⟨k, m⟩
      · exact w.S_lt b m
      · exact(w.own id _ b k q m).1
    · rcases m with m | ⟨k, m⟩
      · exact w.SF b m
      · exact(w.own id _ b k q m).2.2
    · obtain⟨X, Z⟩ := w.obj i o (j _ _ l).2
      exact⟨X, Z.mono A (λ_ _ _ => rfl) λ_ _ _ _ => rfl⟩
    · obtain⟨X, Z, j3⟩ := w.own i o b k (j _ _ l).2 m
      refine⟨X, ?_, j3⟩
      rintro(h1 | ⟨M, h1⟩)
      · exact Z h1
      · exact(j _ _ l).1 (w.inj i id o _ b k M (j _ _ l).2 q m h1)
  exact hK u F (k1.trans A) J rfl kn (.full (OZ w q k4 (λ_ h => .inl h) (λb k m => .inr ⟨k, m⟩)) k5)
theorem kc{α:Type}{f}{t e}{sz w len}{parts:Array (Nat × Operand)}(id:Nat){l:List α}(A:o.op=.buildSlice t len parts)(B:Br P t e sz w)
 (hp:HZ c R 0 parts.toList (l.map f)) (m:l.length=len) (q:∀a, (f a).length=sz) (j:Nat.ble (len * sz) 16777216=true) :
    BQ P c o R h n (.full (l.map f)) ((id, none)::h) (n+1) :=
  mq id A B hp (by rw[rt];exact m) (λrow C => by obtain⟨a, _, rfl⟩ := sK.1 C;exact q a) j
end
def Ql:AV→AV
 | .r (.slf j)=>.full j
 | a=>a
def R0:AV→AV
 | .agg j=>.agg (j.map Ql)
 | a=>Ql a
theorem AO.up1{x}{a}{v}(h:AO x a v):AO x (Ql a) v:=by
 unfold Ql
 split
 ·cases h with | r h=>cases h with | slf j l=>exact .full j l
 ·exact h
theorem AO.up{x}{a}{v}(h:AO x a v):AO x (R0 a) v:=by
 unfold R0
 split
 ·cases h with
  | agg l m=>
   refine .agg (by rw[rt];exact l) (λi c u j q=>?_)
   rw[rc,rg] at j
   obtain⟨w,A,rfl⟩:=j
   exact(m i w u A q).up1
 ·exact h.up1
def upE:Am→Am
 | []=>[]
 | (t,v)::r=>(t,R0 v)::upE r
theorem WG:∀(e:Am) (t:Nat),get (upE e) t=R0 (get e t)
 | [],_=>rfl
 | (d,v)::r,t=>by
  unfold upE
  rw[DD,DD]
  split
  ·rfl
  ·exact WG r t
theorem qx{P}{c}{o}{R}{h h'}{n n'}{v}(l:BQ P c o (upE R) h n v h' n'):BQ P c o R h n v h' n':=
 λm x a j q w A K Q B=>l m x a j q w (λt=>by rw[WG];exact(A t).up) K Q B
def Jx:RV→RV
 | .slf j=>.sl j
 | d=>d
theorem A5.de{w}{S}{d}{v}(h:A5 w S d v):A5 w S (Jx d) v:=by
 unfold Jx
 split
 ·cases h with | slf h _=>exact h
 ·exact h
theorem qj{s:St} id{g e sz}{xs:List (List RV)}(V:hget s.h id=some (.arr g e sz xs)):AZ s ⟨s.e,(id,some (.arr g e sz (xs.map λr=>r.map Jx)))::s.h,s.n,s.N⟩:=by
 intro c0 a w ⟨X,A,hsz,y,C,E,m,M,Z,he⟩
 have j:y.H id=some (.arr g e sz xs):=by rw[M];exact V
 obtain⟨hg,h0,B,F,us,h1,h2,h3⟩:=m.obj id _ j
 have l:(xs.map λr=>r.map Jx).length=xs.length:=rt ..
 have q:=Dj m id (.arr g e sz (xs.map λr=>r.map Jx)) y.w (y.β id) y.n (rV _) rfl rfl rfl (λb _ _=>rfl) (λb k O=>⟨(m.own id _ b k j O).1,.inr ⟨_,k,j,O⟩⟩) (rV _) hg (λ_=>⟨_,j,rfl,by simp[Ab.shape],rfl⟩)
  (λ_=>⟨h0,λrow hr=>by
    obtain⟨I,J,rfl⟩:=sK.1 hr
    rw[rt];exact B I J,F,us,by rw[l];exact h1,by rw[l];exact h2,λi row c d T U=>by
    rw[rc,rg] at T
    obtain⟨I,J,rfl⟩:=T
    rw[rc,rg] at U
    obtain⟨d0,k2,rfl⟩:=U
    obtain⟨u,k3,k4⟩:=h3 i I c d0 J k2
    exact⟨u,k3,k4.de⟩⟩)
 refine⟨X,A,hsz,{ y with H:=λi=>if id=i then some (.arr g e sz (xs.map λr=>r.map Jx)) else y.H i,β:=λi=>if id=i then y.β id else y.β i,K:=λi=>if id=i then λ_=>none else y.K i },C,E.trans q.1,q.2,?_,Z,λt=>(he t).mono q.1⟩
 funext i
 rw[BI]
 show(if id=i then _ else y.H i)=_
 rw[M]
open Go.Shelf Go.Proofs
theorem Xn:Sf Tryz.prog 166 4:=⟨⟨Tryz.f166,Tryz.func166,rfl,rfl⟩,_,rfl,jW,Tryz.isAgg167,Tryz.sizeOf167⟩
end Go.Proofs.YtifgmfoihehlbaaGreatDoor.Al

namespace Go.Proofs.YtifgmfoihehlbaaGreatDoor.Al
theorem iL{α:Sort _}{x:α}{p:Prop} : x=x∨p:=.inl rfl
section
variable{P:Program}{ops:Array Oper}{rest:List Oper}{s:St}{K:St→Prop}{o:Oper}
theorem sQ{d}{v}(hg:(o.guard, o.dst, Nat.blt d s.N)=(none, some d, true))(j:AY P true o s.e s.h v)
 (l:AX P ops rest { e := (d, v)::s.e, h := s.h, n := s.n, N := s.N } K):AX P ops (o::rest) s K :=
  AX.step (tD hg).1 (tD (tD hg).2).1 (tD (tD hg).2).2 (B2 j _) l
end
theorem jL{α:Sort _}{x:α}{p q:Prop} : (x=x∨p)∨q:=.inl (.inl rfl)
theorem iR{c}{R}{x}{v}(h:BP R x=.whn c v):Ev c R x v:=.inr ⟨c,id,h⟩
theorem nL{n:Nat} : n≤n:=rV n
theorem fR{α β:Sort _}{x:β}(_:α):x=x:=rfl
section
variable{P:Program}{ops:Array Oper}{rest:List Oper}{s:St}{K:St→Prop}{o:Oper}
theorem aZ(h:K s):AX P ops [] s K:=AX.nil h
end
section
variable{P:Program}{Q:Exit→St→Prop}{s:St}{x y:Code}
theorem aS(h:∀K:St→Prop,(∀s,AW P y Q s→K s)→(∀s j,AZ s j→K j→K s)→AW P x (HH K Q) s):AW P (.seq x y) Q s:=rA h
theorem aR{id}{l:List Oper}(h:AX P l.toArray l s (Q .normal)):AW P (.region id l.toArray false) Q s:=AW.region h
theorem aC{c}{b}(hc:BP s.e c=.r (.bool b))(j:b=true→AW P x Q s)(l:b=false→AW P y Q s):AW P (.cond c x y) Q s:=AW.cond hc j l
end
theorem fB{P}{c}{o:Oper}{R}{h}{t}{x}{f off}{id g j i k}{e}{cs}(l:o.op=.fieldAddr t x f)(m:Aq P t f off)(q:Ev c R x (.ptr id g i k))(w:c=true→hget h id=some (.box j e cs))
 (hg:j=g):AY P c o R h (.ptr id g i (k+off)) := GK (ob := .box j e cs) l m q w hg
@[reducible] def rI(k:Int):AV:=.r (.int .i64 k)
@[reducible] def rB(b:Bool):AV:=.r (.bool b)
@[reducible] def cZ:AV:=.cst (.slice none 0 0)
inductive Bv(e:Am):List Nat→Am→Prop
 | nil:Bv e [] []
 | cons {k:Nat} {ks:List Nat} {v:AV} {r:Am} (h:get e k=v) (t:Bv e ks r):Bv e (k::ks) ((k,v)::r)
inductive FE(e:Ag):List Nat→Ag→Prop
 | nil:FE e [] []
 | cons {k:Nat} {ks:List Nat} {v:Ab} {r:Ag} (h:hget e k=some v) (t:FE e ks r):FE e (k::ks) ((k,some v)::r)
theorem Bv.cv{e}{ks}{e'}(h:Bv e ks e'):Oj e' e:=by
 induction h with
 | nil=>trivial
 | cons h _ j=>exact⟨.inl (.inl h),j⟩
theorem FE.cv{e}{ks}{e'}(h:FE e ks e'):O3 e' e:=by
 induction h with
 | nil=>trivial
 | cons h _ j=>exact⟨.inl h,j⟩
section
variable{e:Am}{k:Nat}{ks:List Nat}{r:Am}
theorem kR{d}(t:Bv e ks r)(h:get e k=.r d):Bv e (k::ks) ((k,.r d)::r):=.cons h t
theorem kP{a b c d}(t:Bv e ks r)(h:get e k=.ptr a b c d):Bv e (k::ks) ((k,.ptr a b c d)::r):=.cons h t
theorem kO{a b}(t:Bv e ks r)(h:get e k=.own a b):Bv e (k::ks) ((k,.own a b)::r):=.cons h t
theorem kA{d}(t:Bv e ks r)(h:get e k=.agg d):Bv e (k::ks) ((k,.agg d)::r):=.cons h t
theorem kC{d}(t:Bv e ks r)(h:get e k=.cst d):Bv e (k::ks) ((k,.cst d)::r):=.cons h t
theorem kT{d}(t:Bv e ks r)(h:get e k=.tup d):Bv e (k::ks) ((k,.tup d)::r):=.cons h t
theorem kF{f}{d}(t:Bv e ks r)(h:get e k=.fn f d):Bv e (k::ks) ((k,.fn f d)::r):=.cons h t
theorem kQ{d}{i}(t:Bv e ks r)(h:get e k=.rop d i):Bv e (k::ks) ((k,.rop d i)::r):=.cons h t
theorem kM{a b}(t:Bv e ks r)(h:get e k=.mref a b):Bv e (k::ks) ((k,.mref a b)::r):=.cons h t
theorem kW{b}{v}(t:Bv e ks r)(h:get e k=.whn b v):Bv e (k::ks) ((k,.whn b v)::r):=.cons h t
theorem kK{a b c d f}(t:Bv e ks r)(h:get e k=.pk a b c d f):Bv e (k::ks) ((k,.pk a b c d f)::r):=.cons h t
theorem kU{a b c}{d}(t:Bv e ks r)(h:get e k=.fo a b c d):Bv e (k::ks) ((k,.fo a b c d)::r):=.cons h t
theorem kI{b}(t:Bv e ks r)(h:get e k=.ifc b):Bv e (k::ks) ((k,.ifc b)::r):=.cons h t
theorem kV{a b c}(t:Bv e ks r)(h:get e k=.pre a b c):Bv e (k::ks) ((k,.pre a b c)::r):=.cons h t
theorem kY{a b}(t:Bv e ks r)(h:get e k=.yld a b):Bv e (k::ks) ((k,.yld a b)::r):=.cons h t
theorem kL{xs}(t:Bv e ks r)(h:get e k=.full xs):Bv e (k::ks) ((k,.full xs)::r):=.cons h t
end
section
variable{e:Ag}{k:Nat}{ks:List Nat}{r:Ag}
theorem hB{g}{t}{cs}(t1:FE e ks r)(h:hget e k=some (.box g t cs)):FE e (k::ks) ((k,some (.box g t cs))::r):=.cons h t1
theorem hA{g}{t}{sz}{xs}(t1:FE e ks r)(h:hget e k=some (.arr g t sz xs)):FE e (k::ks) ((k,some (.arr g t sz xs))::r):=.cons h t1
theorem hC{o}(t1:FE e ks r)(h:hget e k=some o):FE e (k::ks) ((k,some o)::r):=.cons h t1
end
section
variable{P:Program}{Q:Exit→St→Prop}{x y:Code}
theorem aF{e:Am}{h:Ag}{n N:Nat}(ks:List Nat){e':Am}(hr:AW P x Q ⟨e',[],n,N⟩)
  (he:Bv e ks e':=by repeat' first | exact Bv.nil | apply kR _ rfl | apply kP _ rfl | apply kA _ rfl | apply kO _ rfl | apply kC _ rfl | apply kT _ rfl | apply kF _ rfl | apply kQ _ rfl | apply kM _ rfl | apply kW _ rfl | apply kL _ rfl | apply kK _ rfl | apply kU _ rfl | apply kI _ rfl | apply kV _ rfl | apply kY _ rfl):AW P x Q ⟨e,h,n,N⟩:=
 AW.weak (AZ.cv (h':=[]) he.cv trivial (rV _)) hr
theorem aG{e:Am}{h:Ag}{n N:Nat}(ks js:List Nat){e':Am}{h':Ag}(hr:AW P x Q ⟨e',h',n,N⟩)
  (he:Bv e ks e':=by repeat' first | exact Bv.nil | apply kR _ rfl | apply kP _ rfl | apply kA _ rfl | apply kO _ rfl | apply kC _ rfl | apply kT _ rfl | apply kF _ rfl | apply kQ _ rfl | apply kM _ rfl | apply kW _ rfl | apply kL _ rfl | apply kK _ rfl | apply kU _ rfl | apply kI _ rfl | apply kV _ rfl | apply kY _ rfl)
  (hh:FE h js h':=by repeat' first | exact FE.nil | apply hB _ rfl | apply hA _ rfl | apply hC _ rfl):AW P x Q ⟨e,h,n,N⟩:=
 AW.weak (AZ.cv he.cv hh.cv (rV _)) hr
end
section
variable{P:Program}{ops:Array Oper}{rest:List Oper}{K:St→Prop}{o o2:Oper}{e:Am}{h:Ag}{n N:Nat}
theorem BV(ks js:List Nat){e':Am}{h':Ag}(hr:AX P ops rest ⟨e',h',n,N⟩ K)
  (he:Bv e ks e':=by repeat' first | exact Bv.nil | apply kR _ rfl | apply kP _ rfl | apply kA _ rfl | apply kO _ rfl | apply kC _ rfl | apply kT _ rfl | apply kF _ rfl | apply kQ _ rfl | apply kM _ rfl | apply kW _ rfl | apply kL _ rfl | apply kK _ rfl | apply kU _ rfl | apply kI _ rfl | apply kV _ rfl | apply kY _ rfl)
  (hh:FE h js h':=by repeat' first | exact FE.nil | apply hB _ rfl | apply hA _ rfl | apply hC _ rfl):AX P ops rest ⟨e,h,n,N⟩ K:=
 AX.weak (AZ.cv he.cv hh.cv (rV _)) hr
end
section
variable{P:Program}{ops:Array Oper}{rest:List Oper}{K:St→Prop}{o o2:Oper}{s:St}
theorem vQ{d j m}{l b}{v}(hg:(o.guard, o.dst, Nat.blt d s.N, (ops[j]?).bind (·.dst), BP s.e (.tmp m))=(some (j, l), some d, true, some m, .r (.bool b)))(q:AY P (b==l) o s.e s.h v)
 (w:AX P ops rest { e := (d, .whn (b==l) v)::s.e, h := s.h, n := s.n, N := s.N } K):AX P ops (o::rest) s K := by
  simp only[rf] at hg
  obtain⟨A, B, C, E, F⟩ := hg
  exact AX.stepW (.one A E F) B C (B2 q _) w
theorem wQ{d j q}{l b m}{v}(hg:(o.guard, o.dst, Nat.blt d s.N, (ops[j]?).bind (·.dst), BP s.e (.tmp q))=(some (j, l), some d, true, some q, .whn m (.r (.bool b))))(w:AY P (m&&(b==l)) o s.e s.h v)
 (A:AX P ops rest { e := (d, .whn (m&&(b==l)) v)::s.e, h := s.h, n := s.n, N := s.N } K):AX P ops (o::rest) s K := by
  simp only[rf] at hg
  obtain⟨B, C, E, F, I⟩ := hg
  exact AX.stepW (.two B F I) C E (B2 w _) A
theorem qP{d}{v}(hg:(o.guard, o.dst, Nat.blt d s.N)=(none, some d, true))(j:AY P true o s.e s.h v)
 (l:AQ P ops rest { e := (d, v)::s.e, h := s.h, n := s.n, N := s.N } K):AQ P ops (o::rest) s K :=
  AQ.step (tD hg).1 (tD (tD hg).2).1 (tD (tD hg).2).2 j l
theorem qO{d j m}{l b}{v}(hg:(o.guard, o.dst, Nat.blt d s.N, (ops[j]?).bind (·.dst), BP s.e (.tmp m))=(some (j, l), some d, true, some m, .r (.bool b)))(q:AY P (b==l) o s.e s.h v)
 (w:AQ P ops rest { e := (d, .whn (b==l) v)::s.e, h := s.h, n := s.n, N := s.N } K):AQ P ops (o::rest) s K := by
  simp only[rf] at hg
  obtain⟨A, B, C, E, F⟩ := hg
  exact AQ.stepW (.one A E F) B C q w
theorem qT{d j q}{l b m}{v}(hg:(o.guard, o.dst, Nat.blt d s.N, (ops[j]?).bind (·.dst), BP s.e (.tmp q))=(some (j, l), some d, true, some q, .whn m (.r (.bool b))))(w:AY P (m&&(b==l)) o s.e s.h v)
 (A:AQ P ops rest { e := (d, .whn (m&&(b==l)) v)::s.e, h := s.h, n := s.n, N := s.N } K):AQ P ops (o::rest) s K := by
  simp only[rf] at hg
  obtain⟨B, C, E, F, I⟩ := hg
  exact AQ.stepW (.two B F I) C E w A
theorem sS{d}{v}{h'}{n'}(hg:(o.guard, o.dst, Nat.blt d s.N)=(none, some d, true))(j:BQ P true o s.e s.h s.n v h' n')
 (l:AX P ops rest { e := (d, v)::s.e, h := h', n := n', N := s.N } K):AX P ops (o::rest) s K :=
  AX.step (tD hg).1 (tD (tD hg).2).1 (tD (tD hg).2).2 j l
theorem lF{t t2}{x y}{f off id g i k d1 d2 id' l m}{e1 e2}{cs j}{a}(A:Aq P t f off)(B:BY P t2)
 (q:(o.guard, o.dst, Nat.blt d1 s.N, o.op, BP s.e x, hget s.h id)=(none, some d1, true, .fieldAddr t x f, .ptr id g i k, some (.box g e1 cs)))
 (w:(o2.guard, o2.dst, Nat.blt d2 s.N, o2.op, BP ((d1, .ptr id g i (k+off))::s.e) y, hget s.h id', j[m]?)=(none, some d2, true, .load t2 y, .ptr id' l 0 m, some (.box l e2 j), some a))
 (C:AX P ops rest { e := (d2, a)::(d1, .ptr id g i (k+off))::s.e, h := s.h, n := s.n, N := s.N } K):AX P ops (o::o2::rest) s K := by
  simp only[rf] at q w
  obtain⟨E, F, a3, a4, a5, I⟩ := q
  obtain⟨J, M, O, T, U, V, X⟩ := w
  exact AX.step E F a3 (B2 (GK (ob := .box g e1 cs) a4 A (.inl a5) (λ_ => I) rfl) _) (AX.step J M O (B2 (Aa T B (.inl U) V X) _) C)
theorem vF{t t2}{x y}{f off id g i k d1 d2 id' B C j E F l}{w b A m}{e1 e2}{cs q}{a}(M:Aq P t f off)(O:BY P t2)
 (I:(o.guard, o.dst, Nat.blt d1 s.N, (ops[j]?).bind (·.dst), BP s.e (.tmp E), o.op, BP s.e x, hget s.h id)=(some (j, w), some d1, true, some E, .r (.bool b), .fieldAddr t x f, .ptr id g i k, some (.box g e1 cs)))
 (J:(o2.guard, o2.dst, Nat.blt d2 s.N, (ops[F]?).bind (·.dst), BP ((d1, .whn (b==w) (.ptr id g i (k+off)))::s.e) (.tmp l), o2.op, BP ((d1, .whn (b==w) (.ptr id g i (k+off)))::s.e) y, hget s.h id', q[C]?)=(some (F, A), some d2, true, some l, .r (.bool m), .load t2 y, .whn (m==A) (.ptr id' B 0 C), some (.box B e2 q), some a))
 (T:AX P ops rest { e := (d2, .whn (m==A) a)::(d1, .whn (b==w) (.ptr id g i (k+off)))::s.e, h := s.h, n := s.n, N := s.N } K):AX P ops (o::o2::rest) s K := by
  simp only[rf] at I J
  obtain⟨U, V, a3, a4, a5, X, Z, a8⟩ := I
  obtain⟨b1, m, b3, b4, b5, b6, b7, b8, b9⟩ := J
  exact AX.stepW (.one U a4 a5) V a3 (B2 (GK (ob := .box g e1 cs) X M (.inl Z) (λ_ => a8) rfl) _) (AX.stepW (.one b1 b4 b5) m b3 (B2 (Aa b6 O (iR b7) b8 b9) _) T)
end
def Zd:AV→Bool
 | .r _=>true
 | _=>false
theorem bU{l:List AV}(h:l.all Zd=true):∃cs:List RV,l=cs.map .r:=by
 induction l with
 | nil=>exact⟨[],rfl⟩
 | cons a l j=>
  rw[uX,rZ] at h
  obtain⟨cs,rfl⟩:=j h.2
  cases a with
  | r d=>exact⟨d::cs,rfl⟩
  | _=>exact Bool.noConfusion h.1
theorem Fz.g2{h}{a}{ds:List AV}(e:a=.agg ds)(e2:ds.all Zd=true):Fz h a (.agg ds):=by
 obtain⟨l,j⟩:=bU e2
 exact .g e j
section
variable{P:Program}{ops:Array Oper}{rest:List Oper}{K:St→Prop}{o:Oper}{s:St}
theorem cL{d:Nat}{f:FuncId}{fo:Operand}{xs:Array Operand}{ats:Array TypeId}{bs:List AV}{r:AV}(hq:AR P f bs r)
  (hg:(o.guard,o.dst,Nat.blt d s.N,o.op,BP s.e fo,r.flat)=(none,some d,true,.call { callee:=.value fo,args:=xs,argTypes:=ats },.fn f [],true))
  (hr:AX P ops rest { e:=(d,r)::s.e,h:=s.h,n:=s.n,N:=s.N } K)
  (hx:IJ true s.e s.h xs.toList bs:=by repeat' first | exact trivial | refine⟨⟨_,iL,.d rfl⟩,?_⟩ | refine⟨⟨_,iL,.g2 rfl rfl⟩,?_⟩ | refine⟨⟨_,iL,.one (.own rfl)⟩,?_⟩ | refine⟨⟨_,iR rfl,.d rfl⟩,?_⟩ | refine⟨⟨_,iR rfl,.g2 rfl rfl⟩,?_⟩):AX P ops (o::rest) s K:=by
 simp only[rf] at hg
 obtain⟨h1,h2,h3,h4,h5,h6⟩:=hg
 exact AX.step h1 h2 h3 (Cw (caps:=[]) h4 (.inl h5) rfl hx (λ_=>by rw[tN];exact hq) h6) hr
theorem vL{d j dj:Nat}{want b:Bool}{f:FuncId}{fo:Operand}{xs:Array Operand}{ats:Array TypeId}{bs:List AV}{r:AV}(hq:(b==want)=true→AR P f bs r)
  (hg:(o.guard,o.dst,Nat.blt d s.N,(ops[j]?).bind (·.dst),BP s.e (.tmp dj),o.op,BP s.e fo,r.flat)=(some (j,want),some d,true,some dj,.r (.bool b),.call { callee:=.value fo,args:=xs,argTypes:=ats },.fn f [],true))
  (hr:AX P ops rest { e:=(d,.whn (b==want) r)::s.e,h:=s.h,n:=s.n,N:=s.N } K)
  (hx:IJ (b==want) s.e s.h xs.toList bs:=by repeat' first | exact trivial | refine⟨⟨_,iL,.d rfl⟩,?_⟩ | refine⟨⟨_,iL,.g2 rfl rfl⟩,?_⟩ | refine⟨⟨_,iL,.one (.own rfl)⟩,?_⟩ | refine⟨⟨_,iR rfl,.d rfl⟩,?_⟩ | refine⟨⟨_,iR rfl,.g2 rfl rfl⟩,?_⟩):AX P ops (o::rest) s K:=by
 simp only[rf] at hg
 obtain⟨h1,h2,h3,h4,h5,h6,h7,h8⟩:=hg
 exact AX.stepW (.one h1 h4 h5) h2 h3 (Cw (caps:=[]) h6 (.inl h7) rfl hx (λhc=>by rw[tN];exact hq hc) h8) hr
end
section
variable{P:Program}{Q:Exit→St→Prop}{s:St}{x y:Code}
theorem aU{id}{l:List Oper}(h:AX P l.toArray l s λj=>AW P y Q j):AW P (.seq (.region id l.toArray false) y) Q s:=.seq (.region h)
theorem aT(h:∀ {K:St→Prop},(∀s,AW P y Q s→K s)→AW P x (HH K Q) s):AW P (.seq x y) Q s:=qz λ_ j=>h j
theorem cI{α:Type}{b:Bool}{c:Operand}{X Y Z:α}(hc:BP s.e c=.r (.bool b))(h:(if b=true then X else Y)=Z)(j:X=Z→AW P x Q s)(l:Y=Z→AW P y Q s):AW P (.cond c x y) Q s:=
 AW.cond hc (λe=>j (DN e h)) (λe=>l (DH e h))
end
theorem mF{P:Program}{f}{fn:Func}{code}{args:List AV}{r:AV}{N}(l:P.funcs[f]?=some fn)(m:fn.ntmps=N)
 (j : (fn.body, fn.name == "runtime.NumGoroutine", r.closed, Nat.ble args.length N) = (some code, false, true, true)) (hw : ∀ q, AW P code (Jw P fn.results.toList r) ⟨Fq 0 args, [], q, N⟩) : AR P f args r := by
  simp only[rf] at j
  obtain⟨w, A, B, C⟩ := j
  exact qt l w A m B (sx C) hw
theorem oZ{P}{ops}{s}{K}{y}{Q}(j:∀s,AW P y Q s→K s)(h:AW P y Q s):AX P ops [] s K:=AX.nil (j _ h)
def ZL(t i:Nat):List PO→Nat→Option Nat→Option Nat
 | [],_,r=>r
 | p::L,k,r=>match Nat.blt k i with
  | true=>ZL t i L (k+1) (match p.d with
   | some d=>(match Nat.beq d t with
    | true=>some k
    | false=>r)
   | none=>r)
  | false=>r
def Wd(t i:Nat):List PO→Nat→Option Nat→Option Nat
 | [],_,r=>r
 | p::L,k,r=>match Nat.blt k i with
  | true=>Wd t i L (k+1) (match p.hp with
   | some (d,_)=>(match Nat.beq d t with
    | true=>some k
    | false=>r)
   | none=>r)
  | false=>r
section
variable{P:Program}{ops:Array Oper}{s:St}{L:List PO}{i:Nat}{p:PO}{o:Oper}
theorem R9{D}{G}{e}{t j}(l:Cj ops D i)(_:ZL t i L 0 none=some j){p:PO}{a}(m:L[j]?=some p)(hd:p.d=some t)(hw:wt ops 40 i j=true)(hB:LA (L.drop (j+1)) t=true)(q:p.v G=a):get (D5 D G e L) t=a:=Vq l j m hd hw hB q
theorem RF{D}{G}{h}{t j}(l:Cj ops D i)(_:Wd t i L 0 none=some j){p:PO}{ob}{a}(m:L[j]?=some p)(hd:p.hp=some (t,ob))(hw:wt ops 40 i j=true)(hB:Mm ops i t (L.drop (j+1)) (j+1)=true)(q:ob G=a):hget (D0 D G h L) t=a:=lS l j m hd hw hB q
theorem oB(ie:Am)(ih:Ag)(h:∀ {G e h'},AY P true o (ie++e) (ih++h') (p.v G))
  (hg:o.guard=none:=by rfl) (hd:o.dst=p.d:=by rfl) (hN:∀d,p.d=some d→Nat.blt d s.N=true:=by intro d h;cases h<;>rfl) (hp:p.hp=none:=by rfl) (hv:∀G n,p.v (DV G i n)=p.v G:=by intros;rfl)
  (hE:∀D G,Cj ops D i→Hr (D5 D G s.e L) ie:=by intro _ _ hr;repeat' first | exact trivial | refine⟨Qr rfl rfl,?_⟩ | refine⟨R9 hr rfl rfl rfl (by kernel_rfl) rfl rfl,?_⟩ | refine⟨inE_baseL hr (by kernel_rfl) rfl,?_⟩)
  (hH:∀D G,Cj ops D i→Hl (D0 D G s.h L) ih:=by intro _ _ hr;repeat' first | exact trivial | refine⟨P7 rfl rfl,?_⟩ | refine⟨RF hr rfl rfl rfl (by kernel_rfl) (by kernel_rfl) rfl,?_⟩ | refine⟨Qx hr (by kernel_rfl) rfl,?_⟩):Ob P ops s L i p o:=
 VO (n1:=λn=>n) hg hd hN hp (λ_=>ie) (λ_=>ih) hE hH hv λ_ _ _ _=>B2 h _
theorem oC(ie:(Nat→Nat)→Am)(ih:(Nat→Nat)→Ag)(h:∀G e h',AY P true o (ie G++e) (ih G++h') (p.v G))
  (hg:o.guard=none:=by rfl) (hd:o.dst=p.d:=by rfl) (hN:∀d,p.d=some d→Nat.blt d s.N=true:=by intro d h;cases h<;>rfl) (hp:p.hp=none:=by rfl) (hv:∀G n,p.v (DV G i n)=p.v G:=by intros;rfl)
  (hE:∀D G,Cj ops D i→Hr (D5 D G s.e L) (ie G):=by intro _ _ hr;repeat' first | exact trivial | refine⟨Qr rfl rfl,?_⟩ | refine⟨R9 hr rfl rfl rfl (by kernel_rfl) rfl rfl,?_⟩ | refine⟨inE_baseL hr (by kernel_rfl) rfl,?_⟩)
  (hH:∀D G,Cj ops D i→Hl (D0 D G s.h L) (ih G):=by intro _ _ hr;repeat' first | exact trivial | refine⟨P7 rfl rfl,?_⟩ | refine⟨RF hr rfl rfl rfl (by kernel_rfl) (by kernel_rfl) rfl,?_⟩ | refine⟨Qx hr (by kernel_rfl) rfl,?_⟩):Ob P ops s L i p o:=
 VO (n1:=λn=>n) hg hd hN hp ie ih hE hH hv λG e h' _=>B2 (h G e h') _
theorem oD(ie:(Nat→Nat)→Am)(ih:(Nat→Nat)→Ag){n1:Nat→Nat}(h:∀G e h' n,BQ P true o (ie G++e) (ih G++h') n (p.v G) (ih G++h') (n1 n))
  (hg:o.guard=none:=by rfl) (hd:o.dst=p.d:=by rfl) (hN:∀d,p.d=some d→Nat.blt d s.N=true:=by intro d h;cases h<;>rfl) (hp:p.hp=none:=by rfl) (hv:∀G n,p.v (DV G i n)=p.v G:=by intros;rfl)
  (hE:∀D G,Cj ops D i→Hr (D5 D G s.e L) (ie G):=by intro _ _ hr;repeat' first | exact trivial | refine⟨Qr rfl rfl,?_⟩ | refine⟨R9 hr rfl rfl rfl (by kernel_rfl) rfl rfl,?_⟩ | refine⟨inE_baseL hr (by kernel_rfl) rfl,?_⟩)
  (hH:∀D G,Cj ops D i→Hl (D0 D G s.h L) (ih G):=by intro _ _ hr;repeat' first | exact trivial | refine⟨P7 rfl rfl,?_⟩ | refine⟨RF hr rfl rfl rfl (by kernel_rfl) (by kernel_rfl) rfl,?_⟩ | refine⟨Qx hr (by kernel_rfl) rfl,?_⟩):Ob P ops s L i p o:=
 VO hg hd hN hp ie ih hE hH hv h
theorem oM{id:Nat}{ob:(Nat→Nat)→Option Ab}{n1:Nat→Nat}(ie:(Nat→Nat)→Am)(ih:(Nat→Nat)→Ag)(hp:p.hp=some (id,ob))(h:∀(G:Nat→Nat) e h' n,BQ P true o (ie G++e) (ih G++h') n (p.v (DV G i n)) ((id,ob (DV G i n))::(ih G++h')) (n1 n))
  (hg:o.guard=none:=by rfl) (hd:o.dst=p.d:=by rfl) (hN:∀d,p.d=some d→Nat.blt d s.N=true:=by intro d h;cases h<;>rfl)
  (hE:∀D G,Cj ops D i→Hr (D5 D G s.e L) (ie G):=by intro _ _ hr;repeat' first | exact trivial | refine⟨Qr rfl rfl,?_⟩ | refine⟨R9 hr rfl rfl rfl (by kernel_rfl) rfl rfl,?_⟩ | refine⟨inE_baseL hr (by kernel_rfl) rfl,?_⟩)
  (hH:∀D G,Cj ops D i→Hl (D0 D G s.h L) (ih G):=by intro _ _ hr;repeat' first | exact trivial | refine⟨P7 rfl rfl,?_⟩ | refine⟨RF hr rfl rfl rfl (by kernel_rfl) (by kernel_rfl) rfl,?_⟩ | refine⟨Qx hr (by kernel_rfl) rfl,?_⟩):Ob P ops s L i p o:=
 qu hg hd hN hp ie ih hE hH h
end
@[reducible] def pO(d:Nat)(v:AV):PO:=⟨some d,λ_=>v,none,[]⟩
theorem rP{P:Program}{id:Nat}{l:List Oper}{s:St}{Q:Exit→St→Prop}(n:Nat)(L:List PO){lt:List Oper}(hm:P.follows .mixedOrders=true)(e4:l.drop n=lt)(hOb:KG P l.toArray s L 0 L l)
  (h:∀(G:Nat→Nat) (n':Nat),AX P l.toArray lt ⟨D5 (λ_=>true) G s.e L,D0 (λ_=>true) G s.h L,n',s.N⟩ (Q .normal)) (hB:US l.toArray n L=true:=by kernel_rfl)
  (hLoc:IK L:=by repeat' first | exact trivial | refine⟨λ_ _ _=>⟨rfl,λ_ _ e=>by cases e<;>rfl⟩,?_⟩):AW P (.region id l.toArray true) Q s:=Iw n L hm hB hLoc e4 hOb h
theorem wk{s s'}(h:AZ s s':=by refine AZ.cv ?_ ?_ nL<;>repeat (first | exact trivial | refine⟨jL,?_⟩ | refine⟨.inl rfl,?_⟩)):AZ s s':=h
section
variable{P:Program}{ops:Array Oper}{rest:List Oper}{K:St→Prop}{o:Oper}{s:St}
theorem mM{d}{x}(hg:(o.guard,o.dst,Nat.blt d s.N,o.op)=(none,some d,true,.move x))(j:AX P ops rest { e:=(d,BP s.e x)::s.e,h:=s.h,n:=s.n,N:=s.N } K):AX P ops (o::rest) s K:=by
 simp only[rf] at hg
 obtain⟨l,m,q,w⟩:=hg
 exact AX.step l m q (B2 (AK w (.inl rfl)) _) j
theorem mA{d}{x}(hg:(o.guard,o.dst,Nat.blt d s.N,o.op)=(none,some d,true,.assign x))(j:AX P ops rest { e:=(d,BP s.e x)::s.e,h:=s.h,n:=s.n,N:=s.N } K):AX P ops (o::rest) s K:=by
 simp only[rf] at hg
 obtain⟨l,m,q,w⟩:=hg
 exact AX.step l m q (B2 (Ek w (.inl rfl)) _) j
theorem vM{d j m}{l b}{x}(hg:(o.guard, o.dst, Nat.blt d s.N, (ops[j]?).bind (·.dst), BP s.e (.tmp m), o.op)=(some (j, l), some d, true, some m, .r (.bool b), .move x))
 (q:AX P ops rest { e := (d, .whn (b==l) (BP s.e x))::s.e, h := s.h, n := s.n, N := s.N } K):AX P ops (o::rest) s K := by
  simp only[rf] at hg
  obtain⟨w, A, B, C, E, F⟩ := hg
  exact AX.stepW (.one w C E) A B (B2 (AK F (.inl rfl)) _) q
end
section
variable{P:Program}{ops:Array Oper}{rest:List Oper}{K:St→Prop}{o:Oper}{s:St}{d:Nat}{x y:Operand}
theorem one{v}(hg:o.guard=none)(hd:o.dst=some d)(j:Nat.blt d s.N=true)(l:AY P true o s.e s.h v)(m:AX P ops rest { e:=(d,v)::s.e,h:=s.h,n:=s.n,N:=s.N } K):AX P ops (o::rest) s K:=AX.step hg hd j (B2 l _) m
theorem xI{α:Type}{f}{t e}{sz b}{l:List α}{k}{z}{a}(m:Br P t e sz b)(hg:(o.guard, o.dst, Nat.blt d s.N, o.op, BP s.e x, BP s.e y)=(none, some d, true, .indexAddr t x y, .r (.sl (l.map f)), .r (.int k z)))
 (q:AM l z=some a) (w:AX P ops rest { e := (d, .rop (f a) 0)::s.e, h := s.h, n := s.n, N := s.N } K) (j:∀a, (f a).length=sz := by intro _;rfl):AX P ops (o::rest) s K := by
  simp only[rf] at hg
  exact one hg.1 hg.2.1 hg.2.2.1 (BB hg.2.2.2.1 m.slice (.inl hg.2.2.2.2.1) (.inl hg.2.2.2.2.2) j λ_ => q) w
theorem xL{α:Type}{f}{t e}{sz b}{l:List α}(j:Br P t e sz b)(hg:(o.guard, o.dst, Nat.blt d s.N, o.op, BP s.e x)=(none, some d, true, .call { callee := .builtin .len, args := #[x], argTypes := #[t] }, .r (.sl (l.map f))))
 (m:AX P ops rest { e := (d, .r (.int .i64 l.length))::s.e, h := s.h, n := s.n, N := s.N } K):AX P ops (o::rest) s K := by
  simp only[rf] at hg
  exact one hg.1 hg.2.1 hg.2.2.1 (Cv hg.2.2.2.1 j.slice (.inl hg.2.2.2.2)) m
theorem xA{t j}{k}{a b r}(hg:(o.guard, o.dst, Nat.blt d s.N, o.op, BP s.e x, BP s.e y)=(none, some d, true, .binOp .add t x y j, .r (.int k a), .r (.int k b)))
 (l:AS k (a+b)=some r) (m:AX P ops rest { e := (d, .r (.int k r))::s.e, h := s.h, n := s.n, N := s.N } K):AX P ops (o::rest) s K := by
  simp only[rf] at hg
  exact one hg.1 hg.2.1 hg.2.2.1 (Iu hg.2.2.2.1 (.inl hg.2.2.2.2.1) (.inl hg.2.2.2.2.2) λ_ => l) m
theorem xN{a b}(hg:(o.guard, o.dst, Nat.blt d s.N, o.op, BP s.e x, BP s.e y)=(none, some d, true, .pick x y (.const (.bool false)), .r (.bool a), .whn (a==true) (.r (.bool b))))
 (j:AX P ops rest { e := (d, .r (.bool (a&&b)))::s.e, h := s.h, n := s.n, N := s.N } K):AX P ops (o::rest) s K := by
  simp only[rf] at hg
  exact one hg.1 hg.2.1 hg.2.2.1 (Bb hg.2.2.2.1 (.inl hg.2.2.2.2.1) (iR hg.2.2.2.2.2)) j
theorem xO{a b}(hg:(o.guard, o.dst, Nat.blt d s.N, o.op, BP s.e x, BP s.e y)=(none, some d, true, .pick x (.const (.bool true)) y, .r (.bool a), .whn (a==false) (.r (.bool b))))
 (j:AX P ops rest { e := (d, .r (.bool (a||b)))::s.e, h := s.h, n := s.n, N := s.N } K):AX P ops (o::rest) s K := by
  simp only[rf] at hg
  exact one hg.1 hg.2.1 hg.2.2.1 (CZ hg.2.2.2.1 (.inl hg.2.2.2.2.1) (iR hg.2.2.2.2.2)) j
theorem xB{t}{row:List RV}{sz}(cs:List AV)(j:Bo P t sz)(hg:(o.guard, o.dst, Nat.blt d s.N, o.op, BP s.e x, row.length, row.map AV.r)=(none, some d, true, .load t x, .rop row 0, sz, cs))
 (l:AX P ops rest { e := (d, .agg cs)::s.e, h := s.h, n := s.n, N := s.N } K):AX P ops (o::rest) s K := by
  simp only[rf] at hg
  exact one hg.1 hg.2.1 hg.2.2.1 (Ce hg.2.2.2.1 j (.inl hg.2.2.2.2.1) hg.2.2.2.2.2.1 hg.2.2.2.2.2.2) l
theorem xC{t}{id g}{e}{sz}{cs:List AV}(j:Bo P t sz)(hg:(o.guard, o.dst, Nat.blt d s.N, o.op, BP s.e x, hget s.h id, cs.length)=(none, some d, true, .load t x, .ptr id g 0 0, some (.box g e cs), sz))
 (l:AX P ops rest { e := (d, .agg cs)::s.e, h := s.h, n := s.n, N := s.N } K):AX P ops (o::rest) s K := by
  simp only[rf] at hg
  exact one hg.1 hg.2.1 hg.2.2.1 (DG hg.2.2.2.1 j (.inl hg.2.2.2.2.1) hg.2.2.2.2.2.1 hg.2.2.2.2.2.2) l
theorem xV{t}{row}{k}(r:RV)(j:BY P t)(hg:(o.guard, o.dst, Nat.blt d s.N, o.op, BP s.e x, row[k]?)=(none, some d, true, .load t x, .rop row k, some r))
 (l:AX P ops rest { e := (d, .r r)::s.e, h := s.h, n := s.n, N := s.N } K):AX P ops (o::rest) s K := by
  simp only[rf] at hg
  exact one hg.1 hg.2.1 hg.2.2.1 (Bt hg.2.2.2.1 j (.inl hg.2.2.2.2.1) hg.2.2.2.2.2) l
theorem xX{vs}{i}{a}(hg:(o.guard, o.dst, Nat.blt d s.N, o.op, BP s.e x, vs[i]?)=(none, some d, true, .extract x i, .tup vs, some a))
 (j:AX P ops rest { e := (d, a)::s.e, h := s.h, n := s.n, N := s.N } K):AX P ops (o::rest) s K := by
  simp only[rf] at hg
  exact one hg.1 hg.2.1 hg.2.2.1 (Sj hg.2.2.2.1 (.inl hg.2.2.2.2.1) hg.2.2.2.2.2) j
theorem xS{t j}{k}{a b}(hg:(o.guard, o.dst, Nat.blt d s.N, o.op, BP s.e x, BP s.e y)=(none, some d, true, .binOp .lss t x y j, .r (.int k a), .r (.int k b)))
 (l:AX P ops rest { e := (d, .r (.bool (decide (a<b))))::s.e, h := s.h, n := s.n, N := s.N } K):AX P ops (o::rest) s K := by
  simp only[rf] at hg
  exact one hg.1 hg.2.1 hg.2.2.1 (CN hg.2.2.2.1 (.inl hg.2.2.2.2.1) (.inl hg.2.2.2.2.2)) l
theorem xQ{t j}{k}{a b}(hg:(o.guard, o.dst, Nat.blt d s.N, o.op, BP s.e x, BP s.e y)=(none, some d, true, .binOp .eql t x y j, .r (.int k a), .r (.int k b)))
 (l:AX P ops rest { e := (d, .r (.bool (decide (a=b))))::s.e, h := s.h, n := s.n, N := s.N } K):AX P ops (o::rest) s K := by
  simp only[rf] at hg
  exact one hg.1 hg.2.1 hg.2.2.1 (A9 hg.2.2.2.1 (.inl hg.2.2.2.2.1) (.inl hg.2.2.2.2.2)) l
theorem xU{t j}{k}{a b}(hg:(o.guard, o.dst, Nat.blt d s.N, o.op, BP s.e x, BP s.e y)=(none, some d, true, .binOp .neq t x y j, .r (.int k a), .r (.int k b)))
 (l:AX P ops rest { e := (d, .r (.bool (!(a=b))))::s.e, h := s.h, n := s.n, N := s.N } K):AX P ops (o::rest) s K := by
  simp only[rf] at hg
  exact one hg.1 hg.2.1 hg.2.2.1 (DL hg.2.2.2.1 (.inl hg.2.2.2.2.1) (.inl hg.2.2.2.2.2)) l
end
theorem xH{ρ α:Type}{o:ρ}{v:α ⊕ ρ}{q:ρ}(j:∀q,v=.inr q→o=q)(h:some (.inr q)=some v):o=q:=j _ (rx h).symm
theorem Yq{P}{T r}{s:St}{t}(e:some T=some r)(h:get s.e t=rI T):Jw P [.tmp t] (rI r) .ret s:=Bz (λr=>rI r) e (.inl rfl) (.t (.d h))
theorem WV{P}{T r}{s:St}{t}(e:some T=some r)(h:get s.e t=rB T):Jw P [.tmp t] (rB r) .ret s:=Bz (λr=>rB r) e (.inl rfl) (.t (.d h))
theorem zI{P}{T r}{s:St}{t id}{x}{o:Oper}{Q}(e:some T=some r)(h:(o.guard, o.dst, Nat.blt t s.N, o.op, BP s.e x)=(none, some t, true, .assign x, rI T))
 (k:Jw P [.tmp t] (rI r) .ret { e := (t, BP s.e x)::s.e, h := s.h, n := s.n, N := s.N } → Q .ret { e := (t, BP s.e x)::s.e, h := s.h, n := s.n, N := s.N }):AW P (.seq (.region id [o].toArray false) .ret) Q s := by
  simp only[rf] at h
  refine aU (AX.step h.1 h.2.1 h.2.2.1 (B2 (Ek h.2.2.2.1 (.inl rfl)) _) (AX.nil (AW.ret (k (Yq e ?_)))))
  show get (_::_) t=_
  unfold get
  rw[Nat.beq_refl]
  exact h.2.2.2.2
theorem zB{P}{T r}{s:St}{t id}{x}{o:Oper}{Q}(e:some T=some r)(h:(o.guard, o.dst, Nat.blt t s.N, o.op, BP s.e x)=(none, some t, true, .assign x, rB T))
 (k:Jw P [.tmp t] (rB r) .ret { e := (t, BP s.e x)::s.e, h := s.h, n := s.n, N := s.N } → Q .ret { e := (t, BP s.e x)::s.e, h := s.h, n := s.n, N := s.N }):AW P (.seq (.region id [o].toArray false) .ret) Q s := by
  simp only[rf] at h
  refine aU (AX.step h.1 h.2.1 h.2.2.1 (B2 (Ek h.2.2.2.1 (.inl rfl)) _) (AX.nil (AW.ret (k (WV e ?_)))))
  show get (_::_) t=_
  unfold get
  rw[Nat.beq_refl]
  exact h.2.2.2.2
@[reducible] def rL{α:Type}(l:List α):AV:=rI (l.length:Int)
@[reducible] def rS(l:List UInt8):AV:=.r (.str l)
abbrev NN:=Nat→Nat
open Go.WideShapes
section
variable{H:Type}(K:G5 H){enc:TypeId × Value→H}{P:Program}{W:World}
theorem WJ{t:TypeId}{w:Array Field}{α:Type}{f:α→List RV}{ok:α→Prop}{μ:α→Nat}{v:Value}{d:DataW H}{p:List MemPlace}{r:Reach}{A:Nat}(B:P.underlying t=some (.struct w))(C:BX K enc P W t f ok μ)
  (j:Value.okWide P W r A t v) (h:DataW.Trod enc P W 0 (λ_=>true) true t v d p):∃a,ok a∧AO (Cx.start W) (.agg ((f a).map .r)) v∧μ a≤K.B d:=by
 obtain⟨O,rfl,_⟩:=okWide_struct B j
 obtain⟨l,E⟩:=h
 obtain⟨a,F,m,I⟩:=C l _ _ E
 refine⟨a,F,.agg ?_ λi c u q J=>?_,I⟩
 ·have:=m.1
  rw[rt,← this];rfl
 ·rw[rc,rg] at q
  obtain⟨M,hd,rfl⟩:=q
  exact .r (m.2 i M u hd (by rw[← J];exact sX))
end
end Go.Proofs.YtifgmfoihehlbaaGreatDoor.Al

namespace Go.Proofs.YtifgmfoihehlbaaGreatDoor.Al
open Go.Lib
theorem Yb{W:World}{g}{row}(h:∀j d,row[j]?=some d→∃v,W.cell? ⟨g,j,none⟩=some v∧A5 W (· < W.heap.size) d v):AO (Cx.start W) (.rop row 0) (.pointer (some ⟨g,0,none⟩)):=by
 have q:row≠[]→g<W.heap.size:=by
  intro w
  obtain⟨d,hd⟩:∃d,row[0]?=some d:=by
   cases row with
   | nil=>exact absurd rfl w
   | cons d r=>exact⟨d,rfl⟩
  obtain⟨v,l,_⟩:=h 0 d hd
  unfold World.cell? at l
  rcases tr g W.heap.size with m | m
  ·exact m
  ·rw[tV m] at l;cases l
 exact AO.rop (x:=Cx.start W) (row:=row) (k:=0) (b:=g) (off:=0) (λj=>(W.cell? ⟨g,j,none⟩).getD undef) q
  (λj d A=>by obtain⟨v,l,_⟩:=h j d A;rw[sF];show W.cell? _=_;rw[l];rfl)
  (λj d A=>by obtain⟨v,l,m⟩:=h j d A;rw[l];exact m)
theorem Vn{α β:Type}(f:α→β):∀(l:List α) (j:Nat),(l.flatMap λz=>[f z])[j]?=(l[j]?).map f
 | [],j=>by simp
 | x::l,0=>by simp
 | x::l,j+1=>by
  have:=Vn f l j
  rw[ss,List.singleton_append,td,this,td]
theorem XJ{α β:Type}(f g:α→β):∀(l:List α) (j:Nat) (d:β),(l.flatMap λz=>[f z,g z])[j]?=some d→∃i a,l[i]?=some a∧((j=2 * i∧d=f a)∨(j=2 * i+1∧d=g a))
 | [],j,d,h=>by simp at h
 | x::l,0,d,h=>by
  have:f x=d:=by simpa using h
  exact⟨0,x,rfl,.inl ⟨rfl,this.symm⟩⟩
 | x::l,1,d,h=>by
  have:g x=d:=by simpa using h
  exact⟨0,x,rfl,.inr ⟨rfl,this.symm⟩⟩
 | x::l,j+2,d,h=>by
  rw[ss] at h
  have w:(l.flatMap λz=>[f z,g z])[j]?=some d:=by simpa using h
  obtain⟨i,a,A,m⟩:=XJ f g l j d w
  refine⟨i+1,a,by simpa using A,?_⟩
  rcases m with ⟨m,q⟩ | ⟨m,q⟩
  ·exact .inl ⟨by omega,q⟩
  ·exact .inr ⟨by omega,q⟩
theorem n8{P:Program}{W:World}{w}{k}{A:List Int}{g n}{t e}{d}(C:VarReads P W w d)(l:d=tabData k A)(n1:P.globalNamed w=some g)
 (E:(P.globals[g]?).map (·.type)=some t) (F:P.underlying t=some (.array n e)) (I:P.underlying e=some (.int k)) (ce:P.cellsOf e=1) (J:P.cellsOf t=n):∃t p, W.heap[g]?=some (.cells ((A.map λz => Value.int k z).toArray) t p) := by
  obtain⟨U, V, X, B, p, hg, m, j, hd⟩ := C
  obtain rfl := rx (n1.symm.trans hg)
  obtain rfl := rx (E.symm.trans m)
  subst l
  have q := cells_of_tab F I ce J hd
  unfold World.var? at j
  rw[n1] at j
  simp only[sJ] at j
  split at j
  · rename_i c M O T
    cases j
    refine⟨M, O, ?_⟩
    rw[T, ← q]
  · cases j
theorem fC {P : Program} {W : World} {d1 d2 : DataW Unit} {t1 t2 e1 e2 : TypeId} {fs : Array Field} (h1 : VarReads P W "unicode/utf8.first" d1) (hd1 : d1 = tabData .u8 GP) (n1 : P.globalNamed "unicode/utf8.first" = some H7)
  (y1:(P.globals[H7]?).map (·.type)=some t1) (u1:P.underlying t1=some (.array 256 e1)) (ue:P.underlying e1=some (.int .u8)) (ce:P.cellsOf e1=1) (ct:P.cellsOf t1=256)
  (h2 : VarReads P W "unicode/utf8.acceptRanges" d2) (hd2 : d2 = .agg (I0.map fun p => .agg ([p.1, p.2].map fun z => .lit (.int .u8 z)))) (n2 : P.globalNamed "unicode/utf8.acceptRanges" = some Il)
  (y2:(P.globals[Il]?).map (·.type)=some t2) (u2:P.underlying t2=some (.array 16 e2)) (us:P.underlying e2=some (.struct fs)) (hfs:∀(i:Nat) (f:Field),fs[i]?=some f→P.underlying f.type=some (.int .u8)∧f.offset=i∧P.cellsOf f.type=1)
  (hsz:fs.size=2) (c2:P.cellsOf e2=2)
  (hw:∀g cs,SP g=some cs→0<cs.size∧∃t p,W.heap[g]?=some (.cells cs t p):=by intro _ _ h;cases h) (hF:Ur W:=by trivial):Eh (Cx.start W):=by
 refine⟨λg row hg=>?_,λg cs hg=>⟨?_,hw g cs hg⟩,W,hF,Go.RowKit.Below.refl _ _,λ_ h=>h⟩
 rotate_left
 ·obtain⟨_,t,p,h⟩:=hw g cs hg
  show g<W.heap.size
  exact(sW.1 h).1
 unfold Hh at hg
 by_cases hF:g=H7
 ·rw[rO hF] at hg
  cases hg
  subst hF
  obtain⟨g,t,cs,fuel,p,hg,hty,hvar,hd⟩:=h1
  obtain rfl:=rx (n1.symm.trans hg)
  obtain rfl:=rx (y1.symm.trans hty)
  subst hd1
  have hcs:=cells_of_tab u1 ue ce ct hd
  refine Yb λj d hj=>?_
  rw[Vn,rg] at hj
  obtain⟨z,hz,rfl⟩:=hj
  refine⟨.int .u8 z,?_,.int _ _⟩
  rw[World.var?_cell hg hvar j,← sX,hcs,rc,hz];rfl
 ·rw[rN hF] at hg
  by_cases hA:g=Il
  ·rw[rO hA] at hg
   cases hg
   subst hA
   obtain⟨g,t,cs,fuel,p,hg,hty,hvar,hd⟩:=h2
   obtain rfl:=rx (n2.symm.trans hg)
   obtain rfl:=rx (y2.symm.trans hty)
   subst hd2
   refine Yb λj d hj=>?_
   obtain⟨i,a,hi,hja⟩:=XJ _ _ _ _ _ hj
   have hil:i<16:=(rW.1 hi).1
   obtain⟨fuel',d',q,hdi,he⟩:=array_elem u2 hd i hil
   rw[rc,hi] at hdi
   cases hdi
   rw[c2] at he
   have hcs:=ints_of_struct us hfs (by rw[c2,hsz]) he
   have e0:=ro (·[0]?) hcs
   have e1:=ro (·[1]?) hcs
   simp only[sV,sT] at e0 e1
   rcases hja with ⟨rfl,rfl⟩ | ⟨rfl,rfl⟩
   ·refine⟨.int .u8 a.1,?_,.int _ _⟩
    rw[World.var?_cell hg hvar (2 * i),← sX]
    simpa[tZ] using e0
   ·refine⟨.int .u8 a.2,?_,.int _ _⟩
    rw[World.var?_cell hg hvar (2 * i+1),← sX]
    simpa[tZ] using e1
  ·rw[rN hA] at hg;cases hg
end Go.Proofs.YtifgmfoihehlbaaGreatDoor.Al
