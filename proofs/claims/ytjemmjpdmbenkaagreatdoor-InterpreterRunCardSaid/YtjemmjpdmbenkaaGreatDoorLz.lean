import Derived.Shelf.Strings.Trim
import Derived.Shelf.Small.Utf8
import Derived.Shelf.Small.Strs
import Derived.Shelf.Strconv.Itoa0
import Derived.Shelf.Strconv.Itoa1
import Derived.Shelf.LaysM
import Derived.Shelf.Strconv.Itoa2
import Derived.Shelf.Strconv.Itoa3
import Derived.Shelf.Strconv.ParseIntEmpty
import Derived.Shelf.Strconv.Clone
import Derived.Shelf.Strconv.SyntaxError
import Derived.Shelf.LaysC
import Derived.Shelf.Strconv.ToError
import Derived.Shelf.Strconv.Lower
import Derived.Shelf.Strconv.ParseUint10
import Derived.Shelf.Strconv.ParseUint10Empty
import Derived.Shelf.Strconv.ParseUint10Any
import Derived.Shelf.Strconv.ParseInt10
import Derived.Shelf.Strconv.RangeError
import Derived.Shelf.Strconv.ToErrorRange
import Derived.Shelf.Strconv.ParseUintEmpty
import Derived.Shelf.Strconv.ParseUint10b64
import Derived.Shelf.Strconv.ParseUint10b32
import Derived.Shelf.Strconv.ParseUint10b16
import Derived.Shelf.Strconv.ParseUint10b8
import Derived.Shelf.Strconv.ParseUint10At
import Derived.Shelf.Strconv.ParseInt10At64
import Derived.Shelf.Strconv.ParseInt10At32
import Derived.Shelf.Strconv.ParseInt10At16
import Derived.Shelf.Strconv.ParseInt10At8
import Derived.Shelf.Strconv.ParseInt10All
import Derived.Shelf.Strconv.ParseIntPublic10
import Derived.Shelf.Strings.Search1
import Derived.Shelf.Strings.Search2
import Derived.Shelf.Strings.Search3
import Derived.Shelf.Strings.Cut
import Derived.Shelf.Strings.Count
import Derived.Shelf.Strings.Shaped
import Derived.Shelf.Strings.Prefix
import Derived.Shelf.Strings.Split
import Derived.Shelf.Unicode.Decode
import Derived.Shelf.Strings.Runes
import Derived.Shelf.Strings.RuneCount
import Derived.Shelf.Strings.AsciiSet
import Derived.Shelf.Unicode.DecodeSlow
import Derived.Shelf.Unicode.DecodeAny
import Derived.Shelf.Unicode.DecodeLast
import Derived.Test.YtjemmjpdmbenkaaGreatDoorProg
namespace Go.Proofs.YtjemmjpdmbenkaaGreatDoor
open Go.Shelf
def lays160_ren:Go.Shelf.Ren:=⟨λ| 160=>208 | 232=>215 | 231=>214 | 227=>216 | 234=>218 | 233=>217 | 236=>220 | 235=>219 | 228=>226 | 271=>229 | 151=>228 | 197=>227 | 120=>237 | 152=>236 | 260=>235 | 137=>239 | 119=>240 | 224=>159 | 225=>158 | 217=>157 | 266=>190 | n=>n,λ| 9=>9 | 4=>4 | 3=>3 | 5=>5 | 117=>285 | 116=>284 | 0=>0 | 124=>288 | 21=>21 | 105=>295 | 46=>238 | 119=>309 | 139=>312 | 138=>311 | n=>n,λ| 3=>4 | 4=>5 | n=>n⟩
theorem lays160:Go.Proofs.Lays.n160 Tryz.prog lays160_ren:={
 mixed:=by kernel_rfl
 f119:=Tryz.func240.trans (congrArg some (by kernel_rfl))
 f120:=Tryz.func237.trans (congrArg some (by kernel_rfl))
 f137:=Tryz.func239.trans (congrArg some (by kernel_rfl))
 f151:=Tryz.func228.trans (congrArg some (by kernel_rfl))
 f152:=Tryz.func236.trans (congrArg some (by kernel_rfl))
 f160:=Tryz.func208.trans (congrArg some (by kernel_rfl))
 f197:=Tryz.func227.trans (congrArg some (by kernel_rfl))
 f217:=Tryz.func157.trans (congrArg some (by kernel_rfl))
 f224:=Tryz.func159.trans (congrArg some (by kernel_rfl))
 f225:=Tryz.func158.trans (congrArg some (by kernel_rfl))
 f227:=Tryz.func216.trans (congrArg some (by kernel_rfl))
 f228:=Tryz.func226.trans (congrArg some (by kernel_rfl))
 f231:=Tryz.func214.trans (congrArg some (by kernel_rfl))
 f232:=Tryz.func215.trans (congrArg some (by kernel_rfl))
 f233:=Tryz.func217.trans (congrArg some (by kernel_rfl))
 f234:=Tryz.func218.trans (congrArg some (by kernel_rfl))
 f235:=Tryz.func219.trans (congrArg some (by kernel_rfl))
 f236:=Tryz.func220.trans (congrArg some (by kernel_rfl))
 f260:=Tryz.func235.trans (congrArg some (by kernel_rfl))
 f266:=Tryz.func190.trans (congrArg some (by kernel_rfl))
 f271:=Tryz.func229.trans (congrArg some (by kernel_rfl))
 t0:=Tryz.underlying0
 a0:=Tryz.isAgg0
 z0:=Tryz.sizeOf0
 v0:=Tryz.zeroValue0
 t3:=Tryz.underlying3
 a3:=Tryz.isAgg3
 z3:=Tryz.sizeOf3
 v3:=Tryz.zeroValue3
 t4:=Tryz.underlying4
 a4:=Tryz.isAgg4
 z4:=Tryz.sizeOf4
 v4:=Tryz.zeroValue4
 t5:=Tryz.underlying5
 a5:=Tryz.isAgg5
 z5:=Tryz.sizeOf5
 v5:=Tryz.zeroValue5
 t9:=Tryz.underlying9
 a9:=Tryz.isAgg9
 z9:=Tryz.sizeOf9
 v9:=Tryz.zeroValue9
 t21:=Tryz.underlying21
 a21:=Tryz.isAgg21
 z21:=Tryz.sizeOf21
 v21:=Tryz.zeroValue21
 t46:=Tryz.underlying238
 a46:=Tryz.isAgg238
 z46:=Tryz.sizeOf238
 v46:=Tryz.zeroValue238
 t105:=Tryz.underlying295
 a105:=Tryz.isAgg295
 z105:=Tryz.sizeOf295
 v105:=Tryz.zeroValue295
 t116:=Tryz.underlying284
 a116:=Tryz.isAgg284
 z116:=Tryz.sizeOf284
 t117:=Tryz.underlying285
 a117:=Tryz.isAgg285
 z117:=Tryz.sizeOf285
 v117:=Tryz.zeroValue285
 t119:=Tryz.underlying309
 a119:=Tryz.isAgg309
 z119:=Tryz.sizeOf309
 t124:=Tryz.underlying288
 a124:=Tryz.isAgg288
 z124:=Tryz.sizeOf288
 v124:=Tryz.zeroValue288
 t138:=Tryz.underlying311
 a138:=Tryz.isAgg311
 z138:=Tryz.sizeOf311
 v138:=Tryz.zeroValue311
 t139:=Tryz.underlying312
 a139:=Tryz.isAgg312
 z139:=Tryz.sizeOf312
 v139:=Tryz.zeroValue312
 g3:=by kernel_rfl
 g4:=by kernel_rfl }
def laysM171_ren:Go.Shelf.Ren:=⟨λ| 171=>234 | 243=>238 | 246=>241 | 283=>242 | 284=>243 | 285=>244 | 286=>245 | 129=>247 | 317=>246 | 318=>248 | 319=>249 | 320=>250 | 337=>251 | 338=>252 | n=>n,λ| 3=>3 | 9=>9 | 2=>2 | 4=>4 | 171=>315 | 0=>0 | 53=>208 | 37=>196 | 5=>5 | 173=>318 | 212=>321 | 51=>263 | 20=>20 | 213=>322 | 46=>238 | 232=>326 | 233=>327 | n=>n,λ| 17=>6 | 18=>7 | 19=>8 | n=>n⟩
theorem laysM171:Go.Proofs.LaysM.n171 Tryz.prog laysM171_ren:={
 mixed:=by kernel_rfl
 f129:=Tryz.func247.trans (congrArg some (by kernel_rfl))
 f171:=Tryz.func234.trans (congrArg some (by kernel_rfl))
 f243:=Tryz.func238.trans (congrArg some (by kernel_rfl))
 f246:=Tryz.func241.trans (congrArg some (by kernel_rfl))
 f283:=Tryz.func242.trans (congrArg some (by kernel_rfl))
 f284:=Tryz.func243.trans (congrArg some (by kernel_rfl))
 f285:=Tryz.func244.trans (congrArg some (by kernel_rfl))
 f286:=Tryz.func245.trans (congrArg some (by kernel_rfl))
 f317:=Tryz.func246.trans (congrArg some (by kernel_rfl))
 f318:=Tryz.func248.trans (congrArg some (by kernel_rfl))
 f319:=Tryz.func249.trans (congrArg some (by kernel_rfl))
 f320:=Tryz.func250.trans (congrArg some (by kernel_rfl))
 f337:=Tryz.func251.trans (congrArg some (by kernel_rfl))
 f338:=Tryz.func252.trans (congrArg some (by kernel_rfl))
 t0:=Tryz.underlying0
 a0:=Tryz.isAgg0
 z0:=Tryz.sizeOf0
 v0:=Tryz.zeroValue0
 t2:=Tryz.underlying2
 a2:=Tryz.isAgg2
 z2:=Tryz.sizeOf2
 v2:=Tryz.zeroValue2
 t3:=Tryz.underlying3
 a3:=Tryz.isAgg3
 z3:=Tryz.sizeOf3
 v3:=Tryz.zeroValue3
 t4:=Tryz.underlying4
 a4:=Tryz.isAgg4
 z4:=Tryz.sizeOf4
 v4:=Tryz.zeroValue4
 t5:=Tryz.underlying5
 a5:=Tryz.isAgg5
 z5:=Tryz.sizeOf5
 v5:=Tryz.zeroValue5
 t9:=Tryz.underlying9
 a9:=Tryz.isAgg9
 z9:=Tryz.sizeOf9
 v9:=Tryz.zeroValue9
 t20:=Tryz.underlying20
 a20:=Tryz.isAgg20
 z20:=Tryz.sizeOf20
 v20:=Tryz.zeroValue20
 t37:=Tryz.underlying196
 a37:=Tryz.isAgg196
 z37:=Tryz.sizeOf196
 v37:=Tryz.zeroValue196
 t46:=Tryz.underlying238
 a46:=Tryz.isAgg238
 z46:=Tryz.sizeOf238
 v46:=Tryz.zeroValue238
 t51:=Tryz.underlying263
 a51:=Tryz.isAgg263
 z51:=Tryz.sizeOf263
 v51:=Tryz.zeroValue263
 t53:=Tryz.underlying208
 a53:=Tryz.isAgg208
 z53:=Tryz.sizeOf208
 v53:=Tryz.zeroValue208
 t171:=Tryz.underlying315
 a171:=Tryz.isAgg315
 z171:=Tryz.sizeOf315
 v171:=Tryz.zeroValue315
 t173:=Tryz.underlying318
 a173:=Tryz.isAgg318
 z173:=Tryz.sizeOf318
 v173:=Tryz.zeroValue318
 t212:=Tryz.underlying321
 a212:=Tryz.isAgg321
 z212:=Tryz.sizeOf321
 v212:=Tryz.zeroValue321
 t213:=Tryz.underlying322
 a213:=Tryz.isAgg322
 z213:=Tryz.sizeOf322
 t232:=Tryz.underlying326
 a232:=Tryz.isAgg326
 z232:=Tryz.sizeOf326
 v232:=Tryz.zeroValue326
 t233:=Tryz.underlying327
 a233:=Tryz.isAgg327
 z233:=Tryz.sizeOf327
 v233:=Tryz.zeroValue327
 g17:=by kernel_rfl
 g18:=by kernel_rfl
 g19:=by kernel_rfl
 i0:=by kernel_rfl
 i2:=by kernel_rfl
 i3:=by kernel_rfl
 i4:=by kernel_rfl
 i5:=by kernel_rfl
 i9:=by kernel_rfl
 i20:=by kernel_rfl
 i37:=by kernel_rfl
 i46:=by kernel_rfl
 i51:=by kernel_rfl
 i53:=by kernel_rfl
 i171:=by kernel_rfl
 i173:=by kernel_rfl
 i212:=by kernel_rfl
 i232:=by kernel_rfl
 i233:=by kernel_rfl
 m17:=by kernel_rfl
 m18:=by kernel_rfl
 m19:=by kernel_rfl }
def laysC174_ren:Go.Shelf.Ren:=⟨λ| 174=>194 | 247=>209 | 245=>210 | 287=>221 | 279=>222 | 280=>223 | 281=>224 | 282=>225 | 321=>230 | 322=>231 | 316=>232 | 171=>234 | 205=>233 | 243=>238 | 246=>241 | 283=>242 | 284=>243 | 285=>244 | 286=>245 | 129=>247 | 317=>246 | 318=>248 | 319=>249 | 320=>250 | 337=>251 | 338=>252 | n=>n,λ| 9=>9 | 3=>3 | 2=>2 | 75=>269 | 85=>270 | 4=>4 | 167=>289 | 5=>5 | 53=>208 | 175=>290 | 46=>238 | 168=>292 | 37=>196 | 0=>0 | 210=>301 | 21=>21 | 127=>305 | 145=>308 | 143=>306 | 171=>315 | 173=>318 | 212=>321 | 51=>263 | 20=>20 | 213=>322 | 232=>326 | 233=>327 | 80=>328 | n=>n,λ| 15=>2 | 16=>3 | 17=>6 | 18=>7 | 19=>8 | n=>n⟩
theorem laysC174:Go.Proofs.LaysC.n174 Tryz.prog laysC174_ren:={
 mixed:=by kernel_rfl
 f129:=Tryz.func247.trans (congrArg some (by kernel_rfl))
 f171:=Tryz.func234.trans (congrArg some (by kernel_rfl))
 f174:=Tryz.func194.trans (congrArg some (by kernel_rfl))
 f205:=Tryz.func233.trans (congrArg some (by kernel_rfl))
 f243:=Tryz.func238.trans (congrArg some (by kernel_rfl))
 f245:=Tryz.func210.trans (congrArg some (by kernel_rfl))
 f246:=Tryz.func241.trans (congrArg some (by kernel_rfl))
 f247:=Tryz.func209.trans (congrArg some (by kernel_rfl))
 f279:=Tryz.func222.trans (congrArg some (by kernel_rfl))
 f280:=Tryz.func223.trans (congrArg some (by kernel_rfl))
 f281:=Tryz.func224.trans (congrArg some (by kernel_rfl))
 f282:=Tryz.func225.trans (congrArg some (by kernel_rfl))
 f283:=Tryz.func242.trans (congrArg some (by kernel_rfl))
 f284:=Tryz.func243.trans (congrArg some (by kernel_rfl))
 f285:=Tryz.func244.trans (congrArg some (by kernel_rfl))
 f286:=Tryz.func245.trans (congrArg some (by kernel_rfl))
 f287:=Tryz.func221.trans (congrArg some (by kernel_rfl))
 f316:=Tryz.func232.trans (congrArg some (by kernel_rfl))
 f317:=Tryz.func246.trans (congrArg some (by kernel_rfl))
 f318:=Tryz.func248.trans (congrArg some (by kernel_rfl))
 f319:=Tryz.func249.trans (congrArg some (by kernel_rfl))
 f320:=Tryz.func250.trans (congrArg some (by kernel_rfl))
 f321:=Tryz.func230.trans (congrArg some (by kernel_rfl))
 f322:=Tryz.func231.trans (congrArg some (by kernel_rfl))
 f337:=Tryz.func251.trans (congrArg some (by kernel_rfl))
 f338:=Tryz.func252.trans (congrArg some (by kernel_rfl))
 t0:=Tryz.underlying0
 a0:=Tryz.isAgg0
 z0:=Tryz.sizeOf0
 v0:=Tryz.zeroValue0
 t2:=Tryz.underlying2
 a2:=Tryz.isAgg2
 z2:=Tryz.sizeOf2
 v2:=Tryz.zeroValue2
 t3:=Tryz.underlying3
 a3:=Tryz.isAgg3
 z3:=Tryz.sizeOf3
 v3:=Tryz.zeroValue3
 t4:=Tryz.underlying4
 a4:=Tryz.isAgg4
 z4:=Tryz.sizeOf4
 v4:=Tryz.zeroValue4
 t5:=Tryz.underlying5
 a5:=Tryz.isAgg5
 z5:=Tryz.sizeOf5
 v5:=Tryz.zeroValue5
 t9:=Tryz.underlying9
 a9:=Tryz.isAgg9
 z9:=Tryz.sizeOf9
 v9:=Tryz.zeroValue9
 t20:=Tryz.underlying20
 a20:=Tryz.isAgg20
 z20:=Tryz.sizeOf20
 v20:=Tryz.zeroValue20
 t21:=Tryz.underlying21
 a21:=Tryz.isAgg21
 z21:=Tryz.sizeOf21
 v21:=Tryz.zeroValue21
 t37:=Tryz.underlying196
 a37:=Tryz.isAgg196
 z37:=Tryz.sizeOf196
 v37:=Tryz.zeroValue196
 t46:=Tryz.underlying238
 a46:=Tryz.isAgg238
 z46:=Tryz.sizeOf238
 v46:=Tryz.zeroValue238
 t51:=Tryz.underlying263
 a51:=Tryz.isAgg263
 z51:=Tryz.sizeOf263
 v51:=Tryz.zeroValue263
 t53:=Tryz.underlying208
 a53:=Tryz.isAgg208
 z53:=Tryz.sizeOf208
 v53:=Tryz.zeroValue208
 t75:=Tryz.underlying269
 a75:=Tryz.isAgg269
 z75:=Tryz.sizeOf269
 v75:=Tryz.zeroValue269
 t85:=Tryz.underlying270
 a85:=Tryz.isAgg270
 z85:=Tryz.sizeOf270
 v85:=Tryz.zeroValue270
 t127:=Tryz.underlying305
 a127:=Tryz.isAgg305
 z127:=Tryz.sizeOf305
 v127:=Tryz.zeroValue305
 t143:=Tryz.underlying306
 a143:=Tryz.isAgg306
 z143:=Tryz.sizeOf306
 v143:=Tryz.zeroValue306
 t145:=Tryz.underlying308
 a145:=Tryz.isAgg308
 z145:=Tryz.sizeOf308
 v145:=Tryz.zeroValue308
 t167:=Tryz.underlying289
 a167:=Tryz.isAgg289
 z167:=Tryz.sizeOf289
 v167:=Tryz.zeroValue289
 t168:=Tryz.underlying292
 a168:=Tryz.isAgg292
 z168:=Tryz.sizeOf292
 v168:=Tryz.zeroValue292
 t171:=Tryz.underlying315
 a171:=Tryz.isAgg315
 z171:=Tryz.sizeOf315
 v171:=Tryz.zeroValue315
 t173:=Tryz.underlying318
 a173:=Tryz.isAgg318
 z173:=Tryz.sizeOf318
 v173:=Tryz.zeroValue318
 t175:=Tryz.underlying290
 a175:=Tryz.isAgg290
 z175:=Tryz.sizeOf290
 v175:=Tryz.zeroValue290
 t210:=Tryz.underlying301
 a210:=Tryz.isAgg301
 z210:=Tryz.sizeOf301
 v210:=Tryz.zeroValue301
 t212:=Tryz.underlying321
 a212:=Tryz.isAgg321
 z212:=Tryz.sizeOf321
 v212:=Tryz.zeroValue321
 t213:=Tryz.underlying322
 a213:=Tryz.isAgg322
 z213:=Tryz.sizeOf322
 t232:=Tryz.underlying326
 a232:=Tryz.isAgg326
 z232:=Tryz.sizeOf326
 v232:=Tryz.zeroValue326
 t233:=Tryz.underlying327
 a233:=Tryz.isAgg327
 z233:=Tryz.sizeOf327
 v233:=Tryz.zeroValue327
 g15:=by kernel_rfl
 g16:=by kernel_rfl
 g17:=by kernel_rfl
 g18:=by kernel_rfl
 g19:=by kernel_rfl
 t80:=Tryz.underlying328
 a80:=Tryz.isAgg328
 z80:=Tryz.sizeOf328
 v80:=Tryz.zeroValue328
 i0:=by kernel_rfl
 i2:=by kernel_rfl
 i3:=by kernel_rfl
 i4:=by kernel_rfl
 i5:=by kernel_rfl
 i9:=by kernel_rfl
 i20:=by kernel_rfl
 i21:=by kernel_rfl
 i37:=by kernel_rfl
 i46:=by kernel_rfl
 i51:=by kernel_rfl
 i53:=by kernel_rfl
 i75:=by kernel_rfl
 i80:=by kernel_rfl
 i85:=by kernel_rfl
 i127:=by kernel_rfl
 i143:=by kernel_rfl
 i145:=by kernel_rfl
 i167:=by kernel_rfl
 i168:=by kernel_rfl
 i171:=by kernel_rfl
 i173:=by kernel_rfl
 i175:=by kernel_rfl
 i210:=by kernel_rfl
 i212:=by kernel_rfl
 i232:=by kernel_rfl
 i233:=by kernel_rfl
 m15:=by kernel_rfl
 m16:=by kernel_rfl
 m17:=by kernel_rfl
 m18:=by kernel_rfl
 m19:=by kernel_rfl
 c0:=by kernel_rfl
 c2:=by kernel_rfl
 c3:=by kernel_rfl
 c4:=by kernel_rfl
 c5:=by kernel_rfl
 c9:=by kernel_rfl
 c20:=by kernel_rfl
 c21:=by kernel_rfl
 c37:=by kernel_rfl
 c46:=by kernel_rfl
 c51:=by kernel_rfl
 c53:=by kernel_rfl
 c75:=by kernel_rfl
 c80:=by kernel_rfl
 c85:=by kernel_rfl
 c127:=by kernel_rfl
 c143:=by kernel_rfl
 c145:=by kernel_rfl
 c167:=by kernel_rfl
 c168:=by kernel_rfl
 c171:=by kernel_rfl
 c173:=by kernel_rfl
 c175:=by kernel_rfl
 c210:=by kernel_rfl
 c212:=by kernel_rfl
 c213:=by kernel_rfl
 c232:=by kernel_rfl
 c233:=by kernel_rfl }
def lays217_ren:Go.Shelf.Ren:=⟨λ| 217=>157 | 266=>190 | n=>n,λ| 9=>9 | 5=>5 | 3=>3 | n=>n,λ| n=>n⟩
theorem lays217:Go.Proofs.Lays.n217 Tryz.prog lays217_ren:={
 mixed:=by kernel_rfl
 f217:=Tryz.func157.trans (congrArg some (by kernel_rfl))
 f266:=Tryz.func190.trans (congrArg some (by kernel_rfl))
 t3:=Tryz.underlying3
 a3:=Tryz.isAgg3
 z3:=Tryz.sizeOf3
 v3:=Tryz.zeroValue3
 t5:=Tryz.underlying5
 a5:=Tryz.isAgg5
 z5:=Tryz.sizeOf5
 v5:=Tryz.zeroValue5
 t9:=Tryz.underlying9
 a9:=Tryz.isAgg9
 z9:=Tryz.sizeOf9
 v9:=Tryz.zeroValue9 }
def lays138_ren:Go.Shelf.Ren:=⟨λ| 138=>44 | 195=>91 | 218=>92 | 143=>93 | 219=>131 | 217=>157 | 225=>158 | 224=>159 | 267=>160 | 266=>190 | 314=>191 | n=>n,λ| 9=>9 | 3=>3 | 4=>4 | 5=>5 | 0=>0 | 46=>238 | 146=>264 | 51=>263 | n=>n,λ| 1=>1 | n=>n⟩
theorem lays138:Go.Proofs.Lays.n138 Tryz.prog lays138_ren:={
 mixed:=by kernel_rfl
 f138:=Tryz.func44.trans (congrArg some (by kernel_rfl))
 f143:=Tryz.func93.trans (congrArg some (by kernel_rfl))
 f195:=Tryz.func91.trans (congrArg some (by kernel_rfl))
 f217:=Tryz.func157.trans (congrArg some (by kernel_rfl))
 f218:=Tryz.func92.trans (congrArg some (by kernel_rfl))
 f219:=Tryz.func131.trans (congrArg some (by kernel_rfl))
 f224:=Tryz.func159.trans (congrArg some (by kernel_rfl))
 f225:=Tryz.func158.trans (congrArg some (by kernel_rfl))
 f266:=Tryz.func190.trans (congrArg some (by kernel_rfl))
 f267:=Tryz.func160.trans (congrArg some (by kernel_rfl))
 f314:=Tryz.func191.trans (congrArg some (by kernel_rfl))
 t0:=Tryz.underlying0
 a0:=Tryz.isAgg0
 z0:=Tryz.sizeOf0
 v0:=Tryz.zeroValue0
 t3:=Tryz.underlying3
 a3:=Tryz.isAgg3
 z3:=Tryz.sizeOf3
 v3:=Tryz.zeroValue3
 t4:=Tryz.underlying4
 a4:=Tryz.isAgg4
 z4:=Tryz.sizeOf4
 v4:=Tryz.zeroValue4
 t5:=Tryz.underlying5
 a5:=Tryz.isAgg5
 z5:=Tryz.sizeOf5
 v5:=Tryz.zeroValue5
 t9:=Tryz.underlying9
 a9:=Tryz.isAgg9
 z9:=Tryz.sizeOf9
 v9:=Tryz.zeroValue9
 t46:=Tryz.underlying238
 a46:=Tryz.isAgg238
 z46:=Tryz.sizeOf238
 v46:=Tryz.zeroValue238
 t51:=Tryz.underlying263
 a51:=Tryz.isAgg263
 z51:=Tryz.sizeOf263
 v51:=Tryz.zeroValue263
 t146:=Tryz.underlying264
 a146:=Tryz.isAgg264
 z146:=Tryz.sizeOf264
 v146:=Tryz.zeroValue264
 g1:=by kernel_rfl }
end Go.Proofs.YtjemmjpdmbenkaaGreatDoor
