/- A part of the proof that TopQuotaLaw holds: XZStr, XOnce, XKey, XIns, XDel, XSlc, XFloor, XAllow. Conditions: as typed. -/
import Derived.Test.YtgmkckjedngkdaaGreatDoorTq01
import Derived.Test.YtgmkckjedngkdaaGreatDoorTq02
import Derived.Test.YtgmkckjedngkdaaGreatDoorTq04
import Derived.Test.YtgmkckjedngkdaaGreatDoorTq08
import Derived.Shelf.Small.Bits
import Derived.Shelf.Small.Wraps
import Derived.Shelf.Strconv.Atoi
import Derived.Shelf.Strconv.Itoa0
import Derived.Shelf.Strconv.Itoa1
import Derived.Shelf.LaysM
import Derived.Shelf.Strconv.Itoa2
import Derived.Shelf.Strconv.Itoa3
import Derived.Shelf.Strconv.AtoiErrFast
import Derived.Shelf.Strconv.ParseIntEmpty
import Derived.Shelf.Strconv.AtoiFail
import Derived.Shelf.Strconv.Clone
import Derived.Shelf.Strconv.SyntaxError
import Derived.Shelf.LaysC
import Derived.Shelf.Strconv.ToError
import Derived.Shelf.Strconv.AtoiErr
import Derived.Shelf.Strconv.ErrVar
import Derived.Shelf.Strconv.Lower
import Derived.Shelf.Strconv.ParseUint10
import Derived.Shelf.Strconv.ParseUint10Empty
import Derived.Shelf.Strconv.ParseUint10Any
import Derived.Shelf.Strconv.ParseInt10
import Derived.Shelf.Strconv.AtoiLong
import Derived.Shelf.Strconv.AtoiInnerAll
import Derived.Shelf.Strconv.RangeError
import Derived.Shelf.Strconv.ToErrorRange
import Derived.Shelf.Strconv.AtoiAll
import Derived.Shelf.Strconv.ErrVarAll
import Derived.Shelf.Strings.Prefix
import Derived.Shelf.SortM.Plain
import Derived.Shelf.SortM.SortNone
import Derived.Test.YtgmkckjedngkdaaGreatDoorProg
import Derived.Tactics2
import Derived.Defers
import Derived.Laws.Pointers
import Derived.Laws.LoneSync
import Derived.RegionTactic
import Derived.RegionCalls
import Derived.ChangeAlike
import Derived.Lib.Overlaps
import Derived.Lib.AppendZerosOnto
import Derived.ArgAppend
import Derived.Deep.RegionLaw
import Derived.Laws.Externs
import Derived.IntWalk
import Derived.Deep.QuietTactic
import Derived.BigQuiet
import Derived.WalkLawsBesides
set_option linter.unusedVariables false
set_option linter.unusedSimpArgs false
namespace Go.Proofs.YtgmkckjedngkdaaGreatDoor
open Go.Shelf Go.Proofs
def Tryz.lays103_ren:Go.Shelf.Ren:=⟨fun | 103=>247 | 210=>303 | 206=>345 | n=>n,fun | 9=>9 | 4=>4 | 24=>336 | 3=>3 | n=>n,fun | n=>n⟩
theorem Tryz.lays103:Lays.n103 Tryz.prog Tryz.lays103_ren:={
 mixed:=by kernel_rfl
 f103:=Tryz.func247.trans (congrArg some (by kernel_rfl))
 f206:=Tryz.func345.trans (congrArg some (by kernel_rfl))
 f210:=Tryz.func303.trans (congrArg some (by kernel_rfl))
 t3:=Tryz.underlying3
 a3:=Tryz.isAgg3
 z3:=Tryz.sizeOf3
 v3:=Tryz.zeroValue3
 t4:=Tryz.underlying4
 a4:=Tryz.isAgg4
 z4:=Tryz.sizeOf4
 v4:=Tryz.zeroValue4
 t9:=Tryz.underlying9
 a9:=Tryz.isAgg9
 z9:=Tryz.sizeOf9
 v9:=Tryz.zeroValue9
 t24:=Tryz.underlying336
 a24:=Tryz.isAgg336
 z24:=Tryz.sizeOf336
 v24:=Tryz.zeroValue336 }
open Go.RowKit in
theorem Tryz.strings_CutPrefix (s p:ByteArray) (w:World) :
 Calls Tryz.prog 247 #[.string s,.string p] w fun e w'=>e=.returned (.tuple #[.string ⟨(Lib.trimPrefix s.data.toList p.data.toList).toArray⟩,.bool (Lib.hasPrefix s.data.toList p.data.toList)])∧w'=w:=Any.strings_CutPrefix Tryz.lays103 s p w
def Tryz.lays172_ren:Go.Shelf.Ren:=⟨fun | 172=>248 | 244=>304 | 245=>305 | 247=>346 | 279=>347 | 280=>348 | 281=>349 | 282=>350 | 287=>373 | 316=>374 | 171=>134 | 205=>375 | 321=>388 | 322=>389 | 243=>202 | 246=>263 | 283=>313 | 284=>314 | 285=>315 | 286=>316 | 129=>344 | 317=>354 | 318=>355 | 319=>356 | 320=>357 | 337=>377 | 338=>378 | n=>n,fun | 9=>9 | 3=>3 | 75=>339 | 76=>340 | 4=>4 | 5=>5 | 167=>423 | 37=>173 | 0=>0 | 85=>424 | 2=>2 | 168=>426 | 53=>29 | 175=>447 | 46=>275 | 210=>451 | 127=>464 | 145=>467 | 143=>465 | 21=>21 | 171=>394 | 173=>397 | 212=>433 | 51=>129 | 20=>20 | 213=>434 | 232=>468 | 233=>469 | 80=>323 | n=>n,fun | 15=>1 | 16=>2 | 17=>0 | 18=>3 | 19=>4 | n=>n⟩
theorem Tryz.lays172:Lays.n172 Tryz.prog Tryz.lays172_ren:={
 mixed:=by kernel_rfl
 f129:=Tryz.func344.trans (congrArg some (by kernel_rfl))
 f171:=Tryz.func134.trans (congrArg some (by kernel_rfl))
 f172:=Tryz.func248.trans (congrArg some (by kernel_rfl))
 f205:=Tryz.func375.trans (congrArg some (by kernel_rfl))
 f243:=Tryz.func202.trans (congrArg some (by kernel_rfl))
 f244:=Tryz.func304.trans (congrArg some (by kernel_rfl))
 f245:=Tryz.func305.trans (congrArg some (by kernel_rfl))
 f246:=Tryz.func263.trans (congrArg some (by kernel_rfl))
 f247:=Tryz.func346.trans (congrArg some (by kernel_rfl))
 f279:=Tryz.func347.trans (congrArg some (by kernel_rfl))
 f280:=Tryz.func348.trans (congrArg some (by kernel_rfl))
 f281:=Tryz.func349.trans (congrArg some (by kernel_rfl))
 f282:=Tryz.func350.trans (congrArg some (by kernel_rfl))
 f283:=Tryz.func313.trans (congrArg some (by kernel_rfl))
 f284:=Tryz.func314.trans (congrArg some (by kernel_rfl))
 f285:=Tryz.func315.trans (congrArg some (by kernel_rfl))
 f286:=Tryz.func316.trans (congrArg some (by kernel_rfl))
 f287:=Tryz.func373.trans (congrArg some (by kernel_rfl))
 f316:=Tryz.func374.trans (congrArg some (by kernel_rfl))
 f317:=Tryz.func354.trans (congrArg some (by kernel_rfl))
 f318:=Tryz.func355.trans (congrArg some (by kernel_rfl))
 f319:=Tryz.func356.trans (congrArg some (by kernel_rfl))
 f320:=Tryz.func357.trans (congrArg some (by kernel_rfl))
 f321:=Tryz.func388.trans (congrArg some (by kernel_rfl))
 f322:=Tryz.func389.trans (congrArg some (by kernel_rfl))
 f337:=Tryz.func377.trans (congrArg some (by kernel_rfl))
 f338:=Tryz.func378.trans (congrArg some (by kernel_rfl))
 t0:=Tryz.underlying0
 a0:=Tryz.isAgg0
 z0:=Tryz.sizeOf0
 v0:=Tryz.zeroValue0
 t2:=Tryz.underlying2
 a2:=Tryz.isAgg2
 z2:=Tryz.sizeOf2
 v2:=Tryz.zeroValue2
 t3:=Tryz.underlying3
 a3:=Tryz.isAgg3
 z3:=Tryz.sizeOf3
 v3:=Tryz.zeroValue3
 t4:=Tryz.underlying4
 a4:=Tryz.isAgg4
 z4:=Tryz.sizeOf4
 v4:=Tryz.zeroValue4
 t5:=Tryz.underlying5
 a5:=Tryz.isAgg5
 z5:=Tryz.sizeOf5
 v5:=Tryz.zeroValue5
 t9:=Tryz.underlying9
 a9:=Tryz.isAgg9
 z9:=Tryz.sizeOf9
 v9:=Tryz.zeroValue9
 t20:=Tryz.underlying20
 a20:=Tryz.isAgg20
 z20:=Tryz.sizeOf20
 v20:=Tryz.zeroValue20
 t21:=Tryz.underlying21
 a21:=Tryz.isAgg21
 z21:=Tryz.sizeOf21
 v21:=Tryz.zeroValue21
 t37:=Tryz.underlying173
 a37:=Tryz.isAgg173
 z37:=Tryz.sizeOf173
 v37:=Tryz.zeroValue173
 t46:=Tryz.underlying275
 a46:=Tryz.isAgg275
 z46:=Tryz.sizeOf275
 v46:=Tryz.zeroValue275
 t51:=Tryz.underlying129
 a51:=Tryz.isAgg129
 z51:=Tryz.sizeOf129
 v51:=Tryz.zeroValue129
 t53:=Tryz.underlying29
 a53:=Tryz.isAgg29
 z53:=Tryz.sizeOf29
 v53:=Tryz.zeroValue29
 t75:=Tryz.underlying339
 a75:=Tryz.isAgg339
 z75:=Tryz.sizeOf339
 v75:=Tryz.zeroValue339
 t76:=Tryz.underlying340
 a76:=Tryz.isAgg340
 z76:=Tryz.sizeOf340
 v76:=Tryz.zeroValue340
 t85:=Tryz.underlying424
 a85:=Tryz.isAgg424
 z85:=Tryz.sizeOf424
 v85:=Tryz.zeroValue424
 t127:=Tryz.underlying464
 a127:=Tryz.isAgg464
 z127:=Tryz.sizeOf464
 v127:=Tryz.zeroValue464
 t143:=Tryz.underlying465
 a143:=Tryz.isAgg465
 z143:=Tryz.sizeOf465
 v143:=Tryz.zeroValue465
 t145:=Tryz.underlying467
 a145:=Tryz.isAgg467
 z145:=Tryz.sizeOf467
 v145:=Tryz.zeroValue467
 t167:=Tryz.underlying423
 a167:=Tryz.isAgg423
 z167:=Tryz.sizeOf423
 v167:=Tryz.zeroValue423
 t168:=Tryz.underlying426
 a168:=Tryz.isAgg426
 z168:=Tryz.sizeOf426
 v168:=Tryz.zeroValue426
 t171:=Tryz.underlying394
 a171:=Tryz.isAgg394
 z171:=Tryz.sizeOf394
 v171:=Tryz.zeroValue394
 t173:=Tryz.underlying397
 a173:=Tryz.isAgg397
 z173:=Tryz.sizeOf397
 v173:=Tryz.zeroValue397
 t175:=Tryz.underlying447
 a175:=Tryz.isAgg447
 z175:=Tryz.sizeOf447
 v175:=Tryz.zeroValue447
 t210:=Tryz.underlying451
 a210:=Tryz.isAgg451
 z210:=Tryz.sizeOf451
 v210:=Tryz.zeroValue451
 t212:=Tryz.underlying433
 a212:=Tryz.isAgg433
 z212:=Tryz.sizeOf433
 v212:=Tryz.zeroValue433
 t213:=Tryz.underlying434
 a213:=Tryz.isAgg434
 z213:=Tryz.sizeOf434
 t232:=Tryz.underlying468
 a232:=Tryz.isAgg468
 z232:=Tryz.sizeOf468
 v232:=Tryz.zeroValue468
 t233:=Tryz.underlying469
 a233:=Tryz.isAgg469
 z233:=Tryz.sizeOf469
 v233:=Tryz.zeroValue469
 g15:=by kernel_rfl
 g16:=by kernel_rfl
 g17:=by kernel_rfl
 g18:=by kernel_rfl
 g19:=by kernel_rfl }
open Go.RowKit in
theorem Tryz.strconv_Atoi (s:ByteArray) (n:Int) (hl:s.size≤18) (h:Lib.atoi s.data.toList=some n) (w:World) :
 Calls Tryz.prog 248 #[.string s] w fun e w'=>e=.returned (.tuple #[.int .i64 n,.nilIface])∧∃ t,w'=Lib.bytesWorld w 5 t:=Any.strconv_Atoi Tryz.lays172 s n hl h w
def Tryz.laysC172_ren:Go.Shelf.Ren:=⟨fun | 172=>248 | 244=>304 | 245=>305 | 247=>346 | 279=>347 | 280=>348 | 281=>349 | 282=>350 | 287=>373 | 316=>374 | 171=>134 | 205=>375 | 321=>388 | 322=>389 | 243=>202 | 246=>263 | 283=>313 | 284=>314 | 285=>315 | 286=>316 | 129=>344 | 317=>354 | 318=>355 | 319=>356 | 320=>357 | 337=>377 | 338=>378 | n=>n,fun | 9=>9 | 3=>3 | 75=>339 | 76=>340 | 4=>4 | 5=>5 | 167=>423 | 37=>173 | 0=>0 | 85=>424 | 2=>2 | 168=>426 | 53=>29 | 175=>447 | 46=>275 | 210=>451 | 127=>464 | 145=>467 | 143=>465 | 21=>21 | 171=>394 | 173=>397 | 212=>433 | 51=>129 | 20=>20 | 213=>434 | 232=>468 | 233=>469 | 80=>323 | n=>n,fun | 15=>1 | 16=>2 | 17=>0 | 18=>3 | 19=>4 | n=>n⟩
theorem Tryz.laysC172:LaysC.n172 Tryz.prog Tryz.laysC172_ren:={
 mixed:=by kernel_rfl
 f129:=Tryz.func344.trans (congrArg some (by kernel_rfl))
 f171:=Tryz.func134.trans (congrArg some (by kernel_rfl))
 f172:=Tryz.func248.trans (congrArg some (by kernel_rfl))
 f205:=Tryz.func375.trans (congrArg some (by kernel_rfl))
 f243:=Tryz.func202.trans (congrArg some (by kernel_rfl))
 f244:=Tryz.func304.trans (congrArg some (by kernel_rfl))
 f245:=Tryz.func305.trans (congrArg some (by kernel_rfl))
 f246:=Tryz.func263.trans (congrArg some (by kernel_rfl))
 f247:=Tryz.func346.trans (congrArg some (by kernel_rfl))
 f279:=Tryz.func347.trans (congrArg some (by kernel_rfl))
 f280:=Tryz.func348.trans (congrArg some (by kernel_rfl))
 f281:=Tryz.func349.trans (congrArg some (by kernel_rfl))
 f282:=Tryz.func350.trans (congrArg some (by kernel_rfl))
 f283:=Tryz.func313.trans (congrArg some (by kernel_rfl))
 f284:=Tryz.func314.trans (congrArg some (by kernel_rfl))
 f285:=Tryz.func315.trans (congrArg some (by kernel_rfl))
 f286:=Tryz.func316.trans (congrArg some (by kernel_rfl))
 f287:=Tryz.func373.trans (congrArg some (by kernel_rfl))
 f316:=Tryz.func374.trans (congrArg some (by kernel_rfl))
 f317:=Tryz.func354.trans (congrArg some (by kernel_rfl))
 f318:=Tryz.func355.trans (congrArg some (by kernel_rfl))
 f319:=Tryz.func356.trans (congrArg some (by kernel_rfl))
 f320:=Tryz.func357.trans (congrArg some (by kernel_rfl))
 f321:=Tryz.func388.trans (congrArg some (by kernel_rfl))
 f322:=Tryz.func389.trans (congrArg some (by kernel_rfl))
 f337:=Tryz.func377.trans (congrArg some (by kernel_rfl))
 f338:=Tryz.func378.trans (congrArg some (by kernel_rfl))
 t0:=Tryz.underlying0
 a0:=Tryz.isAgg0
 z0:=Tryz.sizeOf0
 v0:=Tryz.zeroValue0
 t2:=Tryz.underlying2
 a2:=Tryz.isAgg2
 z2:=Tryz.sizeOf2
 v2:=Tryz.zeroValue2
 t3:=Tryz.underlying3
 a3:=Tryz.isAgg3
 z3:=Tryz.sizeOf3
 v3:=Tryz.zeroValue3
 t4:=Tryz.underlying4
 a4:=Tryz.isAgg4
 z4:=Tryz.sizeOf4
 v4:=Tryz.zeroValue4
 t5:=Tryz.underlying5
 a5:=Tryz.isAgg5
 z5:=Tryz.sizeOf5
 v5:=Tryz.zeroValue5
 t9:=Tryz.underlying9
 a9:=Tryz.isAgg9
 z9:=Tryz.sizeOf9
 v9:=Tryz.zeroValue9
 t20:=Tryz.underlying20
 a20:=Tryz.isAgg20
 z20:=Tryz.sizeOf20
 v20:=Tryz.zeroValue20
 t21:=Tryz.underlying21
 a21:=Tryz.isAgg21
 z21:=Tryz.sizeOf21
 v21:=Tryz.zeroValue21
 t37:=Tryz.underlying173
 a37:=Tryz.isAgg173
 z37:=Tryz.sizeOf173
 v37:=Tryz.zeroValue173
 t46:=Tryz.underlying275
 a46:=Tryz.isAgg275
 z46:=Tryz.sizeOf275
 v46:=Tryz.zeroValue275
 t51:=Tryz.underlying129
 a51:=Tryz.isAgg129
 z51:=Tryz.sizeOf129
 v51:=Tryz.zeroValue129
 t53:=Tryz.underlying29
 a53:=Tryz.isAgg29
 z53:=Tryz.sizeOf29
 v53:=Tryz.zeroValue29
 t75:=Tryz.underlying339
 a75:=Tryz.isAgg339
 z75:=Tryz.sizeOf339
 v75:=Tryz.zeroValue339
 t76:=Tryz.underlying340
 a76:=Tryz.isAgg340
 z76:=Tryz.sizeOf340
 v76:=Tryz.zeroValue340
 t85:=Tryz.underlying424
 a85:=Tryz.isAgg424
 z85:=Tryz.sizeOf424
 v85:=Tryz.zeroValue424
 t127:=Tryz.underlying464
 a127:=Tryz.isAgg464
 z127:=Tryz.sizeOf464
 v127:=Tryz.zeroValue464
 t143:=Tryz.underlying465
 a143:=Tryz.isAgg465
 z143:=Tryz.sizeOf465
 v143:=Tryz.zeroValue465
 t145:=Tryz.underlying467
 a145:=Tryz.isAgg467
 z145:=Tryz.sizeOf467
 v145:=Tryz.zeroValue467
 t167:=Tryz.underlying423
 a167:=Tryz.isAgg423
 z167:=Tryz.sizeOf423
 v167:=Tryz.zeroValue423
 t168:=Tryz.underlying426
 a168:=Tryz.isAgg426
 z168:=Tryz.sizeOf426
 v168:=Tryz.zeroValue426
 t171:=Tryz.underlying394
 a171:=Tryz.isAgg394
 z171:=Tryz.sizeOf394
 v171:=Tryz.zeroValue394
 t173:=Tryz.underlying397
 a173:=Tryz.isAgg397
 z173:=Tryz.sizeOf397
 v173:=Tryz.zeroValue397
 t175:=Tryz.underlying447
 a175:=Tryz.isAgg447
 z175:=Tryz.sizeOf447
 v175:=Tryz.zeroValue447
 t210:=Tryz.underlying451
 a210:=Tryz.isAgg451
 z210:=Tryz.sizeOf451
 v210:=Tryz.zeroValue451
 t212:=Tryz.underlying433
 a212:=Tryz.isAgg433
 z212:=Tryz.sizeOf433
 v212:=Tryz.zeroValue433
 t213:=Tryz.underlying434
 a213:=Tryz.isAgg434
 z213:=Tryz.sizeOf434
 t232:=Tryz.underlying468
 a232:=Tryz.isAgg468
 z232:=Tryz.sizeOf468
 v232:=Tryz.zeroValue468
 t233:=Tryz.underlying469
 a233:=Tryz.isAgg469
 z233:=Tryz.sizeOf469
 v233:=Tryz.zeroValue469
 g15:=by kernel_rfl
 g16:=by kernel_rfl
 g17:=by kernel_rfl
 g18:=by kernel_rfl
 g19:=by kernel_rfl
 t80:=Tryz.underlying323
 a80:=Tryz.isAgg323
 z80:=Tryz.sizeOf323
 v80:=Tryz.zeroValue323
 i0:=by kernel_rfl
 i2:=by kernel_rfl
 i3:=by kernel_rfl
 i4:=by kernel_rfl
 i5:=by kernel_rfl
 i9:=by kernel_rfl
 i20:=by kernel_rfl
 i21:=by kernel_rfl
 i37:=by kernel_rfl
 i46:=by kernel_rfl
 i51:=by kernel_rfl
 i53:=by kernel_rfl
 i75:=by kernel_rfl
 i76:=by kernel_rfl
 i80:=by kernel_rfl
 i85:=by kernel_rfl
 i127:=by kernel_rfl
 i143:=by kernel_rfl
 i145:=by kernel_rfl
 i167:=by kernel_rfl
 i168:=by kernel_rfl
 i171:=by kernel_rfl
 i173:=by kernel_rfl
 i175:=by kernel_rfl
 i210:=by kernel_rfl
 i212:=by kernel_rfl
 i232:=by kernel_rfl
 i233:=by kernel_rfl
 m15:=by kernel_rfl
 m16:=by kernel_rfl
 m17:=by kernel_rfl
 m18:=by kernel_rfl
 m19:=by kernel_rfl
 c0:=by kernel_rfl
 c2:=by kernel_rfl
 c3:=by kernel_rfl
 c4:=by kernel_rfl
 c5:=by kernel_rfl
 c9:=by kernel_rfl
 c20:=by kernel_rfl
 c21:=by kernel_rfl
 c37:=by kernel_rfl
 c46:=by kernel_rfl
 c51:=by kernel_rfl
 c53:=by kernel_rfl
 c75:=by kernel_rfl
 c76:=by kernel_rfl
 c80:=by kernel_rfl
 c85:=by kernel_rfl
 c127:=by kernel_rfl
 c143:=by kernel_rfl
 c145:=by kernel_rfl
 c167:=by kernel_rfl
 c168:=by kernel_rfl
 c171:=by kernel_rfl
 c173:=by kernel_rfl
 c175:=by kernel_rfl
 c210:=by kernel_rfl
 c212:=by kernel_rfl
 c213:=by kernel_rfl
 c232:=by kernel_rfl
 c233:=by kernel_rfl }
open Go.RowKit in
theorem Tryz.strconv_Atoi_err (s:ByteArray) (hl:s.size≤18) (h:Lib.atoi s.data.toList=none) (ev:Value) (w:World) (hv:w.cell? ⟨1,0,none⟩=some ev) (hev:ev=.nilIface ∨ ∃ te pe,ev=.iface te pe) :
 Calls Tryz.prog 248 #[.string s] w fun e w'=>∃ N,e=.returned (.tuple #[.int .i64 0,.iface 426 (.pointer (some ⟨N,0,none⟩))])∧w.heap.size≤N∧w'.heap[N]? = some (.cells #[.string ⟨#[65,116,111,105]⟩,.string s,ev] 451 (0,0))∧Below w.heap.size w w':=Any.strconv_Atoi_err Tryz.laysC172 s hl h ev w hv hev
def Tryz.lays171_ren:Go.Shelf.Ren:=⟨fun | 171=>134 | 243=>202 | 246=>263 | 283=>313 | 284=>314 | 285=>315 | 286=>316 | 129=>344 | 317=>354 | 318=>355 | 319=>356 | 320=>357 | 337=>377 | 338=>378 | n=>n,fun | 3=>3 | 9=>9 | 2=>2 | 4=>4 | 171=>394 | 0=>0 | 53=>29 | 37=>173 | 5=>5 | 173=>397 | 212=>433 | 51=>129 | 20=>20 | 213=>434 | 46=>275 | 232=>468 | 233=>469 | n=>n,fun | 17=>0 | 18=>3 | 19=>4 | n=>n⟩
theorem Tryz.lays171:Lays.n171 Tryz.prog Tryz.lays171_ren:={
 mixed:=by kernel_rfl
 f129:=Tryz.func344.trans (congrArg some (by kernel_rfl))
 f171:=Tryz.func134.trans (congrArg some (by kernel_rfl))
 f243:=Tryz.func202.trans (congrArg some (by kernel_rfl))
 f246:=Tryz.func263.trans (congrArg some (by kernel_rfl))
 f283:=Tryz.func313.trans (congrArg some (by kernel_rfl))
 f284:=Tryz.func314.trans (congrArg some (by kernel_rfl))
 f285:=Tryz.func315.trans (congrArg some (by kernel_rfl))
 f286:=Tryz.func316.trans (congrArg some (by kernel_rfl))
 f317:=Tryz.func354.trans (congrArg some (by kernel_rfl))
 f318:=Tryz.func355.trans (congrArg some (by kernel_rfl))
 f319:=Tryz.func356.trans (congrArg some (by kernel_rfl))
 f320:=Tryz.func357.trans (congrArg some (by kernel_rfl))
 f337:=Tryz.func377.trans (congrArg some (by kernel_rfl))
 f338:=Tryz.func378.trans (congrArg some (by kernel_rfl))
 t0:=Tryz.underlying0
 a0:=Tryz.isAgg0
 z0:=Tryz.sizeOf0
 v0:=Tryz.zeroValue0
 t2:=Tryz.underlying2
 a2:=Tryz.isAgg2
 z2:=Tryz.sizeOf2
 v2:=Tryz.zeroValue2
 t3:=Tryz.underlying3
 a3:=Tryz.isAgg3
 z3:=Tryz.sizeOf3
 v3:=Tryz.zeroValue3
 t4:=Tryz.underlying4
 a4:=Tryz.isAgg4
 z4:=Tryz.sizeOf4
 v4:=Tryz.zeroValue4
 t5:=Tryz.underlying5
 a5:=Tryz.isAgg5
 z5:=Tryz.sizeOf5
 v5:=Tryz.zeroValue5
 t9:=Tryz.underlying9
 a9:=Tryz.isAgg9
 z9:=Tryz.sizeOf9
 v9:=Tryz.zeroValue9
 t20:=Tryz.underlying20
 a20:=Tryz.isAgg20
 z20:=Tryz.sizeOf20
 v20:=Tryz.zeroValue20
 t37:=Tryz.underlying173
 a37:=Tryz.isAgg173
 z37:=Tryz.sizeOf173
 v37:=Tryz.zeroValue173
 t46:=Tryz.underlying275
 a46:=Tryz.isAgg275
 z46:=Tryz.sizeOf275
 v46:=Tryz.zeroValue275
 t51:=Tryz.underlying129
 a51:=Tryz.isAgg129
 z51:=Tryz.sizeOf129
 v51:=Tryz.zeroValue129
 t53:=Tryz.underlying29
 a53:=Tryz.isAgg29
 z53:=Tryz.sizeOf29
 v53:=Tryz.zeroValue29
 t171:=Tryz.underlying394
 a171:=Tryz.isAgg394
 z171:=Tryz.sizeOf394
 v171:=Tryz.zeroValue394
 t173:=Tryz.underlying397
 a173:=Tryz.isAgg397
 z173:=Tryz.sizeOf397
 v173:=Tryz.zeroValue397
 t212:=Tryz.underlying433
 a212:=Tryz.isAgg433
 z212:=Tryz.sizeOf433
 v212:=Tryz.zeroValue433
 t213:=Tryz.underlying434
 a213:=Tryz.isAgg434
 z213:=Tryz.sizeOf434
 t232:=Tryz.underlying468
 a232:=Tryz.isAgg468
 z232:=Tryz.sizeOf468
 v232:=Tryz.zeroValue468
 t233:=Tryz.underlying469
 a233:=Tryz.isAgg469
 z233:=Tryz.sizeOf469
 v233:=Tryz.zeroValue469
 g17:=by kernel_rfl
 g18:=by kernel_rfl
 g19:=by kernel_rfl }
open Go.RowKit Go.Sort Go.Lib in
theorem Tryz.strconv_Itoa_small (i:Nat) (hi:i < 100) (w:World) :
 Calls Tryz.prog 134 #[.int .i64 i] w fun e w'=>e=.returned (.string ⟨(Lib.decDigits i).toArray⟩)∧w'=w:=Any.strconv_Itoa_small Tryz.lays171 i hi w
end Go.Proofs.YtgmkckjedngkdaaGreatDoor
namespace Go.Proofs.YtgmkckjedngkdaaGreatDoor
open Go.ChangeShapes Go.WideShapes Go.ChangeAt Go.RowKit
theorem race_disable (w:World):(callFunc 379 #[]).run Tryz.prog w=.ok (.value (.tuple #[])) w:=run_call_mark0 Tryz.func379 (by kernel_rfl) (by kernel_rfl) (by kernel_rfl) .disable (by kernel_rfl) w
theorem race_enable (w:World):(callFunc 381 #[]).run Tryz.prog w=.ok (.value (.tuple #[])) w:=run_call_mark0 Tryz.func381 (by kernel_rfl) (by kernel_rfl) (by kernel_rfl) .enable (by kernel_rfl) w
theorem race_acquire (a:Addr) (w:World):(callFunc 382 #[.pointer (some a)]).run Tryz.prog w=.ok (.value (.tuple #[])) w:=run_call_marked Tryz.func382 (by kernel_rfl) (by kernel_rfl) (by kernel_rfl) .acquire (by kernel_rfl) a w
theorem race_release (a:Addr) (w:World):(callFunc 384 #[.pointer (some a)]).run Tryz.prog w=.ok (.value (.tuple #[])) w:=run_call_marked Tryz.func384 (by kernel_rfl) (by kernel_rfl) (by kernel_rfl) .releaseMerge (by kernel_rfl) a w
set_option maxRecDepth 100000 in
set_option maxHeartbeats 1000000 in
theorem store_deferred (a:Addr) (x:Value) (u:FrameMode) (w:World) (hc:w.cell? a=some x) (hz:w.frozen? a=false) :
   CallsD Tryz.prog 327 #[.pointer (some a),.bool true] u w fun e u' w'=>u'=u∧(e=.returned (.tuple #[])∧w'=w.drew.setCell a (.int .u32 1)):=by
 have hc':w.drew.cell? a=some x:=by go_simp
 have hz':w.drew.frozen? a=false:=by go_simp
 have hst:=run_call_store (P:=Tryz.prog) Tryz.func362 (by kernel_rfl) (by kernel_rfl) (by kernel_rfl) (by kernel_rfl) (k:=.u32) (y:=1) hc' hz'
 go_enter_d Tryz.func327,Tryz.ntmps327
 go_wp2
 go_region_calls
 all_goals (go_end0;exact ⟨rfl,rfl⟩)
set_option maxRecDepth 100000 in
set_option maxHeartbeats 1000000 in
theorem unlock_deferred (a:Addr) (u:FrameMode) (w:World) (hc:w.cell? a=some (.int .i32 1)) (hz:w.frozen? a=false) :
   CallsD Tryz.prog 326 #[.pointer (some a)] u w fun e u' w'=>u'=u∧(e=.returned (.tuple #[])∧w'=w.setCell a (.int .i32 0)):=by
 have hd:=race_disable
 have he:=race_enable
 have hr:=race_release
 have hadd:=run_call_add (P:=Tryz.prog) Tryz.func385 (by kernel_rfl) (by kernel_rfl) (by kernel_rfl) .i32 (by kernel_rfl) (y:=-1) (s:=0) hc hz (by simp [go_sem];rfl)
 have hcv:=run_convert_to_unsafe (P:=Tryz.prog) (src:=454) (dst:=302) Tryz.underlying454 Tryz.underlying302 (by kernel_rfl) hc
 go_enter_d Tryz.func326,Tryz.ntmps326
 go_wp2
 go_end0
 go_wp2
 all_goals exact ⟨rfl,rfl⟩
set_option maxRecDepth 100000 in
set_option maxHeartbeats 1000000 in
theorem lock_free (a:Addr) (w:World) (hc:w.cell? a=some (.int .i32 0)) (hz:w.frozen? a=false) :
   Calls Tryz.prog 325 #[.pointer (some a)] w fun e w'=>e=.returned (.tuple #[])∧w'=w.setCell a (.int .i32 1):=by
 have hd:=race_disable
 have he:=race_enable
 have ha:=race_acquire
 have hcas:=run_call_cas_hit (P:=Tryz.prog) Tryz.func380 (by kernel_rfl) (by kernel_rfl) (by kernel_rfl) .i32 (by kernel_rfl) (y:=1) hc hz
 have hc':(w.setCell a (.int .i32 1)).cell? a=some (.int .i32 1):=World.cell?_setCell_same w a _ hc
 have hcv:=run_convert_to_unsafe (P:=Tryz.prog) (src:=454) (dst:=302) Tryz.underlying454 Tryz.underlying302 (by kernel_rfl) hc'
 go_enter Tryz.func325,Tryz.ntmps325
 go_wp2
 first | go_end0 | (simp only [Exit.inBlock,Exit.then];refine bodyPost_ret (results_none rfl _ _ _) rfl ?_) | refine bodyPost_ret (results_none rfl _ _ _) rfl ?_
 go_wp2
 all_goals exact ⟨rfl,rfl⟩
end Go.Proofs.YtgmkckjedngkdaaGreatDoor
namespace Go.Proofs.YtgmkckjedngkdaaGreatDoor
open Go.ChangeShapes Go.WideShapes Go.ChangeAt Go.RowKit
theorem al2k (w:World) (o1 o2:Obj):((w.alloc o1).alloc o2).heap[w.heap.size+1]? = some o2∧Below w.heap.size w ((w.alloc o1).alloc o2)∧w.heap.size+1 < ((w.alloc o1).alloc o2).heap.size :=
 ⟨by have:=heap_alloc_new (w.alloc o1) o2;simpa using this,below_alloc (below_alloc (Below.refl _ _) _) _,by simp⟩
theorem Tryz.infoU8k:(Tryz.prog.info? 5).map (fun i=>(i.zero,i.size,i.bytes))=some (some (.int .u8 0),1,1):=by kernel_rfl
def eightTo (n:Int) (k:Nat):List Int:=(List.range k).map fun i=>n / 2 ^ (56 - 8 * i) % 256
def eightL (n:Int):List Int:=eightTo n 8
theorem eightTo_succ (n:Int) (k:Nat):eightTo n (k+1)=eightTo n k ++ [n / 2 ^ (56 - 8 * k) % 256]:=by unfold eightTo;rw [List.range_succ,List.map_append];rfl
theorem eightTo_len (n:Int) (k:Nat):(eightTo n k).length=k:=by unfold eightTo;simp
theorem eightTo_b {n:Int} {k:Nat}:∀ b ∈ eightTo n k,isB b:=by
 intro b hb
 unfold eightTo at hb
 obtain ⟨i,_,rfl⟩:=List.mem_map.1 hb
 unfold isB
 omega
set_option maxRecDepth 100000 in
set_option maxHeartbeats 1000000 in
theorem eight_any (A:Option Addr) (c:Nat) (L:List Int) (n:Int) (w:World) (hl:L.length≤1099511627776) (hL:ValsAt u8v w A L) (hn:0≤n∧n < 18446744073709551616) :
   Calls Tryz.prog 274 #[.slice A L.length c,.int .u64 n] w fun e w'=>∃ v,e=.returned v∧OwnL (one1 u8v) 1 5 w.heap.size w' v (L ++ eightL n)∧Below w.heap.size w w':=by
 go_enter Tryz.func274,Tryz.ntmps274
 go_wp2_with (at_builtin;refine wpList_append_vals rfl (.const (.slice none 0 0)) (.tmp 7) 173 5 _ 1 rfl Tryz.underlying173 Tryz.infoU8k rfl (fun _=>rfl) (by omega) w.heap.size _ [] rfl (OwnL.nil_ _ _ _ _ _) A c L rfl hL (by simp;omega) (Nat.le_refl _) ?_;intro v1 u1 ho1 hgu1)
 have hgu2:w.grownBy u1 none:=hgu1
 have hb1:Below w.heap.size w u1:=(Below.refl _ _).grown hgu2 (Nat.le_refl _) (fun k hk=>nomatch hk)
 have HO1:=hide ho1
 have HB1:=hide hb1
 clear ho1 hgu1 hgu2 hb1 hL
 rw [List.nil_append] at HO1
 go_loopw [5,6] (fun v s wr=>∃ k:Nat,k≤8∧s=.int .i64 (56 - 8 * (k:Int))∧OwnL (one1 u8v) 1 5 w.heap.size wr v (L ++ eightTo n k)∧Below w.heap.size w wr) (fun _ s _=>(intOf s+8).toNat)
 case atStart=>exact ⟨0,by omega,rfl,by rw [show eightTo n 0=[] from rfl,List.append_nil];exact HO1.out,HB1.out⟩
 case round =>
   obtain ⟨k,hk,rfl,ho,hb⟩:=hrel
   clear HO1 HB1
   have HO:=hide ho
   have HB:=hide hb
   have hbs:=hb.size
   clear ho hb
   by_cases h8:k < 8
   · obtain ⟨sh,hsh⟩:∃ sh:Nat,56 - 8 * (k:Int)=sh:=⟨56 - 8 * k,by omega⟩
     rw [hsh]
     have hs1:(sh:Int)≤56:=by omega
     have HSN:Hid (sh=56 - 8 * k):=hide (by omega)
     go_wp2_with (at_builtin;refine wpList_append_one rfl (.tmp 13) (.tmp 18) 173 5 _ 1 rfl Tryz.underlying173 Tryz.infoU8k rfl (fun _=>rfl) (by omega) _ _ _ _ _ _ (L ++ eightTo n k) (n / 2 ^ sh % 256) rfl rfl rfl HO.out HB.out (Nat.le_refl _) hbs (by rw [List.length_append,eightTo_len];omega) ?_;intro v2 u2 ho2 hbu2 hgu2)
     refine ⟨⟨k+1,by omega,by go_num,?_,hbu2⟩,by simp [intOf];omega⟩
     rw [eightTo_succ,← List.append_assoc,← HSN.out]
     exact ho2
   · obtain rfl:k=8:=by omega
     go_wp2_with fail
     go_ret
     exact ⟨_,rfl,HO.out,HB.out⟩
def keyL (x:It):List Int:=[x.s % 256,x.k % 256] ++ eightL x.t
theorem keyL_b {x:It}:∀ b ∈ keyL x,isB b:=by
 intro b hb
 unfold keyL at hb
 rcases List.mem_append.1 hb with h | h
 · simp only [List.mem_cons,List.not_mem_nil,or_false] at h
   unfold isB
   omega
 · exact eightTo_b b h
theorem keyL_len (x:It):(keyL x).length=10:=by unfold keyL eightL;simp [eightTo_len]
set_option maxHeartbeats 1000000 in
theorem key_any (x:It) (w:World) (hx:x.wf):Calls Tryz.prog 210 #[x.val] w fun e w'=>∃ v,e=.returned v∧OwnL (one1 u8v) 1 5 w.heap.size w' v (keyL x)∧Below w.heap.size w w':=by
 have ht:0≤x.t∧x.t < 18446744073709551616:=by unfold It.wf at hx;omega
 go_enter Tryz.func210,Tryz.ntmps210
 have hz1:=al2k w (.cells #[.int .i64 x.s,.int .i64 x.k,.int .u64 x.t,.int .u64 x.v,.int .i64 x.x] 54) (.cells #[.int .u8 (x.s % 256),.int .u8 (x.k % 256)] 5)
 have HR:Hid (ValsAt u8v ((w.alloc (.cells #[.int .i64 x.s,.int .i64 x.k,.int .u64 x.t,.int .u64 x.v,.int .i64 x.x] 54)).alloc (.cells #[.int .u8 (x.s % 256),.int .u8 (x.k % 256)] 5)) (some ⟨w.heap.size+1,0,none⟩) [x.s % 256,x.k % 256]):=hide (vals_of_block (L:=[x.s % 256,x.k % 256]) hz1.1)
 have HB:=hide hz1.2.1
 clear hz1
 go_wp2_with fail
 refine (Calls.mono (eight_any (some ⟨w.heap.size+1,0,none⟩) 2 [x.s % 256,x.k % 256] x.t _ (by simp) HR.out ht) ?_);rintro e w1 ⟨v,rfl,ho,hb⟩
 have HO:=hide (OwnL.base_ (base':=w.heap.size) ho HB.out.size)
 have HB1:=hide (below_step HB.out hb)
 clear ho hb HR HB
 go_wp2_with fail
 go_ret
 exact ⟨_,rfl,HO.out,HB1.out⟩
def hgtAux:Nat→Int→Int
 | 0,_=>0
 | f+1,h=>if bits .and .u64 h 3=0 then 1+hgtAux f (h / 4) else 0
theorem hgtAux_bd (f:Nat) (h:Int):0≤hgtAux f h∧hgtAux f h≤f:=by
 induction f generalizing h with
 | zero=>simp [hgtAux]
 | succ f ih =>
   rw [hgtAux]
   split
   · have:=ih (h / 4);omega
   · omega
def hgt (K:List Int):Int:=1+hgtAux 5 (hashL K)
theorem hgt_bd (K:List Int):1≤hgt K∧hgt K≤6:=by
 unfold hgt
 have:=hgtAux_bd 5 (hashL K)
 omega
set_option maxHeartbeats 1000000 in
theorem height_any (x:It) (w:World) (hx:x.wf):Calls Tryz.prog 145 #[x.val] w fun e w'=>e=.returned (.int .i64 (hgt (keyL x)))∧Below w.heap.size w w':=by
 go_enter Tryz.func145,Tryz.ntmps145
 have hba:=below_alloc (Below.refl w.heap.size w) (.cells (It.cells x).toArray 54)
 have HB:=hide hba
 clear hba
 go_wp2_with fail
 refine (Calls.mono (key_any x _ hx) ?_);rintro e w1 ⟨v,rfl,ho,hb⟩
 obtain ⟨A,c,rfl,hr,hc,hcm⟩:=OwnL.vals ho
 have HR:=hide hr
 have HB1:=hide (below_step HB.out hb)
 have HL:=hide (keyL_len x)
 clear ho hb hr HB
 go_wp2_with fail
 refine (Calls.mono (hash_any A c (keyL x) _ (by rw [HL.out];omega) HR.out keyL_b) ?_);rintro e w2 ⟨rfl,hb⟩
 have HB2:=hide (below_step HB1.out hb)
 have HHB:=hide (hashL_bd (keyL x))
 clear hb HB1 HR
 go_wp2_with fail
 go_loopw [3,4] (fun n h wr=>∃ (f:Nat) (x':Int),f≤5∧n=.int .i64 (6 - (f:Int))∧h=.int .u64 x'∧0≤x'∧x' < 18446744073709551616∧6 - (f:Int)+hgtAux f x'=hgt (keyL x)∧Below w.heap.size w wr) (fun n _ _=>(6 - intOf n).toNat)
 case atStart=>exact ⟨5,_,by omega,rfl,rfl,HHB.out.1,HHB.out.2,rfl,HB2.out⟩
 case round =>
   clear HHB
   obtain ⟨f,y,hf,rfl,rfl,hy0,hy1,he,hb⟩:=hrel
   have HE:=hide he
   have HB:=hide hb
   clear he hb HB2
   by_cases hy:bits .and .u64 y 3=0
   · rcases f with _ | f
     · go_wp2_with fail
       go_ret
       refine ⟨?_,HB.out⟩
       rw [← HE.out]
       rfl
     · have HE2:=hide ((show hgtAux (f+1) y=1+hgtAux f (y / 4) by rw [hgtAux,if_pos hy]))
       have hlt:6 - ((f+1:Nat):Int) < 6:=by omega
       have hlt':6 - ((f:Int)+1) < 6:=by omega
       go_wp2_with fail
       go_roundw
       case rel=>exact ⟨f,y / 4,by omega,by go_num,rfl,by omega,by omega,by rw [← HE.out,HE2.out];omega,HB.out⟩
       case measure=>simp [intOf];omega
   · have HE2:=hide ((show hgtAux f y=0 by rcases f with _ | f;rfl;rw [hgtAux,if_neg hy]))
     go_wp2_with fail
     go_ret
     exact ⟨congrArg (fun v=>Ending.returned (.int .i64 v)) (by rw [← HE.out,HE2.out,Int.add_zero]),HB.out⟩
end Go.Proofs.YtgmkckjedngkdaaGreatDoor
namespace Go.Proofs.YtgmkckjedngkdaaGreatDoor
open Go.ChangeShapes Go.WideShapes Go.ChangeAt Go.RowKit
section
variable {P:Program}
theorem wpList_copy_rowN (w:World) {ops:Array Oper} {rest:List Oper} {o:Oper} {a:Act} {Q:Exit→Act→World→Prop} (hgd:o.guard=none) (d s:Operand) (dT sT:TypeId)
   (ho:o.op=.call { callee:=.builtin .copy,args:=#[d,s],argTypes:=#[dT,sT] }) (elem:TypeId) (i:TypeInfo) (hu:P.underlying dT=some (.slice elem)) (hi:P.info? elem=some i)
   (g off dLen dCap:Nat) (ad:Addr) (sLen sCap:Nat) (hd:a.eval d=.slice (some ⟨g,off,none⟩) dLen dCap) (hs:a.eval s=.slice (some ad) sLen sCap)
   (cur:List Value) (t:TypeId) (hg:w.heap[g]? = some (.cells cur.toArray t (0,0))) (cs:List Value) (hn:cs.length=Nat.min sLen dLen * i.size)
   (hsrc:∀ j v,cs[j]? = some v→w.cell? (ad.add j)=some v) (hfit:off+cs.length≤cur.length) (h1:∀ v ∈ cs,v.oneCell'=true)
   (h:∀ w',Hid (w'.heap[g]? = some (.cells (cur.take off ++ cs ++ cur.drop (off+cs.length)).toArray t (0,0)))→w.grownBy w' (some g)→wpList P ops Q rest (a.put o.dst (goInt (Nat.min sLen dLen))) w'):wpList P ops Q (o :: rest) a w:=by
 refine wpList_plain hgd fun K hK=>?_
 have hrun:=run_copy_rowN (P:=P) w dT sT o.type elem i g off dLen dCap ad sLen sCap cur t cs hu hi hg hn hsrc hfit h1
 unfold Oper.wp
 simp only [execOp,ho,resolve,invoke,builtin,Sem.run_bind,Sem.run_pure,Result.andThen_ok,List.map_toArray,List.map_cons,List.map_nil,hd,hs,hrun]
 exact hK _ _ (h _ (show _=_ from setRow_heap w g _ _ t _ hg) (grownBy_setRow w g _))
theorem step_copy_rowN (w:World) {ops:Array Oper} {o:Oper} {a:Act} {K:Act→World→Prop} {Q:Exit→Act→World→Prop} {E:Prop} (hgd:o.guard=none) (d s:Operand) (dT sT:TypeId)
   (ho:o.op=.call { callee:=.builtin .copy,args:=#[d,s],argTypes:=#[dT,sT] }) (elem:TypeId) (i:TypeInfo) (hu:P.underlying dT=some (.slice elem)) (hi:P.info? elem=some i)
   (g off dLen dCap:Nat) (ad:Addr) (sLen sCap:Nat) (hd:a.eval d=.slice (some ⟨g,off,none⟩) dLen dCap) (hs:a.eval s=.slice (some ad) sLen sCap)
   (cur:List Value) (t:TypeId) (hg:w.heap[g]? = some (.cells cur.toArray t (0,0))) (cs:List Value) (hn:cs.length=Nat.min sLen dLen * i.size)
   (hsrc:∀ j v,cs[j]? = some v→w.cell? (ad.add j)=some v) (hfit:off+cs.length≤cur.length) (h1:∀ v ∈ cs,v.oneCell'=true)
   (h:∀ w',Hid (w'.heap[g]? = some (.cells (cur.take off ++ cs ++ cur.drop (off+cs.length)).toArray t (0,0)))→w.grownBy w' (some g)→K (a.put o.dst (goInt (Nat.min sLen dLen))) w') :
   if Region.wanted o (yielded ops a.tmps)=true then Oper.wp P o a w K Q else E:=by
 have hw:Region.wanted o (yielded ops a.tmps)=true:=by simp [Region.wanted,hgd]
 rw [if_pos hw]
 have hrun:=run_copy_rowN (P:=P) w dT sT o.type elem i g off dLen dCap ad sLen sCap cur t cs hu hi hg hn hsrc hfit h1
 unfold Oper.wp
 simp only [execOp,ho,resolve,invoke,builtin,Sem.run_bind,Sem.run_pure,Result.andThen_ok,List.map_toArray,List.map_cons,List.map_nil,hd,hs,hrun]
 exact h _ (show _=_ from setRow_heap w g _ _ t _ hg) (grownBy_setRow w g _)
end
def RetOg (base:Nat) (L:List It) (v:Value) (w:World) (e:Ending) (w':World):Prop:=∃ v',e=.returned v'∧Og base w' v' L∧Wrote w w' v v'
theorem row_cell {w:World} {g:Nat} {l:List Value} {t:TypeId} (h:w.heap[g]? = some (.cells l.toArray t (0,0))) (k j:Nat) (v:Value) (hj:l[k+j]? = some v):w.cell? ((⟨g,k,none⟩:Addr).add j)=some v:=by
 rw [Addr.add_lit,cell_of_row w g (k+j) _ _ _ h]
 simpa using hj
theorem flat_split (L:List It) (i:Nat) (hi:i≤L.length):flat L=flat (L.take i) ++ flat (L.drop i):=by rw [← flat_app,List.take_append_drop]
theorem flat_take_len (L:List It) (i:Nat) (hi:i≤L.length):(flat (L.take i)).length=i * 5:=by rw [flat_length,List.length_take];omega
theorem flat_drop_len (L:List It) (i:Nat):(flat (L.drop i)).length=(L.length - i) * 5:=by rw [flat_length,List.length_drop]
theorem splice_in {X Y R c:List Value} {p:Nat} (hX:X.length=p) (hR:5≤R.length) (hc:c.length=5) :
   let M:=(X ++ Y ++ R).take (p+5) ++ Y ++ (X ++ Y ++ R).drop (p+5+Y.length)
   M.take p ++ c ++ M.drop (p+5)=X ++ c ++ Y ++ R.drop 5:=by
 subst hX
 intro M
 have e1:(X ++ Y ++ R).take (X.length+5)=X ++ (Y ++ R).take 5:=by rw [List.append_assoc,List.take_append,List.take_of_length_le (by omega)];simp
 have e2:(X ++ Y ++ R).drop (X.length+5+Y.length)=R.drop 5:=by
   rw [List.drop_append,List.drop_eq_nil_of_le (by (try simp);(try omega))]
   simp only [List.length_append,List.nil_append]
   rw [show X.length+5+Y.length - (X.length+Y.length)=5 from by omega]
 have hM:M=X ++ ((Y ++ R).take 5 ++ (Y ++ R.drop 5)):=by
   show (X ++ Y ++ R).take (X.length+5) ++ Y ++ (X ++ Y ++ R).drop (X.length+5+Y.length)=_
   rw [e1,e2];simp
 have hl:((Y ++ R).take 5).length=5:=by rw [List.length_take];simp;omega
 rw [hM,List.take_left,List.drop_append,List.drop_eq_nil_of_le (by omega),List.nil_append,show X.length+5 - X.length=5 by omega,List.drop_append,List.drop_eq_nil_of_le (by omega),hl]
 simp
theorem min_a {n i:Nat} (h:i < n):Nat.min (n+1 - i) (n+1 - (i+1))=n - i:=by simp only [Nat.min_def];split <;> omega
theorem min_b {n i:Nat} (h:i < n):Nat.min 1 (n+1 - i)=1:=by simp only [Nat.min_def];split <;> omega
theorem splice_len {l cs:List Value} {o:Nat} (h:o+cs.length≤l.length):(l.take o ++ cs ++ l.drop (o+cs.length)).length=l.length:=by simp;omega
theorem ins_len (L:List It) (i:Nat) (x:It) (hi:i≤L.length):(L.take i ++ x :: L.drop i).length=L.length+1:=by simp;omega
theorem ins_flat {L:List It} {i:Nat} {x:It} {R:List Value} (hi:i < L.length) (hR:5≤R.length) :
   ((((flat L ++ R).take ((i+1) * 5) ++ flat (L.drop i) ++ (flat L ++ R).drop ((i+1) * 5+(flat (L.drop i)).length)).take (i * 5) ++ x.cells) ++ ((flat L ++ R).take ((i+1) * 5) ++ flat (L.drop i) ++ (flat L ++ R).drop ((i+1) * 5+(flat (L.drop i)).length)).drop (i * 5+x.cells.length))=flat (L.take i ++ x :: L.drop i) ++ R.drop 5:=by
 have h:=splice_in (X:=flat (L.take i)) (Y:=flat (L.drop i)) (R:=R) (c:=x.cells) (p:=i * 5) (flat_take_len L i (by omega)) hR rfl
 rw [← flat_split L i (by omega)] at h
 rw [show (i+1) * 5=i * 5+5 by omega,show x.cells.length=5 from rfl]
 rw [h,flat_app,flat_cons]
 simp
set_option maxHeartbeats 4000000 in
set_option maxRecDepth 100000 in
theorem ins_in (g cap gv base:Nat) (R:List Value) (L:List It) (x:It) (i:Nat) (w:World) (hb:base≤g) (hg:w.heap[g]? = some (.cells (flat L ++ R).toArray 54 (0,0))) (hgv:w.heap[gv]? = some (.cells x.cells.toArray 54 (0,0)))
   (hne:gv ≠ g) (hi:i < L.length) (hroom:L.length+1≤cap) (hcm:cap≤maxLen) (hfit:cap * 5≤L.length * 5+R.length) :
   Calls Tryz.prog 213 #[.slice (some ⟨g,0,none⟩) L.length cap,.int .i64 i,.slice (some ⟨gv,0,none⟩) 1 1] w (RetOg base (L.take i ++ x :: L.drop i) (.slice (some ⟨g,0,none⟩) L.length cap) w):=by
 obtain ⟨i0,hi0,hz0,hz1,hz2⟩:=info_parts Tryz.infoItem
 unfold maxLen at hcm
 have hov:∀ off lb cb,(callFunc 278 #[.slice (some ⟨gv,0,none⟩) 1 1,.slice (some ⟨g,off,none⟩) lb cb]).run Tryz.prog w=.ok (.value (.bool false)) w:=fun off lb cb=>by
   rw [run_callFunc_extern Tryz.func278 (by kernel_rfl) (by kernel_rfl) (by kernel_rfl) (e:=Extern.SlicesOverlaps.overlaps #[31,31] #[4]) (by kernel_rfl),
     Lib.run_overlaps_apart w 31 4 54 Tryz.underlying31 5 Tryz.sizeOf54 ⟨gv,0,none⟩ ⟨g,off,none⟩ 1 1 lb cb hne 54 54 5 (flat L ++ R).length (by simp [World.shape?,hgv,It.cells]) (by simp [World.shape?,hg]) (by simp [flat_length];omega) (by simp [World.frozen?,hgv]) (by simp [World.frozen?,hgv])]
   rfl
 have HD:=hide (fun (j:Nat) (v:Value) (hj:(flat (L.drop i))[j]? = some v)=>show (flat L ++ R)[i * 5+j]? = some v by
   rw [flat_split L i (by omega),List.append_assoc,List.getElem?_append_right (by rw [flat_take_len L i (by omega)];omega),flat_take_len L i (by omega),Nat.add_sub_cancel_left]
   rw [List.getElem?_append_left (List.getElem?_eq_some_iff.1 hj).1];exact hj)
 have HN1:=hide (show (flat (L.drop i)).length=Nat.min (L.length+1 - i) (L.length+1 - (i+1)) * i0.size by rw [hz1,flat_drop_len,min_a hi])
 have HN2:=hide (show (i+1) * 5+(flat (L.drop i)).length≤(flat L ++ R).length by simp only [List.length_append,flat_length,List.length_drop];omega)
 have HN3:=hide (show x.cells.length=Nat.min 1 (L.length+1 - i) * i0.size by rw [hz1,min_b hi];rfl)
 have HN4:=hide (show i * 5+x.cells.length≤((flat L ++ R).take ((i+1) * 5) ++ flat (L.drop i) ++ (flat L ++ R).drop ((i+1) * 5+(flat (L.drop i)).length)).length by rw [splice_len HN2.out];simp only [List.length_append,flat_length];show i * 5+5≤_;omega)
 have HF:=hide (ins_flat (x:=x) (R:=R) hi (by omega))
 have HG:=hide hg
 have HV:=hide hgv
 clear hg hgv
 have b0:((i:Int) == (L.length:Int))=false:=beq_eq_false_iff_ne.2 (by omega)
 have b1:decide ((cap:Int) < (L.length:Int)+1)=false:=decide_eq_false (by omega)
 have c1:¬ (cap=i+1):=by omega
 have c2:¬ (cap=i):=by omega
 have c3:(i:Int)≤(L.length:Int):=by omega
 have c4:(L.length:Int)+1≤(cap:Int):=by omega
 have c5:(i:Int)≤(L.length:Int)+1:=by omega
 have c6:IntKind.i64.wrap ((i:Int)+1)=(i:Int)+1:=IntWalk.i64_in _ (by omega)
 have c7:(0:Int)≤(i:Int)+1:=by omega
 have c8:((i:Int)+1).toNat=i+1:=by omega
 go_enter Tryz.func213,Tryz.ntmps213
 go_wp2_with (simp only [hov])
 go_region_law (refine step_copy_rowN _ rfl (.tmp 73) (.tmp 76) 31 31 rfl 54 i0 Tryz.underlying31 hi0 g ((i+1) * 5) (L.length+1 - (i+1)) (cap - (i+1)) ⟨g,i * 5,none⟩ (L.length+1 - i) (cap - i) (by simp [Act.eval,Act.put]) (by simp [Act.eval,Act.put]) (flat L ++ R) 54 HG.out (flat (L.drop i)) HN1.out (fun j v hj=>row_cell HG.out (i * 5) j v (HD.out j v hj)) HN2.out (flat_one _) ?_;intro w1 hg1 hw1)
 have HV1:Hid (w1.heap[gv]? = some (.cells x.cells.toArray 54 (0,0))):=hide ((hw1.block gv (Array.getElem?_eq_some_iff.1 HV.out).1 (fun e=>hne (by injection e))).trans HV.out)
 go_wp2_with (refine wpList_copy_rowN _ rfl (.tmp 80) (.tmp 81) 31 31 rfl 54 i0 Tryz.underlying31 hi0 g (i * 5) (L.length+1 - i) (cap - i) ⟨gv,0,none⟩ 1 1 rfl rfl _ 54 hg1.out x.cells HN3.out (fun j v hj=>row_cell HV1.out 0 j v (by rw [Nat.zero_add];exact hj)) HN4.out (It.cells_one x) ?_;intro w2 hg2 hw2)
 go_ret
 have hg3:=hg2.out
 rw [HF.out] at hg3
 refine ⟨_,rfl,.inr ⟨g,cap,R.drop 5,by rw [ins_len L i x (by omega)];rfl,hb,hg3,by rw [ins_len L i x (by omega)];omega,by unfold maxLen;omega,by rw [ins_len L i x (by omega),List.length_drop];omega⟩,⟨?_,.inl rfl⟩⟩
 exact grownBy_trans (a:=w) (b:=w1) ⟨hw1.os,hw1.tape,hw1.output,hw1.size,hw1.block⟩ hw2
theorem append_flat (L:List It) (R:List Value) (y:It) (hR:5≤R.length):((flat L ++ R).toArray.toList.take (L.length * 5) ++ y.cells ++ (flat L ++ R).toArray.toList.drop (L.length * 5+y.cells.length))=flat (L ++ [y]) ++ R.drop 5:=by
 have hl:=flat_length L
 rw [List.toList_toArray,← hl,List.take_left,List.drop_append,List.drop_eq_nil_of_le (by omega),flat_app]
 rw [show (flat L).length+y.cells.length - (flat L).length=5 from by have:y.cells.length=5:=rfl;omega]
 simp [flat]
theorem wpList_append_og {ops:Array Oper} {rest:List Oper} {o:Oper} {a:Act} {Q:Exit→Act→World→Prop} (hgd:o.guard=none) (s x:Operand)
   (ho:o.op=.call { callee:=.builtin .append,args:=#[s,x],argTypes:=#[31,31] })
   (base g cap gv:Nat) (R:List Value) (L:List It) (y:It) (w:World) (hs:a.eval s=.slice (some ⟨g,0,none⟩) L.length cap) (hx:a.eval x=.slice (some ⟨gv,0,none⟩) 1 1)
   (hb:base≤g) (hg:w.heap[g]? = some (.cells (flat L ++ R).toArray 54 (0,0))) (hgv:w.heap[gv]? = some (.cells y.cells.toArray 54 (0,0))) (hnc:L.length≤cap) (hcm:cap≤maxLen) (hfit:cap * 5≤L.length * 5+R.length)
   (hbase:base≤w.heap.size) (hn:L.length≤2199023255552)
   (h:∀ v' w',Og base w' v' (L ++ [y])→Wrote w w' (.slice (some ⟨g,0,none⟩) L.length cap) v'→wpList Tryz.prog ops Q rest (a.put o.dst v') w'):wpList Tryz.prog ops Q (o :: rest) a w:=by
 obtain ⟨i0,hi0,hz0,hz1,hz2⟩:=info_parts Tryz.infoItem
 refine wpList_plain hgd fun K hK=>?_
 have hnews:∀ j u,y.cells[j]? = some u→w.cell? ((⟨gv,0,none⟩:Addr).add j)=some u:=fun j u hj=>row_cell hgv 0 j u (by rw [Nat.zero_add];exact hj)
 by_cases hr:L.length+1≤cap
 · have hrun:=run_append_room (P:=Tryz.prog) w 31 o.type 54 i0 Tryz.underlying31 hi0 g L.length cap (flat L ++ R).toArray hg ⟨gv,0,none⟩ 1 1 y.cells (by rw [hz1];rfl) hnews (It.cells_one y) hr (by rw [hz1];simp [flat_length,It.cells];omega)
   rw [hz1] at hrun
   unfold Oper.wp execOp
   simp only [ho,resolve,invoke,builtin,Sem.run_bind,Sem.run_pure,Result.andThen_ok,List.map_toArray,List.map_cons,List.map_nil,hs,hx,hrun]
   refine hK _ _ (h _ _ (.inr ⟨g,cap,R.drop 5,by simp,hb,?_,by simp;omega,hcm,by rw [List.length_append,List.length_drop];simp only [List.length_singleton];omega⟩) ⟨grownBy_setRow w g _,.inl rfl⟩)
   rw [append_flat L R y (by omega)]
   exact setRow_heap w g _ _ _ _ hg
 · obtain ⟨v',w',hrun,h1,h2⟩:=run_append_arg_grows (P:=Tryz.prog) w 31 o.type 54 i0 _ 5 40 Tryz.underlying31 hi0 hz0 hz1 hz2 rfl (by omega) ⟨g,0,none⟩ L.length cap (flat L) (flat_length L) (fun j u hj=>row_cell hg 0 j u (by rw [Nat.zero_add,List.getElem?_append_left (List.getElem?_eq_some_iff.1 hj).1];exact hj)) ⟨gv,0,none⟩ 1 1 y.cells rfl hnews (by omega) (by unfold maxLen;omega) (by omega)
   unfold Oper.wp execOp
   simp only [ho,resolve,invoke,builtin,Sem.run_bind,Sem.run_pure,Result.andThen_ok,List.map_toArray,List.map_cons,List.map_nil,hs,hx,hrun]
   have ho':Ow w.heap.size w' v' (L ++ [y]):=by
     unfold Ow OwnL
     rw [List.length_append,List.flatMap_append]
     simpa [flat] using h1
   refine hK _ _ (h _ _ ((ho'.og).base_ hbase) ⟨⟨h2.os,h2.tape,h2.output,h2.size,fun k hk _=>h2.block k hk (by simp)⟩,.inr ?_⟩)
   rcases h1.2 with ⟨_,h0⟩ | ⟨g',c',cur,rfl,hb',_⟩
   · omega
   · exact ⟨g',rfl,hb'⟩
theorem wpList_append_zeros {ops:Array Oper} {rest:List Oper} {o:Oper} {a:Act} {Q:Exit→Act→World→Prop} (hgd:o.guard=none) (s x:Operand)
   (ho:o.op=.call { callee:=.builtin .append,args:=#[s,x],argTypes:=#[31,3] })
   (g cap i:Nat) (R:List Value) (L:List It) (w:World) (k:Int) (hk:k=((L.length+1 - i:Nat):Int)) (hs:a.eval s=.slice (some ⟨g,0,none⟩) i cap) (hx:a.eval x=.int .i64 k)
   (hg:w.heap[g]? = some (.cells (flat L ++ R).toArray 54 (0,0))) (hi:i < L.length) (hc:cap < L.length+1) (hn:L.length≤2199023255552)
   (h:∀ G ZZ w',L.length+1≤G→G≤maxLen→ZZ.length=(G - i) * 5→Hid (w'.heap[w.heap.size]? = some (.cells (flat (L.take i) ++ ZZ).toArray 54 (0,0)))→Below w.heap.size w w' →
     wpList Tryz.prog ops Q rest (a.put o.dst (.slice (some ⟨w.heap.size,0,none⟩) (L.length+1) G)) w'):wpList Tryz.prog ops Q (o :: rest) a w:=by
 obtain ⟨i0,hi0,hz0,hz1,hz2⟩:=info_parts Tryz.infoItem
 subst hk
 refine wpList_plain hgd fun K hK=>?_
 have hik:i+(L.length+1 - i)=L.length+1:=by omega
 have hold:(Builtin.firstCells i0.size i (.slice (some ⟨g,0,none⟩) i cap)).run Tryz.prog w.drew=.ok (flat (L.take i)).toArray w.drew:=by
   rw [hz1]
   exact run_firstCells_some w.drew 5 i ⟨g,0,none⟩ i cap (flat (L.take i)) (flat_take_len L i (by omega)) (fun j v hj=>row_cell (w:=w.drew) hg 0 j v (by
     rw [Nat.zero_add,flat_split L i (by omega),List.append_assoc,List.getElem?_append_left (List.getElem?_eq_some_iff.1 hj).1];exact hj))
 have hrun:=Lib.run_append_grow_zeros w 31 3 o.type 54 i0 _ .i64 .i64 Tryz.underlying31 Tryz.underlying3 hi0 hz0 (some ⟨g,0,none⟩) i cap (flat (L.take i)) hold (L.length+1 - i) (by omega) (by omega) (by omega) (by omega) (by rw [hz2];omega) (by rw [hz2,hik];exact growslice_fits hc (by omega))
 rw [hik] at hrun
 have hG:=grownCap_ge w (L.length+1) cap 54
 have hG2:=grownCap_le_maxLen w (L.length+1) cap 54 (by unfold maxLen;omega)
 generalize grownCap w (L.length+1) cap 54=G at *
 unfold Oper.wp execOp
 simp only [ho,resolve,invoke,builtin,Sem.run_bind,Sem.run_pure,Result.andThen_ok,List.map_toArray,List.map_cons,List.map_nil,hs,hx,hrun]
 refine hK _ _ (h G ((Builtin.zeroCells (Value.agg #[.int .i64 0,.int .i64 0,.int .u64 0,.int .u64 0,.int .i64 0]).cells (L.length+1 - i)).toList ++ (Builtin.zeroCells (Value.agg #[.int .i64 0,.int .i64 0,.int .u64 0,.int .u64 0,.int .i64 0]).cells (G - (L.length+1))).toList) _ hG hG2 ?_ ?_ ?_)
 · simp only [List.length_append,Array.length_toList,size_zeroCells]
   show (L.length+1 - i) * 5+(G - (L.length+1)) * 5=_
   omega
 · show _=_
   have:=heap_alloc_new w.drew (.cells ((flat (L.take i)).toArray ++ Builtin.zeroCells (Value.agg #[.int .i64 0,.int .i64 0,.int .u64 0,.int .u64 0,.int .i64 0]).cells (L.length+1 - i) ++ Builtin.zeroCells (Value.agg #[.int .i64 0,.int .i64 0,.int .u64 0,.int .u64 0,.int .i64 0]).cells (G - (L.length+1))) 54)
   rw [show (flat (L.take i) ++ ((Builtin.zeroCells (Value.agg #[.int .i64 0,.int .i64 0,.int .u64 0,.int .u64 0,.int .i64 0]).cells (L.length+1 - i)).toList ++ (Builtin.zeroCells (Value.agg #[.int .i64 0,.int .i64 0,.int .u64 0,.int .u64 0,.int .i64 0]).cells (G - (L.length+1))).toList)).toArray=(flat (L.take i)).toArray ++ Builtin.zeroCells (Value.agg #[.int .i64 0,.int .i64 0,.int .u64 0,.int .u64 0,.int .i64 0]).cells (L.length+1 - i) ++ Builtin.zeroCells (Value.agg #[.int .i64 0,.int .i64 0,.int .u64 0,.int .u64 0,.int .i64 0]).cells (G - (L.length+1)) from by apply Array.ext';simp]
   exact this
 · exact ((Below.refl _ _).drew).alloc (Nat.le_refl _) _
theorem min_c {n i:Nat}:Nat.min (n - i) (n+1 - (i+1))=n - i:=by simp only [Nat.min_def];split <;> omega
theorem fit1 {L:List It} {i:Nat} {ZZ:List Value} {G:Nat} (x:It) (hi:i < L.length) (hZ:ZZ.length=(G - i) * 5) (hG:L.length+1≤G):i * 5+x.cells.length≤(flat (L.take i) ++ ZZ).length:=by
 rw [List.length_append,flat_take_len L i (by omega)]
 show i * 5+5≤_
 omega
theorem fit2 {L:List It} {i:Nat} {ZZ:List Value} {G:Nat} (x:It) (hi:i < L.length) (hZ:ZZ.length=(G - i) * 5) (hG:L.length+1≤G):(i+1) * 5+(flat (L.drop i)).length≤(flat (L.take i) ++ x.cells ++ ZZ.drop 5).length:=by
 rw [List.length_append,List.length_append,flat_take_len L i (by omega),List.length_drop,flat_drop_len]
 show _≤i * 5+5+_
 omega
theorem grow_flat1 {L:List It} {i:Nat} {x:It} {ZZ:List Value} (hi:i < L.length):((flat (L.take i) ++ ZZ).take (i * 5) ++ x.cells ++ (flat (L.take i) ++ ZZ).drop (i * 5+x.cells.length))=flat (L.take i) ++ x.cells ++ ZZ.drop 5:=by
 have hl:=flat_take_len L i (by omega)
 rw [← hl,List.take_left,List.drop_append,List.drop_eq_nil_of_le (by omega)]
 rw [show (flat (L.take i)).length+x.cells.length - (flat (L.take i)).length=5 from by have:x.cells.length=5:=rfl;omega]
 simp
theorem splice_end {X Y Z:List Value} {p:Nat} (hX:X.length=p):(X ++ Z).take p ++ Y ++ (X ++ Z).drop (p+Y.length)=X ++ Y ++ Z.drop Y.length:=by
 subst hX
 rw [List.take_left,List.drop_append,List.drop_eq_nil_of_le (by omega),List.nil_append,Nat.add_sub_cancel_left]
theorem grow_flat2 {L:List It} {i:Nat} {x:It} {ZZ:List Value} (hi:i < L.length):((flat (L.take i) ++ x.cells ++ ZZ.drop 5).take ((i+1) * 5) ++ flat (L.drop i) ++ (flat (L.take i) ++ x.cells ++ ZZ.drop 5).drop ((i+1) * 5+(flat (L.drop i)).length))=flat (L.take i ++ x :: L.drop i) ++ ZZ.drop (5+(flat (L.drop i)).length):=by
 have hl:=flat_take_len L i (by omega)
 have h5:x.cells.length=5:=rfl
 have h:=splice_end (X:=flat (L.take i) ++ x.cells) (Y:=flat (L.drop i)) (Z:=ZZ.drop 5) (p:=(i+1) * 5) (by rw [List.length_append,hl,h5];omega)
 rw [h,flat_app,flat_cons,List.drop_drop]
 simp
set_option maxHeartbeats 4000000 in
set_option maxRecDepth 100000 in
theorem ins_grow (g cap gv base:Nat) (R:List Value) (L:List It) (x:It) (i:Nat) (w:World) (hb:base≤g) (hbase:base≤w.heap.size) (hg:w.heap[g]? = some (.cells (flat L ++ R).toArray 54 (0,0))) (hgv:w.heap[gv]? = some (.cells x.cells.toArray 54 (0,0)))
   (hi:i < L.length) (hnc:L.length≤cap) (hroom:cap < L.length+1) (hn:L.length≤2199023255552) :
   Calls Tryz.prog 213 #[.slice (some ⟨g,0,none⟩) L.length cap,.int .i64 i,.slice (some ⟨gv,0,none⟩) 1 1] w (RetOg base (L.take i ++ x :: L.drop i) (.slice (some ⟨g,0,none⟩) L.length cap) w):=by
 obtain ⟨i0,hi0,hz0,hz1,hz2⟩:=info_parts Tryz.infoItem
 have hgl:g < w.heap.size:=(Array.getElem?_eq_some_iff.1 hg).1
 have hgvl:gv < w.heap.size:=(Array.getElem?_eq_some_iff.1 hgv).1
 have HD:=hide (fun (j:Nat) (v:Value) (hj:(flat (L.drop i))[j]? = some v)=>show (flat L ++ R)[i * 5+j]? = some v by
   rw [flat_split L i (by omega),List.append_assoc,List.getElem?_append_right (by rw [flat_take_len L i (by omega)];omega),flat_take_len L i (by omega),Nat.add_sub_cancel_left]
   rw [List.getElem?_append_left (List.getElem?_eq_some_iff.1 hj).1];exact hj)
 have HN1:=hide (show (flat (L.drop i)).length=Nat.min (L.length - i) (L.length+1 - (i+1)) * i0.size by rw [hz1,flat_drop_len,min_c])
 have HN3:=hide (show x.cells.length=Nat.min 1 (L.length+1 - i) * i0.size by rw [hz1,min_b hi];rfl)
 have HG:=hide hg
 have HV:=hide hgv
 have HK:=hide (show ((L.length:Int)+1 - (i:Int))=((L.length+1 - i:Nat):Int) by omega)
 clear hg hgv
 have b0:((i:Int) == (L.length:Int))=false:=beq_eq_false_iff_ne.2 (by omega)
 have b1:decide ((cap:Int) < (L.length:Int)+1)=true:=decide_eq_true (by omega)
 have c2:¬ (cap=i):=by omega
 have c3:(i:Int)≤(L.length:Int):=by omega
 have c9:(i:Int)≤(cap:Int):=by omega
 have c5:(i:Int)≤(L.length:Int)+1:=by omega
 have c6:IntKind.i64.wrap ((i:Int)+1)=(i:Int)+1:=IntWalk.i64_in _ (by omega)
 have c7:(0:Int)≤(i:Int)+1:=by omega
 have c8:((i:Int)+1).toNat=i+1:=by omega
 go_enter Tryz.func213,Tryz.ntmps213
 go_wp2_with (first
   | (at_builtin;refine wpList_append_zeros rfl (.tmp 34) (.tmp 39) rfl g cap i R L _ _ HK.out rfl rfl HG.out hi hroom hn ?_;intro G ZZ w1 hG1 hG2 hZ h1 hb1;have d1:¬ (G=i):=(by omega);have d2:¬ (G=i+1):=(by omega);have d3:G≤9223372036854775807:=(by unfold maxLen at hG2;omega);have HZ:=hide hZ;clear hZ;have HV1:=hide ((hb1.block gv hgvl).trans HV.out);have HS1:=hide ((hb1.block g hgl).trans HG.out);have HW1:=hide hb1;have hl1:=hb1.size)
   | (refine wpList_copy_rowN _ rfl (.tmp 43) (.tmp 44) 31 31 rfl 54 i0 Tryz.underlying31 hi0 w.heap.size (i * 5) (L.length+1 - i) (G - i) ⟨gv,0,none⟩ 1 1 rfl rfl _ 54 h1.out x.cells HN3.out (fun j v hj=>row_cell HV1.out 0 j v (by rw [Nat.zero_add];exact hj)) (fit1 x hi HZ.out hG1) (It.cells_one x) ?_;intro w2 hg2 hw2))
 have hg2':=hg2.out
 rw [grow_flat1 hi] at hg2'
 have HG2:=hide hg2'
 have HS2:=hide ((hw2.block g (Nat.lt_of_lt_of_le hgl HW1.out.size) (fun e=>by injection e with e;omega)).trans HS1.out)
 clear hg2 hg2' h1
 go_region_law (refine step_copy_rowN _ rfl (.tmp 50) (.tmp 53) 31 31 rfl 54 i0 Tryz.underlying31 hi0 w.heap.size ((i+1) * 5) (L.length+1 - (i+1)) (G - (i+1)) ⟨g,i * 5,none⟩ (L.length - i) (cap - i) (by simp [Act.eval,Act.put]) (by simp [Act.eval,Act.put]) _ 54 HG2.out (flat (L.drop i)) HN1.out (fun j v hj=>row_cell HS2.out (i * 5) j v (HD.out j v hj)) (fit2 x hi HZ.out hG1) (flat_one _) ?_;intro w3 hg3 hw3)
 have hg4:=hg3.out
 rw [grow_flat2 hi] at hg4
 have HG4:=hide hg4
 clear hg3 hg4
 go_wp2_with fail
 go_ret
 refine ⟨_,rfl,.inr ⟨w.heap.size,G,ZZ.drop (5+(flat (L.drop i)).length),by rw [ins_len L i x (by omega)];rfl,hbase,HG4.out,by rw [ins_len L i x (by omega)];exact hG1,hG2,?_⟩,⟨?_,.inr ⟨w.heap.size,rfl,Nat.le_refl _⟩⟩⟩
 · rw [ins_len L i x (by omega),List.length_drop,flat_drop_len,HZ.out];omega
 · have hbb:Below w.heap.size w w3:=(HW1.out.grown hw2 HW1.out.size (fun k hk=>by injection hk with hk;omega)).grown (row:=some w.heap.size) ⟨hw3.os,hw3.tape,hw3.output,hw3.size,hw3.block⟩ (Nat.le_trans HW1.out.size hw2.size) (fun k hk=>by injection hk with hk;omega)
   exact grownBy_below hbb
theorem wrote_nil {w w':World} {v':Value} {base:Nat} {L:List It} (hg:w.grownBy w' none) (ho:Og base w' v' L) (hb:∀ k,v'.ownBlock=some k→w.heap.size≤k):Wrote w w' (.slice none 0 0) v':=by
 refine ⟨hg,?_⟩
 cases e:v'.ownBlock with
 | none=>exact .inl rfl
 | some k=>exact .inr ⟨k,rfl,hb k e⟩
set_option maxHeartbeats 400000 in
theorem ins_end (g cap gv base:Nat) (R:List Value) (L:List It) (x:It) (w:World) (hb:base≤g) (hbase:base≤w.heap.size) (hg:w.heap[g]? = some (.cells (flat L ++ R).toArray 54 (0,0))) (hgv:w.heap[gv]? = some (.cells x.cells.toArray 54 (0,0)))
   (hnc:L.length≤cap) (hcm:cap≤maxLen) (hfit:cap * 5≤L.length * 5+R.length) (hn:L.length≤2199023255552) :
   Calls Tryz.prog 213 #[.slice (some ⟨g,0,none⟩) L.length cap,.int .i64 L.length,.slice (some ⟨gv,0,none⟩) 1 1] w (RetOg base (L ++ [x]) (.slice (some ⟨g,0,none⟩) L.length cap) w):=by
 have HG:=hide hg
 have HV:=hide hgv
 clear hg hgv
 have hle:(L.length:Int)≤(cap:Int):=by omega
 go_enter Tryz.func213,Tryz.ntmps213
 go_wp2_with (at_builtin;refine wpList_append_og rfl (.tmp 23) (.tmp 24) rfl base g cap gv R L x _ rfl rfl hb HG.out HV.out hnc hcm hfit hbase hn ?_;intro v1 w1 ho1 hw1)
 all_goals
   go_ret
   exact ⟨_,rfl,ho1,⟨hw1.grown,hw1.lies⟩⟩
set_option maxHeartbeats 400000 in
theorem ins_nil (gv base:Nat) (x:It) (w:World) (hbase:base≤w.heap.size) (hgv:w.heap[gv]? = some (.cells x.cells.toArray 54 (0,0))) :
   Calls Tryz.prog 213 #[.slice none 0 0,.int .i64 0,.slice (some ⟨gv,0,none⟩) 1 1] w (RetOg base [x] (.slice none 0 0) w):=by
 have HV:=hide hgv
 clear hgv
 obtain ⟨i0,hi,hz0,hz1,hz2⟩:=info_parts Tryz.infoItem
 go_enter Tryz.func213,Tryz.ntmps213
 go_wp2_with (at_builtin;refine wpList_append_row _ rfl (.tmp 23) (.tmp 24) 31 rfl w.heap.size 54 i0 _ 5 40 Tryz.underlying31 hi hz0 hz1 hz2 rfl (by omega) It.cells_len (.slice none 0 0) [] rfl (OwnL.nil_ _ _ _ _ _) (some ⟨gv,0,none⟩) 1 [x] rfl (RowAt.new_one (t:=54) (fr:=(0,0)) HV.out) (by simp) (fun m _=>It.cells_one m) (by simp [maxLen]) (by simp) (Nat.le_refl _) ?_;intro v1 w1 hown1 hg1 _)
 all_goals
   go_ret
   have ho:Ow w.heap.size w1 v1 [x]:=hown1
   exact ⟨_,rfl,(ho.og).base_ hbase,wrote_nil hg1 ho.og (fun k hk=>(OwnL.lt ho k hk).1)⟩
theorem ins_any (gv base:Nat) (v:Value) (L:List It) (x:It) (i:Nat) (w:World) (h:Og base w v L) (hbase:base≤w.heap.size) (hgv:w.heap[gv]? = some (.cells x.cells.toArray 54 (0,0))) (hne:v.ownBlock ≠ some gv) (hi:i≤L.length) (hn:L.length≤2199023255552) :
   Calls Tryz.prog 213 #[v,.int .i64 i,.slice (some ⟨gv,0,none⟩) 1 1] w (RetOg base (L.take i ++ x :: L.drop i) v w):=by
 rcases h with ⟨rfl,rfl⟩ | ⟨g,cap,R,rfl,hb,hg,hnc,hcm,hfit⟩
 · obtain rfl:i=0:=by simpa using hi
   exact ins_nil gv base x w hbase hgv
 · have hne':gv ≠ g:=fun e=>hne (by rw [e];rfl)
   by_cases he:i=L.length
   · subst he
     rw [List.take_length,List.drop_length]
     exact ins_end g cap gv base R L x w hb hbase hg hgv hnc hcm hfit hn
   · by_cases hr:L.length+1≤cap
     · exact ins_in g cap gv base R L x i w hb hg hgv hne' (by omega) hr hcm hfit
     · exact ins_grow g cap gv base R L x i w hb hbase hg hgv (by omega) hnc (by omega) hn
end Go.Proofs.YtgmkckjedngkdaaGreatDoor
namespace Go.Proofs.YtgmkckjedngkdaaGreatDoor
open Go.ChangeShapes Go.WideShapes Go.ChangeAt Go.RowKit
def TellsG (F:FuncId) (caps:Array Value) (p:It→Bool) (L:List It) (row:Option Nat) (w:World):Prop :=
 ∀ x ∈ L,∀ w1,w.grownBy w1 row→Calls Tryz.prog F (#[x.val] ++ caps) w1 fun e w2=>e=.returned (.bool (p x))∧Below w1.heap.size w1 w2
theorem row_item5 {w:World} {g:Nat} {M:List It} {R:List Value} {t:TypeId} (h:w.heap[g]? = some (.cells (flat M ++ R).toArray t (0,0))) {k:Nat} (hk:k < M.length) :
   w.cell? ⟨g,k * 5,none⟩=some (.int .i64 M[k].s)∧w.cell? ⟨g,k * 5+1,none⟩=some (.int .i64 M[k].k)∧w.cell? ⟨g,k * 5+2,none⟩=some (.int .u64 M[k].t)∧w.cell? ⟨g,k * 5+3,none⟩=some (.int .u64 M[k].v)∧w.cell? ⟨g,k * 5+4,none⟩=some (.int .i64 M[k].x):=by
 have f:∀ j u,(It.cells M[k])[j]? = some u→w.cell? ⟨g,k * 5+j,none⟩=some u:=fun j u hu=>by
   rw [cell_of_row w g (k * 5+j) _ _ _ h]
   have:=flat_at M R k hk j u hu
   simpa using this
 exact ⟨f 0 _ rfl,f 1 _ rfl,f 2 _ rfl,f 3 _ rfl,f 4 _ rfl⟩
theorem row_free {w:World} {g:Nat} {l:Array Value} {t:TypeId} (h:w.heap[g]? = some (.cells l t (0,0))):∀ o,w.frozen? ⟨g,o,none⟩=false:=fun o=>by simp [World.frozen?,h]
section
variable {P:Program}
theorem wpList_clear_rowN (w:World) {ops:Array Oper} {rest:List Oper} {o:Oper} {a:Act} {Q:Exit→Act→World→Prop} (hgd:o.guard=none) (s:Operand) (dT:TypeId)
   (ho:o.op=.call { callee:=.builtin .clear,args:=#[s],argTypes:=#[dT] }) (elem:TypeId) (i:TypeInfo) (z:Value) (hu:P.underlying dT=some (.slice elem)) (hi:P.info? elem=some i) (hz:i.zero=some z)
   (g off n c:Nat) (hs:a.eval s=.slice (some ⟨g,off,none⟩) n c) (hn:0 < n)
   (cur:List Value) (t:TypeId) (hg:w.heap[g]? = some (.cells cur.toArray t (0,0))) (hfit:off+n * z.cells.size≤cur.length) (h1:∀ v ∈ (Builtin.zeroCells z.cells n).toList,v.oneCell'=true)
   (h:∀ w',Hid (w'.heap[g]? = some (.cells (cur.take off ++ (Builtin.zeroCells z.cells n).toList ++ cur.drop (off+(Builtin.zeroCells z.cells n).toList.length)).toArray t (0,0)))→w.grownBy w' (some g)→wpList P ops Q rest (a.put o.dst (.tuple #[])) w'):wpList P ops Q (o :: rest) a w:=by
 refine wpList_plain hgd fun K hK=>?_
 obtain ⟨m,rfl⟩:∃ m,n=m+1:=⟨n - 1,by omega⟩
 have hst:=run_storeCells_at P g off t (Builtin.zeroCells z.cells (m+1)).toList 0 cur.toArray w hg (by rw [Array.length_toList,size_zeroCells];simpa using hfit) h1
 have hrun:(Builtin.clear_ #[dT] o.type #[.slice (some ⟨g,off,none⟩) (m+1) c]).run P w=.ok (.tuple #[]) (w.setRow g (cur.take off ++ (Builtin.zeroCells z.cells (m+1)).toList ++ cur.drop (off+(Builtin.zeroCells z.cells (m+1)).toList.length)).toArray):=by
   simp only [Nat.add_zero,List.toList_toArray] at hst
   simp [Builtin.clear_,run_underlying hu,zeroValue,typeInfo,hi,hz,hst]
 unfold Oper.wp
 simp only [execOp,ho,resolve,invoke,builtin,Sem.run_bind,Sem.run_pure,Result.andThen_ok,List.map_toArray,List.map_cons,List.map_nil,hs,hrun]
 exact hK _ _ (h _ (show _=_ from setRow_heap w g _ _ t _ hg) (grownBy_setRow w g _))
end
def keepL (p:It→Bool) (L:List It):List It:=L.filter fun y=>!p y
theorem keep_snoc {p:It→Bool} {L:List It} {j:Nat} (hj:j < L.length):keepL p (L.take (j+1))=keepL p (L.take j) ++ (if p L[j] then [] else [L[j]]):=by
 unfold keepL
 rw [List.take_succ_eq_append_getElem hj,List.filter_append]
 cases h:p L[j] <;> simp [h]
theorem keep_all {p:It→Bool} {L:List It} (h:findI p L=-1):keepL p L=L:=by
 unfold keepL
 refine List.filter_eq_self.2 fun x hx=>?_
 unfold findI at h
 cases e:L.findIdx? p with
 | some i=>rw [e] at h;simp at h;try omega
 | none=>rw [List.findIdx?_eq_none_iff] at e;simp [e x hx]
theorem find_some {p:It→Bool} {L:List It} (h:¬ findI p L=-1):∃ i:Nat,findI p L=i∧i < L.length∧keepL p (L.take (i+1))=L.take i:=by
 unfold findI at *
 cases e:L.findIdx? p with
 | none=>rw [e] at h;exact absurd rfl h
 | some i =>
   rw [List.findIdx?_eq_some_iff_getElem] at e
   obtain ⟨hi,hp,hno⟩:=e
   refine ⟨i,rfl,hi,?_⟩
   rw [keep_snoc hi,hp]
   simp only [if_true,List.append_nil]
   unfold keepL
   refine List.filter_eq_self.2 fun x hx=>?_
   obtain ⟨j,hj,rfl⟩:=List.getElem_of_mem hx
   have hj':j < i:=by simp at hj;omega
   rw [List.getElem_take]
   have:=hno j hj'
   simpa using this
def Swept (p:It→Bool) (L:List It) (j i:Nat) (M:List It):Prop:=∃ J,J ≠ []∧M=keepL p (L.take j) ++ J ++ L.drop j∧(keepL p (L.take j)).length=i∧i+J.length=j
theorem Swept.len {p:It→Bool} {L:List It} {j i:Nat} {M:List It} (h:Swept p L j i M) (hj:j≤L.length):M.length=L.length∧i < j:=by
 obtain ⟨J,h0,rfl,h1,h2⟩:=h
 have:0 < J.length:=List.length_pos_iff.2 h0
 simp only [List.length_append,List.length_drop]
 omega
theorem Swept.at_ {p:It→Bool} {L:List It} {j i:Nat} {M:List It} (h:Swept p L j i M) (hj:j < L.length) (hM:j < M.length):M[j]=L[j]:=by
 obtain ⟨J,h0,rfl,h1,h2⟩:=h
 rw [List.getElem_append_right (by simp only [List.length_append];omega)]
 simp only [List.length_append,List.getElem_drop]
 congr 1;omega
theorem Swept.drop_ {p:It→Bool} {L:List It} {j i:Nat} {M:List It} (h:Swept p L j i M) (hj:j < L.length) (hp:p L[j]=true):Swept p L (j+1) i M:=by
 obtain ⟨J,h0,rfl,h1,h2⟩:=h
 refine ⟨J ++ [L[j]],by simp,?_,?_,by simp;omega⟩
 · rw [keep_snoc hj,hp,List.drop_eq_getElem_cons hj];simp
 · rw [keep_snoc hj,hp];simpa using h1
theorem Swept.keep_ {p:It→Bool} {L:List It} {j i:Nat} {M:List It} (h:Swept p L j i M) (hj:j < L.length) (hp:p L[j]=false):Swept p L (j+1) (i+1) (M.set i L[j]):=by
 obtain ⟨J,h0,rfl,h1,h2⟩:=h
 cases J with
 | nil=>exact absurd rfl h0
 | cons a J1 =>
   refine ⟨J1 ++ [L[j]],by simp,?_,?_,by simp at *;omega⟩
   · rw [keep_snoc hj,hp,List.drop_eq_getElem_cons hj,List.append_assoc,List.set_append_right _ _ (by omega),h1,Nat.sub_self]
     simp
   · rw [keep_snoc hj,hp];simp [h1]
theorem swept_start {p:It→Bool} {L:List It} {i:Nat} (hi:i < L.length) (h:keepL p (L.take (i+1))=L.take i):Swept p L (i+1) i L:=by
 refine ⟨[L[i]],by simp,?_,?_,by simp⟩
 · rw [h]
   rw [List.append_assoc,List.singleton_append,← List.drop_eq_getElem_cons hi,List.take_append_drop]
 · rw [h,List.length_take];omega
theorem zero_cells (n:Nat):(Builtin.zeroCells (Value.agg #[.int .i64 0,.int .i64 0,.int .u64 0,.int .u64 0,.int .i64 0]).cells n).toList.length=n * 5:=by
 rw [Array.length_toList,size_zeroCells];rfl
theorem zero_one (n:Nat):∀ v ∈ (Builtin.zeroCells (Value.agg #[.int .i64 0,.int .i64 0,.int .u64 0,.int .u64 0,.int .i64 0]).cells n).toList,v.oneCell'=true:=by
 intro v hv
 simp only [Builtin.zeroCells,Array.toList_flatten,Array.toList_replicate,Array.toList_map,List.mem_flatten,List.mem_map] at hv
 obtain ⟨a,_,rfl⟩:=hv
 have h:a % 5 < 5:=Nat.mod_lt _ (by omega)
 show ((#[.int .i64 0,.int .i64 0,.int .u64 0,.int .u64 0,.int .i64 0]:Array Value)[a % 5]!).oneCell'=true
 generalize a % 5=k at h ⊢
 match k,h with
 | 0,_=>rfl
 | 1,_=>rfl
 | 2,_=>rfl
 | 3,_=>rfl
 | 4,_=>rfl
theorem swept_end {p:It→Bool} {L:List It} {i:Nat} {M:List It} {R Z:List Value} (h:Swept p L L.length i M) (hZ:Z.length=(L.length - i) * 5) :
   (flat M ++ R).take (i * 5) ++ Z ++ (flat M ++ R).drop (i * 5+Z.length)=flat (keepL p L) ++ (Z ++ R)∧(keepL p L).length=i:=by
 obtain ⟨J,h0,rfl,h1,h2⟩:=h
 rw [List.take_length] at *
 have hk:(flat (keepL p L)).length=i * 5:=by rw [flat_length,h1]
 have hJ:(flat J).length=Z.length:=by rw [flat_length,hZ];congr 1;omega
 refine ⟨?_,h1⟩
 rw [List.drop_length,List.append_nil,flat_app,← hk,List.append_assoc (flat (keepL p L)),List.take_left,List.drop_append,List.drop_eq_nil_of_le (by omega),List.nil_append,Nat.add_sub_cancel_left,← hJ,List.drop_left,List.append_assoc]
set_option maxHeartbeats 4000000 in
set_option maxRecDepth 100000 in
theorem del_row (F:FuncId) (caps:Array Value) (hcf:Enters Tryz.prog F) (p:It→Bool) (g cap base:Nat) (R:List Value) (L:List It) (w:World) (hb:base≤g) (hg:w.heap[g]? = some (.cells (flat L ++ R).toArray 54 (0,0)))
   (hnc:L.length≤cap) (hcm:cap≤maxLen) (hfit:cap * 5≤L.length * 5+R.length) (hF:TellsG F caps p L (some g) w) :
   Calls Tryz.prog 214 #[.slice (some ⟨g,0,none⟩) L.length cap,.func (.func F) #[] caps] w (RetOg base (keepL p L) (.slice (some ⟨g,0,none⟩) L.length cap) w):=by
 have hgl:g < w.heap.size:=(Array.getElem?_eq_some_iff.1 hg).1
 have HI:=hide (fun W hW=>index_any F caps hcf p (some ⟨g,0,none⟩) cap L W (by unfold maxLen at hcm;omega) (RowAt.below (row_items hg) hW) (fun x hx w1 h1=>hF x hx w1 (grownBy_below (below_step hW h1))))
 have HF:=hide hF
 have HCF:=hide hcf
 have HG:=hide hg
 clear hg hF hcf
 by_cases hf:findI p L=-1
 · have HK:=hide (keep_all hf)
   rw [hf] at HI
   go_enter Tryz.func214,Tryz.ntmps214
   go_wp2_with fail
   refine (Calls.mono (HI.out _ (Below.refl _ _)) ?_);rintro e w1 ⟨rfl,hg1⟩
   go_wp2_with fail
   go_ret
   refine ⟨_,rfl,?_,⟨grownBy_below hg1,.inl rfl⟩⟩
   rw [HK.out]
   exact .inr ⟨g,cap,R,rfl,hb,(hg1.block g hgl).trans HG.out,hnc,hcm,hfit⟩
 · obtain ⟨i0,hf2,hi0,hk0⟩:=find_some hf
   rw [hf2] at HI
   have HS:=hide (swept_start hi0 hk0)
   clear hf hf2 hk0
   have hc63:cap≤9223372036854775807:=by unfold maxLen at hcm;omega
   have bi:((i0:Int) == -1)=false:=beq_eq_false_iff_ne.2 (by omega)
   go_enter Tryz.func214,Tryz.ntmps214
   go_wp2_with fail
   refine (Calls.mono (HI.out _ (Below.refl _ _)) ?_);rintro e w1 ⟨rfl,hg1⟩
   have HG1:=hide ((hg1.block g hgl).trans HG.out)
   have HB1:=hide (grownBy_below (row:=some g) hg1)
   clear hg1 HI
   go_wp2_with fail
   go_loopw [5,6] (fun a b wr=>∃ (i j:Nat) (M:List It),a=.int .i64 i∧b=.int .i64 j∧j≤L.length∧Swept p L j i M∧wr.heap[g]? = some (.cells (flat M ++ R).toArray 54 (0,0))∧w.grownBy wr (some g)) (fun _ b _=>L.length - (intOf b).toNat)
   case atStart=>exact ⟨i0,i0+1,L,rfl,by go_num,by omega,HS.out,HG1.out,HB1.out⟩
   case round =>
     obtain ⟨i,j,M,rfl,rfl,hj,hsw,hgr,hgb⟩:=hrel
     obtain ⟨hMl,hij⟩:=hsw.len hj
     have hml:M.length≤L.length:=by omega
     have hml2:L.length≤M.length:=by omega
     have HMl:=hide hMl
     clear hMl
     have hgl':g < wr.heap.size:=(Array.getElem?_eq_some_iff.1 hgr).1
     have HGR:=hide hgr
     have HGB:=hide hgb
     clear hgr hgb
     by_cases hlt:j < L.length
     · obtain ⟨y0,y1,y2,y3,y4⟩:=row_item5 HGR.out (k:=j) (by omega)
       have hat:=hsw.at_ hlt (by omega)
       have H1:=hide (fun h=>hsw.drop_ hlt h)
       have H2:=hide (fun h=>hsw.keep_ hlt h)
       have hcall:=HF.out L[j] (List.getElem_mem _)
       rw [hat] at y0 y1 y2 y3 y4
       clear hsw hat
       generalize L[j]=y at *
       have HC:=hide (fun W hW=>hcall W hW)
       clear hcall
       have hcf:=HCF.out
       unfold Enters at hcf
       have hjc:(j:Int) < (L.length:Int):=by omega
       cases hp:p y
       all_goals
         go_wp2_with fail
         refine (Calls.mono (HC.out _ (grownBy_trans HGB.out (World.grownBy_alloc _ _ _))) ?_);rintro e w2 ⟨rfl,hg2⟩
         rw [hp]
         have HG2:=hide ((hg2.block g (by simp;omega)).trans ((Below.heap_alloc wr _ g hgl').trans HGR.out))
         have HB2:=hide (grownBy_trans HGB.out (grownBy_trans (World.grownBy_alloc _ _ _) (grownBy_below (row:=some g) hg2)))
         obtain ⟨x0,x1,x2,x3,x4⟩:=box_item (x:=y) ((hg2.block wr.heap.size (by simp)).trans (heap_alloc_new wr _))
         clear hg2
       · obtain ⟨z0,z1,z2,z3,z4⟩:=row_item5 HG2.out (k:=i) (by omega)
         have hfz:=row_free HG2.out
         have hne:¬ (wr.heap.size=g):=by omega
         have hne2:¬ (g=wr.heap.size):=by omega
         have hic:(i:Int) < (L.length:Int):=by omega
         have hil:i < M.length:=by omega
         go_wp2_with fail
         go_roundw
         case rel=>exact ⟨i+1,j+1,M.set i y,by go_num,by go_num,by omega,H2.out hp,put5_row HG2.out hil,grownBy_trans HB2.out (put5_grown _ g (i * 5) y)⟩
         case measure=>simp [intOf];omega
       · go_wp2_with fail
         go_roundw
         case rel=>exact ⟨i,j+1,M,rfl,by go_num,by omega,H1.out hp,HG2.out,HB2.out⟩
         case measure=>simp [intOf];omega
     · obtain rfl:j=L.length:=by omega
       have hc1:¬ (cap=i):=by omega
       have hil:(i:Int)≤(L.length:Int):=by omega
       have hil2:(i:Int)≤(cap:Int):=by omega
       obtain ⟨i0',hi0',hz0,hz1,hz2⟩:=info_parts Tryz.infoItem
       have HE:=hide (swept_end (R:=R) hsw (zero_cells _))
       have HZ1:=hide (show i * 5+(L.length - i) * (Value.agg #[.int .i64 0,.int .i64 0,.int .u64 0,.int .u64 0,.int .i64 0]).cells.size≤(flat M ++ R).length by
         rw [List.length_append,flat_length];show i * 5+(L.length - i) * 5≤_;omega)
       go_wp2_with (refine wpList_clear_rowN _ rfl (.tmp 38) 31 rfl 54 i0' _ Tryz.underlying31 hi0' hz0 g (i * 5) (L.length - i) (cap - i) rfl (by omega) _ 54 HGR.out HZ1.out (zero_one _) ?_;intro w2 hg2 hw2)
       have hg3:=hg2.out
       rw [HE.out.1] at hg3
       have HG3:=hide hg3
       clear hg2 hg3
       go_wp2_with fail
       go_ret
       refine ⟨_,rfl,.inr ⟨g,cap,_,by rw [HE.out.2];rfl,hb,HG3.out,by rw [HE.out.2];omega,hcm,?_⟩,⟨grownBy_trans HGB.out hw2,.inl rfl⟩⟩
       rw [HE.out.2,List.length_append,zero_cells];omega
theorem del_any (F:FuncId) (caps:Array Value) (hcf:Enters Tryz.prog F) (p:It→Bool) (base:Nat) (v:Value) (L:List It) (w:World) (h:Og base w v L) (hF:TellsG F caps p L v.ownBlock w) :
   Calls Tryz.prog 214 #[v,.func (.func F) #[] caps] w (RetOg base (keepL p L) v w):=by
 rcases h with ⟨rfl,rfl⟩ | ⟨g,cap,R,rfl,hb,hg,hnc,hcm,hfit⟩
 · have HI:=hide (index_any F caps hcf p none 0 [] w (by simp) RowAt.nil_ (fun x hx=>by simp at hx))
   clear hF hcf
   go_enter Tryz.func214,Tryz.ntmps214
   go_wp2_with fail
   refine (Calls.mono HI.out ?_);rintro e w1 ⟨rfl,hg1⟩
   rw [show findI p []=-1 from rfl]
   go_wp2_with fail
   go_ret
   exact ⟨_,rfl,.inl ⟨rfl,rfl⟩,⟨grownBy_below hg1,.inl rfl⟩⟩
 · exact del_row F caps hcf p g cap base R L w hb hg hnc hcm hfit hF
end Go.Proofs.YtgmkckjedngkdaaGreatDoor
namespace Go.Proofs.YtgmkckjedngkdaaGreatDoor
open Go.ChangeShapes Go.WideShapes Go.ChangeAt Go.RowKit
def findI_F (p:It→Bool) (L:List It):Int:=match L.findIdx? p with | some i=>i | none=>-1
theorem findI_hit_F {p:It→Bool} {L:List It} {k:Nat} (hk:k < L.length) (h:∀ j (_:j < k) (hj':j < L.length),p L[j]=false) (hp:p L[k]=true):findI_F p L=k:=by
 have e:L.findIdx? p=some k:=by
   rw [List.findIdx?_eq_some_iff_getElem]
   exact ⟨hk,hp,fun j hj=>by simp [h j hj (by omega)]⟩
 simp [findI_F,e]
theorem findI_miss_F {p:It→Bool} {L:List It} (h:∀ j (hj':j < L.length),p L[j]=false):findI_F p L=-1:=by
 have e:L.findIdx? p=none:=by
   rw [List.findIdx?_eq_none_iff]
   intro x hx
   obtain ⟨j,hj,rfl⟩:=List.getElem_of_mem hx
   exact h j hj
 simp [findI_F,e]
theorem miss_snoc_F {p:It→Bool} {L:List It} {k:Nat} {hk:k < L.length} (h:∀ j (_:j < k) (hj':j < L.length),p L[j]=false) (hp:p L[k]=false):∀ j (_:j < k+1) (hj':j < L.length),p L[j]=false:=by
 intro j hj hj'
 by_cases e:j=k
 · subst e;exact hp
 · exact h j (by omega) hj'
def Tells_F (F:FuncId) (caps:Array Value) (p:It→Bool) (L:List It) (w:World):Prop :=
 ∀ x ∈ L,∀ w1,Below w.heap.size w w1→Calls Tryz.prog F (#[x.val] ++ caps) w1 fun e w2=>e=.returned (.bool (p x))∧Below w1.heap.size w1 w2
set_option maxHeartbeats 400000 in
theorem index_any_F (F:FuncId) (caps:Array Value) (hcf:Enters Tryz.prog F) (p:It→Bool) (A:Option Addr) (c:Nat) (L:List It) (w:World) (hl:L.length≤9223372036854775807) (hL:ItemsAt w A L)
  (hF:Tells_F F caps p L w) :
   Calls Tryz.prog 158 #[.slice A L.length c,.func (.func F) #[] caps] w fun e w'=>e=.returned (.int .i64 (findI_F p L))∧Below w.heap.size w w':=by
 unfold Enters at hcf
 unfold Tells_F at hF
 go_enter Tryz.func158,Tryz.ntmps158
 go_wp2
 go_loopw [5,8] (fun _ i wr=>∃ k:Nat,k≤L.length∧i=.int .i64 k∧Below w.heap.size w wr∧∀ j (hj:j < k) (hj':j < L.length),p L[j]=false) (fun _ i _=>L.length - (intOf i).toNat)
 case atStart=>exact ⟨0,by omega,rfl,Below.refl _ _,by intro j hj;omega⟩
 case round =>
   obtain ⟨k,hk,rfl,hb,hp⟩:=hrel
   have HP:=hide hp
   clear hp
   by_cases hlt:k < L.length
   · obtain ⟨b,off,rfl,hbb,c0,c1,c2,c3,c4⟩:=hL.item hb hlt
     have hFk:=hF L[k] (List.getElem_mem _) wr hb
     have HF:=hide hFk
     clear hFk hF
     cases hpk:p L[k]
     · have HN:=hide (miss_snoc_F HP.out hpk)
       go_wp2_with (refine (Calls.mono HF.out ?_);rintro e w1 ⟨rfl,hg1⟩;try rw [hpk])
       go_roundw
       case rel=>exact ⟨k+1,by omega,by go_num,hb.trans (hg1.mono hb.size),HN.out⟩
       case measure=>simp [intOf];omega
     · have HM:=hide (findI_hit_F hlt HP.out hpk)
       go_wp2_with (refine (Calls.mono HF.out ?_);rintro e w1 ⟨rfl,hg1⟩;try rw [hpk])
       go_ret
       exact ⟨by rw [HM.out];rfl,hb.trans (hg1.mono hb.size)⟩
   · have HM:=hide (findI_miss_F (fun j hj=>HP.out j (by omega) hj))
     go_wp2
     go_ret
     exact ⟨by rw [HM.out];rfl,hb⟩
def anyI_F (p:It→Bool) (L:List It):Bool:=L.any p
theorem findI_any_F (p:It→Bool) (L:List It):decide (0≤findI_F p L)=anyI_F p L:=by
 unfold findI_F anyI_F
 cases h:L.findIdx? p with
 | none =>
   rw [List.findIdx?_eq_none_iff] at h
   simp
   intro x hx;simp [h x hx]
 | some i =>
   rw [List.findIdx?_eq_some_iff_getElem] at h
   obtain ⟨hi,hp,_⟩:=h
   simp
   exact ⟨_,List.getElem_mem hi,hp⟩
set_option maxHeartbeats 400000 in
theorem contains_any_F (F:FuncId) (caps:Array Value) (hcf:Enters Tryz.prog F) (p:It→Bool) (A:Option Addr) (c:Nat) (L:List It) (w:World) (hl:L.length≤9223372036854775807) (hL:ItemsAt w A L)
  (hF:Tells_F F caps p L w) :
   Calls Tryz.prog 78 #[.slice A L.length c,.func (.func F) #[] caps] w fun e w'=>e=.returned (.bool (anyI_F p L))∧Below w.heap.size w w':=by
 have H:=hide (index_any_F F caps hcf p A c L w hl hL hF)
 have HE:=hide (findI_any_F p L)
 clear hF hL
 generalize findI_F p L=q at *
 generalize anyI_F p L=r at *
 go_enter Tryz.func78,Tryz.ntmps78
 go_wp2_with (refine (Calls.mono H.out ?_);rintro e w1 ⟨rfl,hg1⟩)
 go_ret
 exact ⟨by rw [← HE.out];rfl,hg1⟩
end Go.Proofs.YtgmkckjedngkdaaGreatDoor
namespace Go.Proofs.YtgmkckjedngkdaaGreatDoor
open Go.ChangeShapes Go.WideShapes Go.ChangeAt Go.RowKit
abbrev meta4 (f c a l:Int):Value:=.agg #[.int .u64 f,.int .u64 c,.int .u64 a,.int .u64 l]
end Go.Proofs.YtgmkckjedngkdaaGreatDoor
namespace Go.Proofs.YtgmkckjedngkdaaGreatDoor
open Go.ChangeShapes Go.WideShapes Go.ChangeAt Go.RowKit
def lowB (f:Int) (x:It):Bool:=decide (x.v≤f)
def allowB (f:Int) (L:List It):Bool:=!anyI_F (lowB f) L
set_option maxHeartbeats 400000 in
theorem allow1_any (x:It) (B:Nat) (f:Int) (w:World) (hc:w.cell? ⟨B,0,none⟩=some (.int .u64 f)) (hB:B < w.heap.size) :
   Calls Tryz.prog 79 #[x.val,.pointer (some ⟨B,0,none⟩)] w fun e w'=>e=.returned (.bool (lowB f x))∧Below w.heap.size w w':=by
 go_enter Tryz.func79,Tryz.ntmps79
 go_wp2
 go_ret
 exact ⟨rfl,by go_grown⟩
theorem allow1_in:Enters Tryz.prog 79:=fun _ _=>by kernel_rfl
set_option maxHeartbeats 400000 in
theorem pallow_any (f c a l:Int) (A:Option Addr) (k:Nat) (L:List It) (w:World) (hl:L.length≤9223372036854775807) (hL:ItemsAt w A L) :
   Calls Tryz.prog 27 #[meta4 f c a l,.slice A L.length k] w fun e w'=>e=.returned (.bool (allowB f L))∧Below w.heap.size w w':=by
 have HL:=hide hL
 clear hL
 have HA:Hid (allowB f L=!anyI_F (lowB f) L):=rfl
 generalize hg:allowB f L=r at *
 clear hg
 go_enter Tryz.func27,Tryz.ntmps27
 go_wp2_with fail
 refine (contains_any_F 79 _ allow1_in (lowB f) A k L _ hl (HL.out.below (Below.alloc (Below.refl _ _) (Nat.le_refl _) _)) ?_).mono ?_
 · intro x _ w1 hb
   refine allow1_any x w.heap.size f w1 ?_ ?_
   · rw [hb.cell (by simp)];simp
   · have:=hb.size;simp at this;omega
 · rintro e w1 ⟨rfl,hg1⟩
   go_wp2
   go_ret
   exact ⟨by rw [HA.out];rfl,by repeat' (first | exact Below.refl _ _ | refine below_alloc ?_ _ | refine below_step ?_ (by assumption))⟩
end Go.Proofs.YtgmkckjedngkdaaGreatDoor
