/- A part of the proof that TopMajorityLaw holds: XZIter, XZStr, XOnce, XApart, XSsE. Conditions: as typed. -/
import Derived.Test.YtgmkckjedngkdaaGreatDoorTm01
import Derived.Test.YtgmkckjedngkdaaGreatDoorTm02
import Derived.Test.YtgmkckjedngkdaaGreatDoorTm03
import Derived.Shelf.SlIter.Nil
import Derived.Shelf.SortM.Plain
import Derived.Shelf.SortM.SortNone
import Derived.Test.YtgmkckjedngkdaaGreatDoorProg
import Derived.Shelf.Small.Bits
import Derived.Shelf.Small.Wraps
import Derived.Shelf.Strconv.Atoi
import Derived.Shelf.Strconv.Itoa0
import Derived.Shelf.Strconv.Itoa1
import Derived.Shelf.LaysM
import Derived.Shelf.Strconv.Itoa2
import Derived.Shelf.Strconv.Itoa3
import Derived.Shelf.Strconv.AtoiErrFast
import Derived.Shelf.Strconv.ParseIntEmpty
import Derived.Shelf.Strconv.AtoiFail
import Derived.Shelf.Strconv.Clone
import Derived.Shelf.Strconv.SyntaxError
import Derived.Shelf.LaysC
import Derived.Shelf.Strconv.ToError
import Derived.Shelf.Strconv.AtoiErr
import Derived.Shelf.Strconv.ErrVar
import Derived.Shelf.Strconv.Lower
import Derived.Shelf.Strconv.ParseUint10
import Derived.Shelf.Strconv.ParseUint10Empty
import Derived.Shelf.Strconv.ParseUint10Any
import Derived.Shelf.Strconv.ParseInt10
import Derived.Shelf.Strconv.AtoiLong
import Derived.Shelf.Strconv.AtoiInnerAll
import Derived.Shelf.Strconv.RangeError
import Derived.Shelf.Strconv.ToErrorRange
import Derived.Shelf.Strconv.AtoiAll
import Derived.Shelf.Strconv.ErrVarAll
import Derived.Shelf.Strings.Prefix
import Derived.Tactics2
import Derived.Defers
import Derived.Laws.Pointers
import Derived.Laws.LoneSync
import Derived.RegionTactic
import Derived.RegionCalls
import Derived.ChangeAlike
set_option linter.unusedVariables false
set_option linter.unusedSimpArgs false
namespace Go.Proofs.YtgmkckjedngkdaaGreatDoor
open Go.Shelf Go.Proofs
def Tryz.keys186_ren:Go.Shelf.Ren:=⟨fun | 7=>186 | 10=>246 | n=>n,fun | 23=>61 | 26=>9 | 3=>3 | 28=>269 | 0=>0 | 27=>268 | 33=>206 | 4=>4 | n=>n,fun | n=>n⟩
theorem Tryz.keys186:SlLaysZ.n7 Tryz.prog Tryz.keys186_ren:={
 mixed:=by kernel_rfl
 f7:=⟨Tryz.f186.name,by decide,Tryz.func186.trans (congrArg some (by kernel_rfl))⟩
 f10:=⟨Tryz.f246.name,by decide,Tryz.func246.trans (congrArg some (by kernel_rfl))⟩
 t0:=Tryz.underlying0
 a0:=Tryz.isAgg0
 z0:=Tryz.sizeOf0
 v0:=Tryz.zeroValue0
 t4:=Tryz.underlying4
 a4:=Tryz.isAgg4
 z4:=Tryz.sizeOf4
 v4:=Tryz.zeroValue4
 t23:=Tryz.underlying61
 a23:=Tryz.isAgg61
 z23:=Tryz.sizeOf61
 v23:=Tryz.zeroValue61
 t26:=Tryz.underlying9
 a26:=Tryz.isAgg9
 z26:=Tryz.sizeOf9
 v26:=Tryz.zeroValue9
 t27:=Tryz.underlying268
 a27:=Tryz.isAgg268
 z27:=Tryz.sizeOf268
 v27:=Tryz.zeroValue268
 t28:=Tryz.underlying269
 a28:=Tryz.isAgg269
 z28:=Tryz.sizeOf269
 v28:=Tryz.zeroValue269
 t33:=Tryz.underlying206
 a33:=Tryz.isAgg206
 z33:=Tryz.sizeOf206
 v33:=Tryz.zeroValue206 }
def Tryz.sorted185_ren:Go.Shelf.Ren:=⟨fun | 6=>185 | 8=>244 | 9=>245 | 11=>300 | 13=>302 | 12=>301 | 23=>343 | 24=>344 | 14=>334 | 15=>335 | 16=>336 | 17=>337 | 18=>338 | 19=>339 | 20=>340 | 21=>341 | 22=>342 | 25=>367 | 26=>368 | 27=>369 | 28=>370 | 29=>371 | 30=>372 | 31=>387 | n=>n,fun | 26=>9 | 28=>269 | 24=>202 | 0=>0 | 3=>3 | 37=>275 | 48=>129 | 50=>29 | 4=>4 | 40=>416 | 39=>415 | 45=>255 | 5=>5 | 9=>9 | 51=>442 | 55=>445 | 57=>460 | 58=>461 | 33=>206 | n=>n,fun | n=>n⟩
theorem Tryz.sorted185:SlLaysZ.n6 Tryz.prog Tryz.sorted185_ren:={
 mixed:=by kernel_rfl
 f6:=⟨Tryz.f185.name,by decide,Tryz.func185.trans (congrArg some (by kernel_rfl))⟩
 f8:=⟨Tryz.f244.name,by decide,Tryz.func244.trans (congrArg some (by kernel_rfl))⟩
 f11:=⟨Tryz.f300.name,by decide,Tryz.func300.trans (congrArg some (by kernel_rfl))⟩
 t0:=Tryz.underlying0
 a0:=Tryz.isAgg0
 z0:=Tryz.sizeOf0
 v0:=Tryz.zeroValue0
 t24:=Tryz.underlying202
 a24:=Tryz.isAgg202
 z24:=Tryz.sizeOf202
 v24:=Tryz.zeroValue202
 t26:=Tryz.underlying9
 a26:=Tryz.isAgg9
 z26:=Tryz.sizeOf9
 v26:=Tryz.zeroValue9
 t28:=Tryz.underlying269
 a28:=Tryz.isAgg269
 z28:=Tryz.sizeOf269
 v28:=Tryz.zeroValue269
 i26:=by kernel_rfl }
def Tryz.sort245_ren:Go.Shelf.Ren:=⟨fun | 6=>245 | 8=>302 | 9=>301 | 19=>343 | 20=>344 | 21=>334 | 22=>335 | 23=>336 | 24=>337 | 25=>338 | 26=>339 | 27=>340 | 28=>341 | 29=>342 | 36=>367 | 31=>368 | 32=>369 | 37=>370 | 38=>371 | 39=>372 | 41=>387 | n=>n,fun | 27=>202 | 29=>9 | 3=>3 | 32=>275 | 26=>202 | 0=>0 | 44=>129 | 46=>29 | 4=>4 | 36=>416 | 35=>415 | 41=>255 | 5=>5 | 9=>9 | 53=>442 | 57=>445 | 63=>460 | 64=>461 | n=>n,fun | n=>n⟩
theorem Tryz.sort245:SlLaysM.n6 Tryz.prog Tryz.sort245_ren:={
 mixed:=by kernel_rfl
 f6:=⟨Tryz.f245.name,by decide,Tryz.func245.trans (congrArg some (by kernel_rfl))⟩
 f8:=Tryz.func302.trans (congrArg some (by kernel_rfl))
 f9:=⟨Tryz.f301.name,by decide,Tryz.func301.trans (congrArg some (by kernel_rfl))⟩
 f19:=Tryz.func343.trans (congrArg some (by kernel_rfl))
 f20:=Tryz.func344.trans (congrArg some (by kernel_rfl))
 f21:=⟨Tryz.f334.name,by decide,Tryz.func334.trans (congrArg some (by kernel_rfl))⟩
 f22:=⟨Tryz.f335.name,by decide,Tryz.func335.trans (congrArg some (by kernel_rfl))⟩
 f23:=⟨Tryz.f336.name,by decide,Tryz.func336.trans (congrArg some (by kernel_rfl))⟩
 f24:=⟨Tryz.f337.name,by decide,Tryz.func337.trans (congrArg some (by kernel_rfl))⟩
 f25:=⟨Tryz.f338.name,by decide,Tryz.func338.trans (congrArg some (by kernel_rfl))⟩
 f26:=⟨Tryz.f339.name,by decide,Tryz.func339.trans (congrArg some (by kernel_rfl))⟩
 f27:=⟨Tryz.f340.name,by decide,Tryz.func340.trans (congrArg some (by kernel_rfl))⟩
 f28:=⟨Tryz.f341.name,by decide,Tryz.func341.trans (congrArg some (by kernel_rfl))⟩
 f29:=⟨Tryz.f342.name,by decide,Tryz.func342.trans (congrArg some (by kernel_rfl))⟩
 f31:=Tryz.func368.trans (congrArg some (by kernel_rfl))
 f32:=Tryz.func369.trans (congrArg some (by kernel_rfl))
 f36:=⟨Tryz.f367.name,by decide,Tryz.func367.trans (congrArg some (by kernel_rfl))⟩
 f37:=⟨Tryz.f370.name,by decide,Tryz.func370.trans (congrArg some (by kernel_rfl))⟩
 f38:=⟨Tryz.f371.name,by decide,Tryz.func371.trans (congrArg some (by kernel_rfl))⟩
 f39:=⟨Tryz.f372.name,by decide,Tryz.func372.trans (congrArg some (by kernel_rfl))⟩
 f41:=⟨Tryz.f387.name,by decide,Tryz.func387.trans (congrArg some (by kernel_rfl))⟩
 t0:=Tryz.underlying0
 a0:=Tryz.isAgg0
 z0:=Tryz.sizeOf0
 v0:=Tryz.zeroValue0
 t3:=Tryz.underlying3
 a3:=Tryz.isAgg3
 z3:=Tryz.sizeOf3
 v3:=Tryz.zeroValue3
 t4:=Tryz.underlying4
 a4:=Tryz.isAgg4
 z4:=Tryz.sizeOf4
 v4:=Tryz.zeroValue4
 t5:=Tryz.underlying5
 a5:=Tryz.isAgg5
 z5:=Tryz.sizeOf5
 v5:=Tryz.zeroValue5
 t9:=Tryz.underlying9
 a9:=Tryz.isAgg9
 z9:=Tryz.sizeOf9
 v9:=Tryz.zeroValue9
 t26:=Tryz.underlying202
 a26:=Tryz.isAgg202
 z26:=Tryz.sizeOf202
 v26:=Tryz.zeroValue202
 t27:=Tryz.underlying202
 a27:=Tryz.isAgg202
 z27:=Tryz.sizeOf202
 v27:=Tryz.zeroValue202
 t29:=Tryz.underlying9
 a29:=Tryz.isAgg9
 z29:=Tryz.sizeOf9
 v29:=Tryz.zeroValue9
 t32:=Tryz.underlying275
 a32:=Tryz.isAgg275
 z32:=Tryz.sizeOf275
 v32:=Tryz.zeroValue275
 t35:=Tryz.underlying415
 a35:=Tryz.isAgg415
 z35:=Tryz.sizeOf415
 v35:=Tryz.zeroValue415
 t36:=Tryz.underlying416
 a36:=Tryz.isAgg416
 z36:=Tryz.sizeOf416
 v36:=Tryz.zeroValue416
 t41:=Tryz.underlying255
 a41:=Tryz.isAgg255
 z41:=Tryz.sizeOf255
 v41:=Tryz.zeroValue255
 t44:=Tryz.underlying129
 a44:=Tryz.isAgg129
 z44:=Tryz.sizeOf129
 v44:=Tryz.zeroValue129
 t46:=Tryz.underlying29
 a46:=Tryz.isAgg29
 z46:=Tryz.sizeOf29
 v46:=Tryz.zeroValue29
 t53:=Tryz.underlying442
 a53:=Tryz.isAgg442
 z53:=Tryz.sizeOf442
 v53:=Tryz.zeroValue442
 t57:=Tryz.underlying445
 a57:=Tryz.isAgg445
 z57:=Tryz.sizeOf445
 v57:=Tryz.zeroValue445
 t63:=Tryz.underlying460
 a63:=Tryz.isAgg460
 z63:=Tryz.sizeOf460
 v63:=Tryz.zeroValue460
 t64:=Tryz.underlying461
 a64:=Tryz.isAgg461
 z64:=Tryz.sizeOf461
 v64:=Tryz.zeroValue461 }
open Go.RowKit Go.Maps Go.Sort in
theorem Tryz.sorts185 (m:Nat):AnyZ.SortsIn Tryz.prog Tryz.sorted185_ren Fence.wide m :=
 ⟨fun blk off cap ss W hH hblk hsz=>callsIn_wide.2 (AnyM.slices_Sort_string Tryz.sort245 blk off cap ss W hH hblk hsz),
  fun p cap W=>callsIn_wide.2 (AnyM.slices_Sort_string_none Tryz.sort245 p cap W)⟩
open Go.RowKit Go.Maps Go.Sort in
theorem Tryz.maps_Keys_186 (mb:Option Nat) (W:World):CallsIn Fence.wide 5 Tryz.prog 186 #[.map mb] W fun e w'=>e=.returned (.func (.func 246) #[] #[.pointer (some ⟨W.heap.size,0,none⟩)])∧w'=W.alloc (.cells #[.map mb] 61) :=
 AnyZ.keys_in Tryz.keys186 Fence.wide 5 trivial rfl mb W
open Go.RowKit Go.Maps Go.Sort in
theorem Tryz.slices_Sorted_keys_185_186 {H:Type} (b nn:Nat) (D0:DataW H) (R:Value→Option (DataW H × List MemPlace)) (w:World) (hown:w.ownsMap Tryz.prog 9 R b nn D0) (hmax:Maps.size D0≤maxLen) (hbytes:Maps.size D0 * 16≤140737488355328) :
 CallsIn Fence.wide 5 Tryz.prog 185 #[.func (.func 246) #[] #[.pointer (some ⟨w.heap.size,0,none⟩)]] (w.alloc (.cells #[.map (some b)] 61)) fun e w'=>∃ (v:Value) (ss:List (List UInt8)),e=.returned v∧ss.Perm (strKeys D0) ∧
  w'.ownsRow (w.alloc (.cells #[.map (some b)] 61)).heap.size 9 1 v ss.length ((ss.mergeSort (fun x y=>decide (x≤y))).map encStr)∧(v=.slice none 0 0 ↔ ss=[])∧Below (w.alloc (.cells #[.map (some b)] 61)).heap.size (w.alloc (.cells #[.map (some b)] 61)) w':=by
 have hbl:=hown.lt
 have hseq:SeqGives Fence.wide 2 Tryz.prog 246 #[.pointer (some ⟨w.heap.size,0,none⟩)] encStr (fun ss=>ss.Perm (strKeys D0)) (Maps.size D0) (w.alloc (.cells #[.map (some b)] 61)) :=
  AnyZ.keys_gives (ρ:=Tryz.keys186_ren) { Tryz.keys186 with } Fence.wide _ trivial rfl (by omega) w.heap.size b nn D0 _ (by simp) (by simp) (by
   obtain ⟨es,clock,hb,Ft,hs,hD⟩:=hown
   exact ⟨es,clock,(Below.heap_alloc _ _ b hbl).trans hb,Ft,hs,hD⟩)
 exact AnyZ.sorted_in Tryz.sorted185 Fence.wide 5 trivial trivial trivial trivial rfl (by omega) (Tryz.sorts185 _) (enters_of Tryz.func245 (by kernel_rfl) rfl) 246 #[.pointer (some ⟨w.heap.size,0,none⟩)] trivial (enters_of Tryz.func246 (by kernel_rfl) rfl) _ _ hmax hbytes _ hseq
open Go.RowKit Go.Maps Go.Sort in
open Go.RowKit Go.Maps Go.Sort in
theorem mkeys_any (mb:Option Nat) (W:World):Calls Tryz.prog 186 #[.map mb] W fun e w'=>e=.returned (.func (.func 246) #[] #[.pointer (some ⟨W.heap.size,0,none⟩)])∧w'=W.alloc (.cells #[.map mb] 61) :=
 (callsIn_wide (n:=5)).1 (Tryz.maps_Keys_186 mb W)
open Go.RowKit Go.Maps Go.Sort in
theorem msorted_any {H:Type} (b nn:Nat) (D0:DataW H) (R:Value→Option (DataW H × List MemPlace)) (w:World) (hown:w.ownsMap Tryz.prog 9 R b nn D0) (hmax:Maps.size D0≤maxLen) (hbytes:Maps.size D0 * 16≤140737488355328) :
 Calls Tryz.prog 185 #[.func (.func 246) #[] #[.pointer (some ⟨w.heap.size,0,none⟩)]] (w.alloc (.cells #[.map (some b)] 61)) fun e w'=>∃ (v:Value) (ss:List (List UInt8)),e=.returned v∧ss.Perm (strKeys D0) ∧
  w'.ownsRow (w.alloc (.cells #[.map (some b)] 61)).heap.size 9 1 v ss.length ((ss.mergeSort (fun x y=>decide (x≤y))).map encStr)∧(v=.slice none 0 0 ↔ ss=[])∧Below (w.alloc (.cells #[.map (some b)] 61)).heap.size (w.alloc (.cells #[.map (some b)] 61)) w' :=
 (callsIn_wide (n:=5)).1 (Tryz.slices_Sorted_keys_185_186 b nn D0 R w hown hmax hbytes)
end Go.Proofs.YtgmkckjedngkdaaGreatDoor
namespace Go.Proofs.YtgmkckjedngkdaaGreatDoor
open Go.Shelf Go.Proofs
def Tryz.lays103_ren:Go.Shelf.Ren:=⟨fun | 103=>247 | 210=>303 | 206=>345 | n=>n,fun | 9=>9 | 4=>4 | 24=>336 | 3=>3 | n=>n,fun | n=>n⟩
theorem Tryz.lays103:Lays.n103 Tryz.prog Tryz.lays103_ren:={
 mixed:=by kernel_rfl
 f103:=Tryz.func247.trans (congrArg some (by kernel_rfl))
 f206:=Tryz.func345.trans (congrArg some (by kernel_rfl))
 f210:=Tryz.func303.trans (congrArg some (by kernel_rfl))
 t3:=Tryz.underlying3
 a3:=Tryz.isAgg3
 z3:=Tryz.sizeOf3
 v3:=Tryz.zeroValue3
 t4:=Tryz.underlying4
 a4:=Tryz.isAgg4
 z4:=Tryz.sizeOf4
 v4:=Tryz.zeroValue4
 t9:=Tryz.underlying9
 a9:=Tryz.isAgg9
 z9:=Tryz.sizeOf9
 v9:=Tryz.zeroValue9
 t24:=Tryz.underlying336
 a24:=Tryz.isAgg336
 z24:=Tryz.sizeOf336
 v24:=Tryz.zeroValue336 }
open Go.RowKit in
theorem Tryz.strings_CutPrefix (s p:ByteArray) (w:World) :
 Calls Tryz.prog 247 #[.string s,.string p] w fun e w'=>e=.returned (.tuple #[.string ⟨(Lib.trimPrefix s.data.toList p.data.toList).toArray⟩,.bool (Lib.hasPrefix s.data.toList p.data.toList)])∧w'=w:=Any.strings_CutPrefix Tryz.lays103 s p w
def Tryz.lays172_ren:Go.Shelf.Ren:=⟨fun | 172=>248 | 244=>304 | 245=>305 | 247=>346 | 279=>347 | 280=>348 | 281=>349 | 282=>350 | 287=>373 | 316=>374 | 171=>134 | 205=>375 | 321=>388 | 322=>389 | 243=>202 | 246=>263 | 283=>313 | 284=>314 | 285=>315 | 286=>316 | 129=>344 | 317=>354 | 318=>355 | 319=>356 | 320=>357 | 337=>377 | 338=>378 | n=>n,fun | 9=>9 | 3=>3 | 75=>339 | 76=>340 | 4=>4 | 5=>5 | 167=>423 | 37=>173 | 0=>0 | 85=>424 | 2=>2 | 168=>426 | 53=>29 | 175=>447 | 46=>275 | 210=>451 | 127=>464 | 145=>467 | 143=>465 | 21=>21 | 171=>394 | 173=>397 | 212=>433 | 51=>129 | 20=>20 | 213=>434 | 232=>468 | 233=>469 | 80=>323 | n=>n,fun | 15=>1 | 16=>2 | 17=>0 | 18=>3 | 19=>4 | n=>n⟩
theorem Tryz.lays172:Lays.n172 Tryz.prog Tryz.lays172_ren:={
 mixed:=by kernel_rfl
 f129:=Tryz.func344.trans (congrArg some (by kernel_rfl))
 f171:=Tryz.func134.trans (congrArg some (by kernel_rfl))
 f172:=Tryz.func248.trans (congrArg some (by kernel_rfl))
 f205:=Tryz.func375.trans (congrArg some (by kernel_rfl))
 f243:=Tryz.func202.trans (congrArg some (by kernel_rfl))
 f244:=Tryz.func304.trans (congrArg some (by kernel_rfl))
 f245:=Tryz.func305.trans (congrArg some (by kernel_rfl))
 f246:=Tryz.func263.trans (congrArg some (by kernel_rfl))
 f247:=Tryz.func346.trans (congrArg some (by kernel_rfl))
 f279:=Tryz.func347.trans (congrArg some (by kernel_rfl))
 f280:=Tryz.func348.trans (congrArg some (by kernel_rfl))
 f281:=Tryz.func349.trans (congrArg some (by kernel_rfl))
 f282:=Tryz.func350.trans (congrArg some (by kernel_rfl))
 f283:=Tryz.func313.trans (congrArg some (by kernel_rfl))
 f284:=Tryz.func314.trans (congrArg some (by kernel_rfl))
 f285:=Tryz.func315.trans (congrArg some (by kernel_rfl))
 f286:=Tryz.func316.trans (congrArg some (by kernel_rfl))
 f287:=Tryz.func373.trans (congrArg some (by kernel_rfl))
 f316:=Tryz.func374.trans (congrArg some (by kernel_rfl))
 f317:=Tryz.func354.trans (congrArg some (by kernel_rfl))
 f318:=Tryz.func355.trans (congrArg some (by kernel_rfl))
 f319:=Tryz.func356.trans (congrArg some (by kernel_rfl))
 f320:=Tryz.func357.trans (congrArg some (by kernel_rfl))
 f321:=Tryz.func388.trans (congrArg some (by kernel_rfl))
 f322:=Tryz.func389.trans (congrArg some (by kernel_rfl))
 f337:=Tryz.func377.trans (congrArg some (by kernel_rfl))
 f338:=Tryz.func378.trans (congrArg some (by kernel_rfl))
 t0:=Tryz.underlying0
 a0:=Tryz.isAgg0
 z0:=Tryz.sizeOf0
 v0:=Tryz.zeroValue0
 t2:=Tryz.underlying2
 a2:=Tryz.isAgg2
 z2:=Tryz.sizeOf2
 v2:=Tryz.zeroValue2
 t3:=Tryz.underlying3
 a3:=Tryz.isAgg3
 z3:=Tryz.sizeOf3
 v3:=Tryz.zeroValue3
 t4:=Tryz.underlying4
 a4:=Tryz.isAgg4
 z4:=Tryz.sizeOf4
 v4:=Tryz.zeroValue4
 t5:=Tryz.underlying5
 a5:=Tryz.isAgg5
 z5:=Tryz.sizeOf5
 v5:=Tryz.zeroValue5
 t9:=Tryz.underlying9
 a9:=Tryz.isAgg9
 z9:=Tryz.sizeOf9
 v9:=Tryz.zeroValue9
 t20:=Tryz.underlying20
 a20:=Tryz.isAgg20
 z20:=Tryz.sizeOf20
 v20:=Tryz.zeroValue20
 t21:=Tryz.underlying21
 a21:=Tryz.isAgg21
 z21:=Tryz.sizeOf21
 v21:=Tryz.zeroValue21
 t37:=Tryz.underlying173
 a37:=Tryz.isAgg173
 z37:=Tryz.sizeOf173
 v37:=Tryz.zeroValue173
 t46:=Tryz.underlying275
 a46:=Tryz.isAgg275
 z46:=Tryz.sizeOf275
 v46:=Tryz.zeroValue275
 t51:=Tryz.underlying129
 a51:=Tryz.isAgg129
 z51:=Tryz.sizeOf129
 v51:=Tryz.zeroValue129
 t53:=Tryz.underlying29
 a53:=Tryz.isAgg29
 z53:=Tryz.sizeOf29
 v53:=Tryz.zeroValue29
 t75:=Tryz.underlying339
 a75:=Tryz.isAgg339
 z75:=Tryz.sizeOf339
 v75:=Tryz.zeroValue339
 t76:=Tryz.underlying340
 a76:=Tryz.isAgg340
 z76:=Tryz.sizeOf340
 v76:=Tryz.zeroValue340
 t85:=Tryz.underlying424
 a85:=Tryz.isAgg424
 z85:=Tryz.sizeOf424
 v85:=Tryz.zeroValue424
 t127:=Tryz.underlying464
 a127:=Tryz.isAgg464
 z127:=Tryz.sizeOf464
 v127:=Tryz.zeroValue464
 t143:=Tryz.underlying465
 a143:=Tryz.isAgg465
 z143:=Tryz.sizeOf465
 v143:=Tryz.zeroValue465
 t145:=Tryz.underlying467
 a145:=Tryz.isAgg467
 z145:=Tryz.sizeOf467
 v145:=Tryz.zeroValue467
 t167:=Tryz.underlying423
 a167:=Tryz.isAgg423
 z167:=Tryz.sizeOf423
 v167:=Tryz.zeroValue423
 t168:=Tryz.underlying426
 a168:=Tryz.isAgg426
 z168:=Tryz.sizeOf426
 v168:=Tryz.zeroValue426
 t171:=Tryz.underlying394
 a171:=Tryz.isAgg394
 z171:=Tryz.sizeOf394
 v171:=Tryz.zeroValue394
 t173:=Tryz.underlying397
 a173:=Tryz.isAgg397
 z173:=Tryz.sizeOf397
 v173:=Tryz.zeroValue397
 t175:=Tryz.underlying447
 a175:=Tryz.isAgg447
 z175:=Tryz.sizeOf447
 v175:=Tryz.zeroValue447
 t210:=Tryz.underlying451
 a210:=Tryz.isAgg451
 z210:=Tryz.sizeOf451
 v210:=Tryz.zeroValue451
 t212:=Tryz.underlying433
 a212:=Tryz.isAgg433
 z212:=Tryz.sizeOf433
 v212:=Tryz.zeroValue433
 t213:=Tryz.underlying434
 a213:=Tryz.isAgg434
 z213:=Tryz.sizeOf434
 t232:=Tryz.underlying468
 a232:=Tryz.isAgg468
 z232:=Tryz.sizeOf468
 v232:=Tryz.zeroValue468
 t233:=Tryz.underlying469
 a233:=Tryz.isAgg469
 z233:=Tryz.sizeOf469
 v233:=Tryz.zeroValue469
 g15:=by kernel_rfl
 g16:=by kernel_rfl
 g17:=by kernel_rfl
 g18:=by kernel_rfl
 g19:=by kernel_rfl }
open Go.RowKit in
theorem Tryz.strconv_Atoi (s:ByteArray) (n:Int) (hl:s.size≤18) (h:Lib.atoi s.data.toList=some n) (w:World) :
 Calls Tryz.prog 248 #[.string s] w fun e w'=>e=.returned (.tuple #[.int .i64 n,.nilIface])∧∃ t,w'=Lib.bytesWorld w 5 t:=Any.strconv_Atoi Tryz.lays172 s n hl h w
def Tryz.laysC172_ren:Go.Shelf.Ren:=⟨fun | 172=>248 | 244=>304 | 245=>305 | 247=>346 | 279=>347 | 280=>348 | 281=>349 | 282=>350 | 287=>373 | 316=>374 | 171=>134 | 205=>375 | 321=>388 | 322=>389 | 243=>202 | 246=>263 | 283=>313 | 284=>314 | 285=>315 | 286=>316 | 129=>344 | 317=>354 | 318=>355 | 319=>356 | 320=>357 | 337=>377 | 338=>378 | n=>n,fun | 9=>9 | 3=>3 | 75=>339 | 76=>340 | 4=>4 | 5=>5 | 167=>423 | 37=>173 | 0=>0 | 85=>424 | 2=>2 | 168=>426 | 53=>29 | 175=>447 | 46=>275 | 210=>451 | 127=>464 | 145=>467 | 143=>465 | 21=>21 | 171=>394 | 173=>397 | 212=>433 | 51=>129 | 20=>20 | 213=>434 | 232=>468 | 233=>469 | 80=>323 | n=>n,fun | 15=>1 | 16=>2 | 17=>0 | 18=>3 | 19=>4 | n=>n⟩
theorem Tryz.laysC172:LaysC.n172 Tryz.prog Tryz.laysC172_ren:={
 mixed:=by kernel_rfl
 f129:=Tryz.func344.trans (congrArg some (by kernel_rfl))
 f171:=Tryz.func134.trans (congrArg some (by kernel_rfl))
 f172:=Tryz.func248.trans (congrArg some (by kernel_rfl))
 f205:=Tryz.func375.trans (congrArg some (by kernel_rfl))
 f243:=Tryz.func202.trans (congrArg some (by kernel_rfl))
 f244:=Tryz.func304.trans (congrArg some (by kernel_rfl))
 f245:=Tryz.func305.trans (congrArg some (by kernel_rfl))
 f246:=Tryz.func263.trans (congrArg some (by kernel_rfl))
 f247:=Tryz.func346.trans (congrArg some (by kernel_rfl))
 f279:=Tryz.func347.trans (congrArg some (by kernel_rfl))
 f280:=Tryz.func348.trans (congrArg some (by kernel_rfl))
 f281:=Tryz.func349.trans (congrArg some (by kernel_rfl))
 f282:=Tryz.func350.trans (congrArg some (by kernel_rfl))
 f283:=Tryz.func313.trans (congrArg some (by kernel_rfl))
 f284:=Tryz.func314.trans (congrArg some (by kernel_rfl))
 f285:=Tryz.func315.trans (congrArg some (by kernel_rfl))
 f286:=Tryz.func316.trans (congrArg some (by kernel_rfl))
 f287:=Tryz.func373.trans (congrArg some (by kernel_rfl))
 f316:=Tryz.func374.trans (congrArg some (by kernel_rfl))
 f317:=Tryz.func354.trans (congrArg some (by kernel_rfl))
 f318:=Tryz.func355.trans (congrArg some (by kernel_rfl))
 f319:=Tryz.func356.trans (congrArg some (by kernel_rfl))
 f320:=Tryz.func357.trans (congrArg some (by kernel_rfl))
 f321:=Tryz.func388.trans (congrArg some (by kernel_rfl))
 f322:=Tryz.func389.trans (congrArg some (by kernel_rfl))
 f337:=Tryz.func377.trans (congrArg some (by kernel_rfl))
 f338:=Tryz.func378.trans (congrArg some (by kernel_rfl))
 t0:=Tryz.underlying0
 a0:=Tryz.isAgg0
 z0:=Tryz.sizeOf0
 v0:=Tryz.zeroValue0
 t2:=Tryz.underlying2
 a2:=Tryz.isAgg2
 z2:=Tryz.sizeOf2
 v2:=Tryz.zeroValue2
 t3:=Tryz.underlying3
 a3:=Tryz.isAgg3
 z3:=Tryz.sizeOf3
 v3:=Tryz.zeroValue3
 t4:=Tryz.underlying4
 a4:=Tryz.isAgg4
 z4:=Tryz.sizeOf4
 v4:=Tryz.zeroValue4
 t5:=Tryz.underlying5
 a5:=Tryz.isAgg5
 z5:=Tryz.sizeOf5
 v5:=Tryz.zeroValue5
 t9:=Tryz.underlying9
 a9:=Tryz.isAgg9
 z9:=Tryz.sizeOf9
 v9:=Tryz.zeroValue9
 t20:=Tryz.underlying20
 a20:=Tryz.isAgg20
 z20:=Tryz.sizeOf20
 v20:=Tryz.zeroValue20
 t21:=Tryz.underlying21
 a21:=Tryz.isAgg21
 z21:=Tryz.sizeOf21
 v21:=Tryz.zeroValue21
 t37:=Tryz.underlying173
 a37:=Tryz.isAgg173
 z37:=Tryz.sizeOf173
 v37:=Tryz.zeroValue173
 t46:=Tryz.underlying275
 a46:=Tryz.isAgg275
 z46:=Tryz.sizeOf275
 v46:=Tryz.zeroValue275
 t51:=Tryz.underlying129
 a51:=Tryz.isAgg129
 z51:=Tryz.sizeOf129
 v51:=Tryz.zeroValue129
 t53:=Tryz.underlying29
 a53:=Tryz.isAgg29
 z53:=Tryz.sizeOf29
 v53:=Tryz.zeroValue29
 t75:=Tryz.underlying339
 a75:=Tryz.isAgg339
 z75:=Tryz.sizeOf339
 v75:=Tryz.zeroValue339
 t76:=Tryz.underlying340
 a76:=Tryz.isAgg340
 z76:=Tryz.sizeOf340
 v76:=Tryz.zeroValue340
 t85:=Tryz.underlying424
 a85:=Tryz.isAgg424
 z85:=Tryz.sizeOf424
 v85:=Tryz.zeroValue424
 t127:=Tryz.underlying464
 a127:=Tryz.isAgg464
 z127:=Tryz.sizeOf464
 v127:=Tryz.zeroValue464
 t143:=Tryz.underlying465
 a143:=Tryz.isAgg465
 z143:=Tryz.sizeOf465
 v143:=Tryz.zeroValue465
 t145:=Tryz.underlying467
 a145:=Tryz.isAgg467
 z145:=Tryz.sizeOf467
 v145:=Tryz.zeroValue467
 t167:=Tryz.underlying423
 a167:=Tryz.isAgg423
 z167:=Tryz.sizeOf423
 v167:=Tryz.zeroValue423
 t168:=Tryz.underlying426
 a168:=Tryz.isAgg426
 z168:=Tryz.sizeOf426
 v168:=Tryz.zeroValue426
 t171:=Tryz.underlying394
 a171:=Tryz.isAgg394
 z171:=Tryz.sizeOf394
 v171:=Tryz.zeroValue394
 t173:=Tryz.underlying397
 a173:=Tryz.isAgg397
 z173:=Tryz.sizeOf397
 v173:=Tryz.zeroValue397
 t175:=Tryz.underlying447
 a175:=Tryz.isAgg447
 z175:=Tryz.sizeOf447
 v175:=Tryz.zeroValue447
 t210:=Tryz.underlying451
 a210:=Tryz.isAgg451
 z210:=Tryz.sizeOf451
 v210:=Tryz.zeroValue451
 t212:=Tryz.underlying433
 a212:=Tryz.isAgg433
 z212:=Tryz.sizeOf433
 v212:=Tryz.zeroValue433
 t213:=Tryz.underlying434
 a213:=Tryz.isAgg434
 z213:=Tryz.sizeOf434
 t232:=Tryz.underlying468
 a232:=Tryz.isAgg468
 z232:=Tryz.sizeOf468
 v232:=Tryz.zeroValue468
 t233:=Tryz.underlying469
 a233:=Tryz.isAgg469
 z233:=Tryz.sizeOf469
 v233:=Tryz.zeroValue469
 g15:=by kernel_rfl
 g16:=by kernel_rfl
 g17:=by kernel_rfl
 g18:=by kernel_rfl
 g19:=by kernel_rfl
 t80:=Tryz.underlying323
 a80:=Tryz.isAgg323
 z80:=Tryz.sizeOf323
 v80:=Tryz.zeroValue323
 i0:=by kernel_rfl
 i2:=by kernel_rfl
 i3:=by kernel_rfl
 i4:=by kernel_rfl
 i5:=by kernel_rfl
 i9:=by kernel_rfl
 i20:=by kernel_rfl
 i21:=by kernel_rfl
 i37:=by kernel_rfl
 i46:=by kernel_rfl
 i51:=by kernel_rfl
 i53:=by kernel_rfl
 i75:=by kernel_rfl
 i76:=by kernel_rfl
 i80:=by kernel_rfl
 i85:=by kernel_rfl
 i127:=by kernel_rfl
 i143:=by kernel_rfl
 i145:=by kernel_rfl
 i167:=by kernel_rfl
 i168:=by kernel_rfl
 i171:=by kernel_rfl
 i173:=by kernel_rfl
 i175:=by kernel_rfl
 i210:=by kernel_rfl
 i212:=by kernel_rfl
 i232:=by kernel_rfl
 i233:=by kernel_rfl
 m15:=by kernel_rfl
 m16:=by kernel_rfl
 m17:=by kernel_rfl
 m18:=by kernel_rfl
 m19:=by kernel_rfl
 c0:=by kernel_rfl
 c2:=by kernel_rfl
 c3:=by kernel_rfl
 c4:=by kernel_rfl
 c5:=by kernel_rfl
 c9:=by kernel_rfl
 c20:=by kernel_rfl
 c21:=by kernel_rfl
 c37:=by kernel_rfl
 c46:=by kernel_rfl
 c51:=by kernel_rfl
 c53:=by kernel_rfl
 c75:=by kernel_rfl
 c76:=by kernel_rfl
 c80:=by kernel_rfl
 c85:=by kernel_rfl
 c127:=by kernel_rfl
 c143:=by kernel_rfl
 c145:=by kernel_rfl
 c167:=by kernel_rfl
 c168:=by kernel_rfl
 c171:=by kernel_rfl
 c173:=by kernel_rfl
 c175:=by kernel_rfl
 c210:=by kernel_rfl
 c212:=by kernel_rfl
 c213:=by kernel_rfl
 c232:=by kernel_rfl
 c233:=by kernel_rfl }
open Go.RowKit in
theorem Tryz.strconv_Atoi_err (s:ByteArray) (hl:s.size≤18) (h:Lib.atoi s.data.toList=none) (ev:Value) (w:World) (hv:w.cell? ⟨1,0,none⟩=some ev) (hev:ev=.nilIface ∨ ∃ te pe,ev=.iface te pe) :
 Calls Tryz.prog 248 #[.string s] w fun e w'=>∃ N,e=.returned (.tuple #[.int .i64 0,.iface 426 (.pointer (some ⟨N,0,none⟩))])∧w.heap.size≤N∧w'.heap[N]? = some (.cells #[.string ⟨#[65,116,111,105]⟩,.string s,ev] 451 (0,0))∧Below w.heap.size w w':=Any.strconv_Atoi_err Tryz.laysC172 s hl h ev w hv hev
def Tryz.lays171_ren:Go.Shelf.Ren:=⟨fun | 171=>134 | 243=>202 | 246=>263 | 283=>313 | 284=>314 | 285=>315 | 286=>316 | 129=>344 | 317=>354 | 318=>355 | 319=>356 | 320=>357 | 337=>377 | 338=>378 | n=>n,fun | 3=>3 | 9=>9 | 2=>2 | 4=>4 | 171=>394 | 0=>0 | 53=>29 | 37=>173 | 5=>5 | 173=>397 | 212=>433 | 51=>129 | 20=>20 | 213=>434 | 46=>275 | 232=>468 | 233=>469 | n=>n,fun | 17=>0 | 18=>3 | 19=>4 | n=>n⟩
theorem Tryz.lays171:Lays.n171 Tryz.prog Tryz.lays171_ren:={
 mixed:=by kernel_rfl
 f129:=Tryz.func344.trans (congrArg some (by kernel_rfl))
 f171:=Tryz.func134.trans (congrArg some (by kernel_rfl))
 f243:=Tryz.func202.trans (congrArg some (by kernel_rfl))
 f246:=Tryz.func263.trans (congrArg some (by kernel_rfl))
 f283:=Tryz.func313.trans (congrArg some (by kernel_rfl))
 f284:=Tryz.func314.trans (congrArg some (by kernel_rfl))
 f285:=Tryz.func315.trans (congrArg some (by kernel_rfl))
 f286:=Tryz.func316.trans (congrArg some (by kernel_rfl))
 f317:=Tryz.func354.trans (congrArg some (by kernel_rfl))
 f318:=Tryz.func355.trans (congrArg some (by kernel_rfl))
 f319:=Tryz.func356.trans (congrArg some (by kernel_rfl))
 f320:=Tryz.func357.trans (congrArg some (by kernel_rfl))
 f337:=Tryz.func377.trans (congrArg some (by kernel_rfl))
 f338:=Tryz.func378.trans (congrArg some (by kernel_rfl))
 t0:=Tryz.underlying0
 a0:=Tryz.isAgg0
 z0:=Tryz.sizeOf0
 v0:=Tryz.zeroValue0
 t2:=Tryz.underlying2
 a2:=Tryz.isAgg2
 z2:=Tryz.sizeOf2
 v2:=Tryz.zeroValue2
 t3:=Tryz.underlying3
 a3:=Tryz.isAgg3
 z3:=Tryz.sizeOf3
 v3:=Tryz.zeroValue3
 t4:=Tryz.underlying4
 a4:=Tryz.isAgg4
 z4:=Tryz.sizeOf4
 v4:=Tryz.zeroValue4
 t5:=Tryz.underlying5
 a5:=Tryz.isAgg5
 z5:=Tryz.sizeOf5
 v5:=Tryz.zeroValue5
 t9:=Tryz.underlying9
 a9:=Tryz.isAgg9
 z9:=Tryz.sizeOf9
 v9:=Tryz.zeroValue9
 t20:=Tryz.underlying20
 a20:=Tryz.isAgg20
 z20:=Tryz.sizeOf20
 v20:=Tryz.zeroValue20
 t37:=Tryz.underlying173
 a37:=Tryz.isAgg173
 z37:=Tryz.sizeOf173
 v37:=Tryz.zeroValue173
 t46:=Tryz.underlying275
 a46:=Tryz.isAgg275
 z46:=Tryz.sizeOf275
 v46:=Tryz.zeroValue275
 t51:=Tryz.underlying129
 a51:=Tryz.isAgg129
 z51:=Tryz.sizeOf129
 v51:=Tryz.zeroValue129
 t53:=Tryz.underlying29
 a53:=Tryz.isAgg29
 z53:=Tryz.sizeOf29
 v53:=Tryz.zeroValue29
 t171:=Tryz.underlying394
 a171:=Tryz.isAgg394
 z171:=Tryz.sizeOf394
 v171:=Tryz.zeroValue394
 t173:=Tryz.underlying397
 a173:=Tryz.isAgg397
 z173:=Tryz.sizeOf397
 v173:=Tryz.zeroValue397
 t212:=Tryz.underlying433
 a212:=Tryz.isAgg433
 z212:=Tryz.sizeOf433
 v212:=Tryz.zeroValue433
 t213:=Tryz.underlying434
 a213:=Tryz.isAgg434
 z213:=Tryz.sizeOf434
 t232:=Tryz.underlying468
 a232:=Tryz.isAgg468
 z232:=Tryz.sizeOf468
 v232:=Tryz.zeroValue468
 t233:=Tryz.underlying469
 a233:=Tryz.isAgg469
 z233:=Tryz.sizeOf469
 v233:=Tryz.zeroValue469
 g17:=by kernel_rfl
 g18:=by kernel_rfl
 g19:=by kernel_rfl }
open Go.RowKit Go.Sort Go.Lib in
theorem Tryz.strconv_Itoa_small (i:Nat) (hi:i < 100) (w:World) :
 Calls Tryz.prog 134 #[.int .i64 i] w fun e w'=>e=.returned (.string ⟨(Lib.decDigits i).toArray⟩)∧w'=w:=Any.strconv_Itoa_small Tryz.lays171 i hi w
end Go.Proofs.YtgmkckjedngkdaaGreatDoor
namespace Go.Proofs.YtgmkckjedngkdaaGreatDoor
open Go.ChangeShapes Go.WideShapes Go.ChangeAt Go.RowKit
theorem race_disable (w:World):(callFunc 379 #[]).run Tryz.prog w=.ok (.value (.tuple #[])) w:=run_call_mark0 Tryz.func379 (by kernel_rfl) (by kernel_rfl) (by kernel_rfl) .disable (by kernel_rfl) w
theorem race_enable (w:World):(callFunc 381 #[]).run Tryz.prog w=.ok (.value (.tuple #[])) w:=run_call_mark0 Tryz.func381 (by kernel_rfl) (by kernel_rfl) (by kernel_rfl) .enable (by kernel_rfl) w
theorem race_acquire (a:Addr) (w:World):(callFunc 382 #[.pointer (some a)]).run Tryz.prog w=.ok (.value (.tuple #[])) w:=run_call_marked Tryz.func382 (by kernel_rfl) (by kernel_rfl) (by kernel_rfl) .acquire (by kernel_rfl) a w
theorem race_release (a:Addr) (w:World):(callFunc 384 #[.pointer (some a)]).run Tryz.prog w=.ok (.value (.tuple #[])) w:=run_call_marked Tryz.func384 (by kernel_rfl) (by kernel_rfl) (by kernel_rfl) .releaseMerge (by kernel_rfl) a w
set_option maxRecDepth 100000 in
set_option maxHeartbeats 1000000 in
theorem store_deferred (a:Addr) (x:Value) (u:FrameMode) (w:World) (hc:w.cell? a=some x) (hz:w.frozen? a=false) :
 CallsD Tryz.prog 327 #[.pointer (some a),.bool true] u w fun e u' w'=>u'=u∧(e=.returned (.tuple #[])∧w'=w.drew.setCell a (.int .u32 1)):=by
 have hc':w.drew.cell? a=some x:=by go_simp
 have hz':w.drew.frozen? a=false:=by go_simp
 have hst:=run_call_store (P:=Tryz.prog) Tryz.func362 (by kernel_rfl) (by kernel_rfl) (by kernel_rfl) (by kernel_rfl) (k:=.u32) (y:=1) hc' hz'
 go_enter_d Tryz.func327,Tryz.ntmps327
 go_wp2
 go_region_calls
 all_goals (go_end0;exact ⟨rfl,rfl⟩)
set_option maxRecDepth 100000 in
set_option maxHeartbeats 1000000 in
theorem unlock_deferred (a:Addr) (u:FrameMode) (w:World) (hc:w.cell? a=some (.int .i32 1)) (hz:w.frozen? a=false) :
 CallsD Tryz.prog 326 #[.pointer (some a)] u w fun e u' w'=>u'=u∧(e=.returned (.tuple #[])∧w'=w.setCell a (.int .i32 0)):=by
 have hd:=race_disable
 have he:=race_enable
 have hr:=race_release
 have hadd:=run_call_add (P:=Tryz.prog) Tryz.func385 (by kernel_rfl) (by kernel_rfl) (by kernel_rfl) .i32 (by kernel_rfl) (y:=-1) (s:=0) hc hz (by simp [go_sem];rfl)
 have hcv:=run_convert_to_unsafe (P:=Tryz.prog) (src:=454) (dst:=302) Tryz.underlying454 Tryz.underlying302 (by kernel_rfl) hc
 go_enter_d Tryz.func326,Tryz.ntmps326
 go_wp2
 go_end0
 go_wp2
 all_goals exact ⟨rfl,rfl⟩
set_option maxRecDepth 100000 in
set_option maxHeartbeats 1000000 in
theorem lock_free (a:Addr) (w:World) (hc:w.cell? a=some (.int .i32 0)) (hz:w.frozen? a=false) :
 Calls Tryz.prog 325 #[.pointer (some a)] w fun e w'=>e=.returned (.tuple #[])∧w'=w.setCell a (.int .i32 1):=by
 have hd:=race_disable
 have he:=race_enable
 have ha:=race_acquire
 have hcas:=run_call_cas_hit (P:=Tryz.prog) Tryz.func380 (by kernel_rfl) (by kernel_rfl) (by kernel_rfl) .i32 (by kernel_rfl) (y:=1) hc hz
 have hc':(w.setCell a (.int .i32 1)).cell? a=some (.int .i32 1):=World.cell?_setCell_same w a _ hc
 have hcv:=run_convert_to_unsafe (P:=Tryz.prog) (src:=454) (dst:=302) Tryz.underlying454 Tryz.underlying302 (by kernel_rfl) hc'
 go_enter Tryz.func325,Tryz.ntmps325
 go_wp2
 first | go_end0 | (simp only [Exit.inBlock,Exit.then];refine bodyPost_ret (results_none rfl _ _ _) rfl ?_) | refine bodyPost_ret (results_none rfl _ _ _) rfl ?_
 go_wp2
 all_goals exact ⟨rfl,rfl⟩
end Go.Proofs.YtgmkckjedngkdaaGreatDoor
namespace Go.Proofs.YtgmkckjedngkdaaGreatDoor
open Go.ChangeShapes Go.WideShapes Go.ChangeAt Go.RowKit
def ApartV (v u:Value):Prop:=∀ g,v.ownBlock=some g→u.ownBlock ≠ some g
theorem ApartV.symm {v u:Value} (h:ApartV v u):ApartV u v:=fun g hg e=>h g e hg
def Moved (w:World) (v v':Value):Prop:=v'.ownBlock=v.ownBlock ∨ ∃ g,w.heap.size≤g∧v'.ownBlock=some g
theorem ApartV.moved {w:World} {v v' u:Value} (h:ApartV v u) (hu:∀ g,u.ownBlock=some g→g < w.heap.size) (hm:Moved w v v'):ApartV v' u:=fun g hg e=>by
 rcases hm with hm | ⟨g',hg',hm⟩
 ·rw [hm] at hg;exact h g hg e
 ·rw [hm] at hg
  injection hg with hg
  have:=hu g e
  omega
theorem ApartV.keep {α:Type} {cells:α→List Value} {sz:Nat} {e:TypeId} {base:Nat} {w w':World} {v u:Value} {M:List α} (h:ApartV v u) (hown:OwnL cells sz e base w u M) (hg:w.grownBy w' v.ownBlock):OwnL cells sz e base w' u M :=
 hown.kept hg (by
  cases hu:u.ownBlock with
  | none=>exact .inl rfl
  | some g=>exact .inr fun e'=>h g e'.symm hu)
end Go.Proofs.YtgmkckjedngkdaaGreatDoor
namespace Go.Proofs.YtgmkckjedngkdaaGreatDoor
open Go.ChangeShapes Go.WideShapes Go.ChangeAt Go.RowKit
theorem heap_setE {w:World} {g o:Nat} {l:List Value} {t:TypeId} {u:Value} (h:w.heap[g]? = some (.cells l.toArray t (0,0))):(w.setCell ⟨g,o,none⟩ u).heap[g]? = some (.cells (l.set o u).toArray t (0,0)):=by
 simp [World.setCell,Array.getElem?_modify,h]
end Go.Proofs.YtgmkckjedngkdaaGreatDoor
