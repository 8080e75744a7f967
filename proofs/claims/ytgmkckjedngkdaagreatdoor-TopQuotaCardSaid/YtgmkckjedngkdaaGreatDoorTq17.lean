/- A part of the proof that TopQuotaLaw holds: XZIter, XPl, XPh, XPOk, XApart, XMsg3, XSsE. Conditions: as typed. -/
import Derived.Test.YtgmkckjedngkdaaGreatDoorTq02
import Derived.Test.YtgmkckjedngkdaaGreatDoorTq04
import Derived.Test.YtgmkckjedngkdaaGreatDoorTq08
import Derived.Test.YtgmkckjedngkdaaGreatDoorTq10
import Derived.Shelf.SlIter.Nil
import Derived.Shelf.SortM.Plain
import Derived.Shelf.SortM.SortNone
import Derived.Test.YtgmkckjedngkdaaGreatDoorProg
import Derived.IntWalk
set_option linter.unusedVariables false
set_option linter.unusedSimpArgs false
namespace Go.Proofs.YtgmkckjedngkdaaGreatDoor
open Go.Shelf Go.Proofs
def Tryz.keys186_ren:Go.Shelf.Ren:=⟨fun | 7=>186 | 10=>246 | n=>n,fun | 23=>61 | 26=>9 | 3=>3 | 28=>269 | 0=>0 | 27=>268 | 33=>206 | 4=>4 | n=>n,fun | n=>n⟩
theorem Tryz.keys186:SlLaysZ.n7 Tryz.prog Tryz.keys186_ren:={
 mixed:=by kernel_rfl
 f7:=⟨Tryz.f186.name,by decide,Tryz.func186.trans (congrArg some (by kernel_rfl))⟩
 f10:=⟨Tryz.f246.name,by decide,Tryz.func246.trans (congrArg some (by kernel_rfl))⟩
 t0:=Tryz.underlying0
 a0:=Tryz.isAgg0
 z0:=Tryz.sizeOf0
 v0:=Tryz.zeroValue0
 t4:=Tryz.underlying4
 a4:=Tryz.isAgg4
 z4:=Tryz.sizeOf4
 v4:=Tryz.zeroValue4
 t23:=Tryz.underlying61
 a23:=Tryz.isAgg61
 z23:=Tryz.sizeOf61
 v23:=Tryz.zeroValue61
 t26:=Tryz.underlying9
 a26:=Tryz.isAgg9
 z26:=Tryz.sizeOf9
 v26:=Tryz.zeroValue9
 t27:=Tryz.underlying268
 a27:=Tryz.isAgg268
 z27:=Tryz.sizeOf268
 v27:=Tryz.zeroValue268
 t28:=Tryz.underlying269
 a28:=Tryz.isAgg269
 z28:=Tryz.sizeOf269
 v28:=Tryz.zeroValue269
 t33:=Tryz.underlying206
 a33:=Tryz.isAgg206
 z33:=Tryz.sizeOf206
 v33:=Tryz.zeroValue206 }
def Tryz.sorted185_ren:Go.Shelf.Ren:=⟨fun | 6=>185 | 8=>244 | 9=>245 | 11=>300 | 13=>302 | 12=>301 | 23=>343 | 24=>344 | 14=>334 | 15=>335 | 16=>336 | 17=>337 | 18=>338 | 19=>339 | 20=>340 | 21=>341 | 22=>342 | 25=>367 | 26=>368 | 27=>369 | 28=>370 | 29=>371 | 30=>372 | 31=>387 | n=>n,fun | 26=>9 | 28=>269 | 24=>202 | 0=>0 | 3=>3 | 37=>275 | 48=>129 | 50=>29 | 4=>4 | 40=>416 | 39=>415 | 45=>255 | 5=>5 | 9=>9 | 51=>442 | 55=>445 | 57=>460 | 58=>461 | 33=>206 | n=>n,fun | n=>n⟩
theorem Tryz.sorted185:SlLaysZ.n6 Tryz.prog Tryz.sorted185_ren:={
 mixed:=by kernel_rfl
 f6:=⟨Tryz.f185.name,by decide,Tryz.func185.trans (congrArg some (by kernel_rfl))⟩
 f8:=⟨Tryz.f244.name,by decide,Tryz.func244.trans (congrArg some (by kernel_rfl))⟩
 f11:=⟨Tryz.f300.name,by decide,Tryz.func300.trans (congrArg some (by kernel_rfl))⟩
 t0:=Tryz.underlying0
 a0:=Tryz.isAgg0
 z0:=Tryz.sizeOf0
 v0:=Tryz.zeroValue0
 t24:=Tryz.underlying202
 a24:=Tryz.isAgg202
 z24:=Tryz.sizeOf202
 v24:=Tryz.zeroValue202
 t26:=Tryz.underlying9
 a26:=Tryz.isAgg9
 z26:=Tryz.sizeOf9
 v26:=Tryz.zeroValue9
 t28:=Tryz.underlying269
 a28:=Tryz.isAgg269
 z28:=Tryz.sizeOf269
 v28:=Tryz.zeroValue269
 i26:=by kernel_rfl }
def Tryz.sort245_ren:Go.Shelf.Ren:=⟨fun | 6=>245 | 8=>302 | 9=>301 | 19=>343 | 20=>344 | 21=>334 | 22=>335 | 23=>336 | 24=>337 | 25=>338 | 26=>339 | 27=>340 | 28=>341 | 29=>342 | 36=>367 | 31=>368 | 32=>369 | 37=>370 | 38=>371 | 39=>372 | 41=>387 | n=>n,fun | 27=>202 | 29=>9 | 3=>3 | 32=>275 | 26=>202 | 0=>0 | 44=>129 | 46=>29 | 4=>4 | 36=>416 | 35=>415 | 41=>255 | 5=>5 | 9=>9 | 53=>442 | 57=>445 | 63=>460 | 64=>461 | n=>n,fun | n=>n⟩
theorem Tryz.sort245:SlLaysM.n6 Tryz.prog Tryz.sort245_ren:={
 mixed:=by kernel_rfl
 f6:=⟨Tryz.f245.name,by decide,Tryz.func245.trans (congrArg some (by kernel_rfl))⟩
 f8:=Tryz.func302.trans (congrArg some (by kernel_rfl))
 f9:=⟨Tryz.f301.name,by decide,Tryz.func301.trans (congrArg some (by kernel_rfl))⟩
 f19:=Tryz.func343.trans (congrArg some (by kernel_rfl))
 f20:=Tryz.func344.trans (congrArg some (by kernel_rfl))
 f21:=⟨Tryz.f334.name,by decide,Tryz.func334.trans (congrArg some (by kernel_rfl))⟩
 f22:=⟨Tryz.f335.name,by decide,Tryz.func335.trans (congrArg some (by kernel_rfl))⟩
 f23:=⟨Tryz.f336.name,by decide,Tryz.func336.trans (congrArg some (by kernel_rfl))⟩
 f24:=⟨Tryz.f337.name,by decide,Tryz.func337.trans (congrArg some (by kernel_rfl))⟩
 f25:=⟨Tryz.f338.name,by decide,Tryz.func338.trans (congrArg some (by kernel_rfl))⟩
 f26:=⟨Tryz.f339.name,by decide,Tryz.func339.trans (congrArg some (by kernel_rfl))⟩
 f27:=⟨Tryz.f340.name,by decide,Tryz.func340.trans (congrArg some (by kernel_rfl))⟩
 f28:=⟨Tryz.f341.name,by decide,Tryz.func341.trans (congrArg some (by kernel_rfl))⟩
 f29:=⟨Tryz.f342.name,by decide,Tryz.func342.trans (congrArg some (by kernel_rfl))⟩
 f31:=Tryz.func368.trans (congrArg some (by kernel_rfl))
 f32:=Tryz.func369.trans (congrArg some (by kernel_rfl))
 f36:=⟨Tryz.f367.name,by decide,Tryz.func367.trans (congrArg some (by kernel_rfl))⟩
 f37:=⟨Tryz.f370.name,by decide,Tryz.func370.trans (congrArg some (by kernel_rfl))⟩
 f38:=⟨Tryz.f371.name,by decide,Tryz.func371.trans (congrArg some (by kernel_rfl))⟩
 f39:=⟨Tryz.f372.name,by decide,Tryz.func372.trans (congrArg some (by kernel_rfl))⟩
 f41:=⟨Tryz.f387.name,by decide,Tryz.func387.trans (congrArg some (by kernel_rfl))⟩
 t0:=Tryz.underlying0
 a0:=Tryz.isAgg0
 z0:=Tryz.sizeOf0
 v0:=Tryz.zeroValue0
 t3:=Tryz.underlying3
 a3:=Tryz.isAgg3
 z3:=Tryz.sizeOf3
 v3:=Tryz.zeroValue3
 t4:=Tryz.underlying4
 a4:=Tryz.isAgg4
 z4:=Tryz.sizeOf4
 v4:=Tryz.zeroValue4
 t5:=Tryz.underlying5
 a5:=Tryz.isAgg5
 z5:=Tryz.sizeOf5
 v5:=Tryz.zeroValue5
 t9:=Tryz.underlying9
 a9:=Tryz.isAgg9
 z9:=Tryz.sizeOf9
 v9:=Tryz.zeroValue9
 t26:=Tryz.underlying202
 a26:=Tryz.isAgg202
 z26:=Tryz.sizeOf202
 v26:=Tryz.zeroValue202
 t27:=Tryz.underlying202
 a27:=Tryz.isAgg202
 z27:=Tryz.sizeOf202
 v27:=Tryz.zeroValue202
 t29:=Tryz.underlying9
 a29:=Tryz.isAgg9
 z29:=Tryz.sizeOf9
 v29:=Tryz.zeroValue9
 t32:=Tryz.underlying275
 a32:=Tryz.isAgg275
 z32:=Tryz.sizeOf275
 v32:=Tryz.zeroValue275
 t35:=Tryz.underlying415
 a35:=Tryz.isAgg415
 z35:=Tryz.sizeOf415
 v35:=Tryz.zeroValue415
 t36:=Tryz.underlying416
 a36:=Tryz.isAgg416
 z36:=Tryz.sizeOf416
 v36:=Tryz.zeroValue416
 t41:=Tryz.underlying255
 a41:=Tryz.isAgg255
 z41:=Tryz.sizeOf255
 v41:=Tryz.zeroValue255
 t44:=Tryz.underlying129
 a44:=Tryz.isAgg129
 z44:=Tryz.sizeOf129
 v44:=Tryz.zeroValue129
 t46:=Tryz.underlying29
 a46:=Tryz.isAgg29
 z46:=Tryz.sizeOf29
 v46:=Tryz.zeroValue29
 t53:=Tryz.underlying442
 a53:=Tryz.isAgg442
 z53:=Tryz.sizeOf442
 v53:=Tryz.zeroValue442
 t57:=Tryz.underlying445
 a57:=Tryz.isAgg445
 z57:=Tryz.sizeOf445
 v57:=Tryz.zeroValue445
 t63:=Tryz.underlying460
 a63:=Tryz.isAgg460
 z63:=Tryz.sizeOf460
 v63:=Tryz.zeroValue460
 t64:=Tryz.underlying461
 a64:=Tryz.isAgg461
 z64:=Tryz.sizeOf461
 v64:=Tryz.zeroValue461 }
open Go.RowKit Go.Maps Go.Sort in
theorem Tryz.sorts185 (m:Nat):AnyZ.SortsIn Tryz.prog Tryz.sorted185_ren Fence.wide m :=
 ⟨fun blk off cap ss W hH hblk hsz=>callsIn_wide.2 (AnyM.slices_Sort_string Tryz.sort245 blk off cap ss W hH hblk hsz),
  fun p cap W=>callsIn_wide.2 (AnyM.slices_Sort_string_none Tryz.sort245 p cap W)⟩
open Go.RowKit Go.Maps Go.Sort in
theorem Tryz.maps_Keys_186 (mb:Option Nat) (W:World):CallsIn Fence.wide 5 Tryz.prog 186 #[.map mb] W fun e w'=>e=.returned (.func (.func 246) #[] #[.pointer (some ⟨W.heap.size,0,none⟩)])∧w'=W.alloc (.cells #[.map mb] 61) :=
 AnyZ.keys_in Tryz.keys186 Fence.wide 5 trivial rfl mb W
open Go.RowKit Go.Maps Go.Sort in
theorem Tryz.slices_Sorted_keys_185_186 {H:Type} (b nn:Nat) (D0:DataW H) (R:Value→Option (DataW H × List MemPlace)) (w:World) (hown:w.ownsMap Tryz.prog 9 R b nn D0) (hmax:Maps.size D0≤maxLen) (hbytes:Maps.size D0 * 16≤140737488355328) :
   CallsIn Fence.wide 5 Tryz.prog 185 #[.func (.func 246) #[] #[.pointer (some ⟨w.heap.size,0,none⟩)]] (w.alloc (.cells #[.map (some b)] 61)) fun e w'=>∃ (v:Value) (ss:List (List UInt8)),e=.returned v∧ss.Perm (strKeys D0) ∧
     w'.ownsRow (w.alloc (.cells #[.map (some b)] 61)).heap.size 9 1 v ss.length ((ss.mergeSort (fun x y=>decide (x≤y))).map encStr)∧(v=.slice none 0 0 ↔ ss=[])∧Below (w.alloc (.cells #[.map (some b)] 61)).heap.size (w.alloc (.cells #[.map (some b)] 61)) w':=by
 have hbl:=hown.lt
 have hseq:SeqGives Fence.wide 2 Tryz.prog 246 #[.pointer (some ⟨w.heap.size,0,none⟩)] encStr (fun ss=>ss.Perm (strKeys D0)) (Maps.size D0) (w.alloc (.cells #[.map (some b)] 61)) :=
   AnyZ.keys_gives (ρ:=Tryz.keys186_ren) { Tryz.keys186 with } Fence.wide _ trivial rfl (by omega) w.heap.size b nn D0 _ (by simp) (by simp) (by
     obtain ⟨es,clock,hb,Ft,hs,hD⟩:=hown
     exact ⟨es,clock,(Below.heap_alloc _ _ b hbl).trans hb,Ft,hs,hD⟩)
 exact AnyZ.sorted_in Tryz.sorted185 Fence.wide 5 trivial trivial trivial trivial rfl (by omega) (Tryz.sorts185 _) (enters_of Tryz.func245 (by kernel_rfl) rfl) 246 #[.pointer (some ⟨w.heap.size,0,none⟩)] trivial (enters_of Tryz.func246 (by kernel_rfl) rfl) _ _ hmax hbytes _ hseq
open Go.RowKit Go.Maps Go.Sort in
open Go.RowKit Go.Maps Go.Sort in
theorem mkeys_any (mb:Option Nat) (W:World):Calls Tryz.prog 186 #[.map mb] W fun e w'=>e=.returned (.func (.func 246) #[] #[.pointer (some ⟨W.heap.size,0,none⟩)])∧w'=W.alloc (.cells #[.map mb] 61) :=
 (callsIn_wide (n:=5)).1 (Tryz.maps_Keys_186 mb W)
open Go.RowKit Go.Maps Go.Sort in
theorem msorted_any {H:Type} (b nn:Nat) (D0:DataW H) (R:Value→Option (DataW H × List MemPlace)) (w:World) (hown:w.ownsMap Tryz.prog 9 R b nn D0) (hmax:Maps.size D0≤maxLen) (hbytes:Maps.size D0 * 16≤140737488355328) :
   Calls Tryz.prog 185 #[.func (.func 246) #[] #[.pointer (some ⟨w.heap.size,0,none⟩)]] (w.alloc (.cells #[.map (some b)] 61)) fun e w'=>∃ (v:Value) (ss:List (List UInt8)),e=.returned v∧ss.Perm (strKeys D0) ∧
     w'.ownsRow (w.alloc (.cells #[.map (some b)] 61)).heap.size 9 1 v ss.length ((ss.mergeSort (fun x y=>decide (x≤y))).map encStr)∧(v=.slice none 0 0 ↔ ss=[])∧Below (w.alloc (.cells #[.map (some b)] 61)).heap.size (w.alloc (.cells #[.map (some b)] 61)) w' :=
 (callsIn_wide (n:=5)).1 (Tryz.slices_Sorted_keys_185_186 b nn D0 R w hown hmax hbytes)
end Go.Proofs.YtgmkckjedngkdaaGreatDoor
namespace Go.Proofs.YtgmkckjedngkdaaGreatDoor
open Go.ChangeShapes Go.WideShapes Go.ChangeAt Go.RowKit
theorem clip_any (A:Option Addr) (n c:Nat) (w:World) (h:n≤c) (hc:c≤maxLen):Calls Tryz.prog 138 #[.slice A n c] w fun e w'=>e=.returned (.slice A n n)∧w=w':=by
 unfold maxLen at hc
 go_enter Tryz.func138,Tryz.ntmps138
 go_wp2_with fail
 go_ret
 exact ⟨rfl,rfl⟩
theorem RowAt.none_nil {w:World} {M:List It} (h:ItemsAt w none M):M=[]:=by
 cases M with
 | nil=>rfl
 | cons a M=>obtain ⟨b,off,e,_⟩:=h (by simp);cases e
set_option maxHeartbeats 400000 in
theorem own_any (A:Option Addr) (c:Nat) (L:List It) (w:World) (hL:ItemsAt w A L) (hn:L.length≤2199023255552):Calls Tryz.prog 147 #[.slice A L.length c] w (RetOw L w):=by
 have HL:=hide hL
 have HN:=hide (fun h:A=none=>RowAt.none_nil (by rw [h] at hL;exact hL))
 clear hL
 obtain ⟨i0,hi,hz0,hz1,hz2⟩:=info_parts Tryz.infoItem
 go_enter Tryz.func147,Tryz.ntmps147
 go_wp2_with (at_builtin;refine wpList_append_row _ rfl (.const (.slice none 0 0)) (.tmp 3) 31 rfl w.heap.size 54 i0 _ 5 40 Tryz.underlying31 hi hz0 hz1 hz2 rfl (by omega) It.cells_len (.slice none 0 0) [] rfl (OwnL.nil_ _ _ _ _ _) A c L rfl HL.out HN.out (fun m _=>It.cells_one m) (by simp only [List.length_nil,maxLen];omega) (by simp only [List.length_nil];omega) (Nat.le_refl _) ?_;intro v1 w1 hown1 hg1 _)
 go_ret
 refine ⟨_,rfl,by rw [List.nil_append] at hown1;exact hown1,(Below.refl _ _).grown hg1 (Nat.le_refl _) (fun k hk=>by simp [Value.ownBlock] at hk)⟩
set_option maxHeartbeats 400000 in
theorem cmp_any (y x:It) (w:World):Calls Tryz.prog 277 #[y.val,x.val] w fun e w'=>e=.returned (.int .i64 (if ltB y x then -1 else 1))∧Below w.heap.size w w':=by
 cases hl:ltB y x
 all_goals
   go_enter Tryz.func277,Tryz.ntmps277
   go_wp2_with fail
   refine (Calls.mono (pless_any y x _) ?_);rintro e w1 ⟨rfl,hg1⟩
   rw [hl]
   go_wp2_with fail
   go_ret
   exact ⟨rfl,below_step (below_alloc (below_alloc (Below.refl _ _) _) _) hg1⟩
def Asks (F:FuncId) (x:It):Prop:=∀ (y:It) (w:World),Calls Tryz.prog F #[y.val,x.val] w fun e w'=>e=.returned (.int .i64 (if ltB y x then -1 else 1))∧Below w.heap.size w w'
set_option maxHeartbeats 1600000 in
theorem bsf_any (F:FuncId) (hcf:Enters Tryz.prog F) (x:It) (A:Option Addr) (c:Nat) (L:List It) (w:World) (hL:ItemsAt w A L) (hn:L.length≤4611686018427387904) (hr:Rising L) (hF:Asks F x) :
   Calls Tryz.prog 276 #[.slice A L.length c,x.val,.func (.func F) #[] #[]] w fun e w'=>e=.returned (.tuple #[.int .i64 (lowI x L),.bool false])∧Below w.heap.size w w':=by
 have HL:=hide hL
 have HR:=hide hr
 unfold Enters at hcf
 clear hL hr
 have hll:=low_le x L
 go_enter Tryz.func276,Tryz.ntmps276
 go_wp2_with fail
 go_loopw [9,10] (fun a b wr=>∃ i j:Nat,a=.int .i64 i∧b=.int .i64 j∧i≤lowI x L∧lowI x L≤j∧j≤L.length∧Below (w.alloc (.cells x.cells.toArray 54)).heap.size (w.alloc (.cells x.cells.toArray 54)) wr) (fun a b _=>(intOf b).toNat - (intOf a).toNat)
 case atStart=>exact ⟨0,L.length,rfl,rfl,by omega,hll,by omega,Below.refl _ _⟩
 case round =>
   obtain ⟨i,j,rfl,rfl,hi,hj,hjl,hb⟩:=hrel
   have hbw:Below w.heap.size w wr:=((Below.refl _ _).alloc (Nat.le_refl _) _).trans (hb.mono (by simp))
   obtain ⟨x0,x1,x2,x3,x4⟩:=box_item (g:=w.heap.size) (x:=x) ((hb.block _ (by simp)).trans (heap_alloc_new w _))
   have hsz:w.heap.size < wr.heap.size:=by have:=hb.size;simp at this;omega
   have HB:=hide hb
   have HW:=hide hbw
   clear hb hbw
   have hnc:=near_cells wr
   by_cases hij:i < j
   · have bij:decide ((i:Int) < (j:Int))=true:=decide_eq_true (by omega)
     go_wp2_with fail
     obtain ⟨h,hh,hih,hhj⟩:∃ h:Nat,((i:Int)+(j:Int)) / 2=(h:Int)∧i≤h∧h < j:=⟨(i+j) / 2,by omega,by omega,by omega⟩
     rw [hh]
     clear hh
     obtain ⟨bl,off,rfl,hbb,y0,y1,y2,y3,y4⟩:=ItemsAt.item HL.out HW.out (k:=h) (by omega)
     have hbl:bl < wr.heap.size:=Nat.lt_of_lt_of_le hbb HW.out.size
     have hhL:(h:Int) < (L.length:Int):=by omega
     have H1:=hide (fun hf:ltB (L[h]'(by omega)) x=false=>Nat.le_of_not_lt fun hlt=>by
       have:=low_lt x L h (by omega) hlt
       rw [this] at hf;cases hf)
     have H2:=hide (fun ht:ltB (L[h]'(by omega)) x=true=>Nat.lt_of_not_le fun hle=>by
       have:=low_ge (x:=x) (j:=h) HR.out (by omega) hle
       rw [this] at ht;cases ht)
     generalize L[h]'(by omega)=y at *
     have hFy:=hF y
     cases hl:ltB y x
     all_goals
       rw [hl] at hFy
       refine wp_region_near (by kernel_rfl) (by kernel_rfl) ?_
       repeat (go_big_quiet_step (exact near_of (hFy _)))
       refine wpQuiet_nil ?_
       intro _ hw'
       obtain ⟨s1,rfl⟩:=hw'
       go_wp2_with fail
     · go_roundw
       case rel=>exact ⟨i,h,rfl,rfl,hi,H1.out hl,by omega,below_step HB.out s1.is⟩
       case measure=>simp [intOf];omega
     · go_roundw
       case rel=>exact ⟨h+1,j,by go_num,rfl,H2.out hl,hj,hjl,below_step HB.out s1.is⟩
       case measure=>simp [intOf];omega
   · have bij:decide ((i:Int) < (j:Int))=false:=decide_eq_false (by omega)
     obtain rfl:i=lowI x L:=by omega
     by_cases hlt:lowI x L < L.length
     · obtain ⟨bl,off,rfl,hbb,y0,y1,y2,y3,y4⟩:=ItemsAt.item HL.out HW.out hlt
       have hbl:bl < wr.heap.size:=Nat.lt_of_lt_of_le hbb HW.out.size
       have hFy:=hF L[lowI x L]
       generalize L[lowI x L]=y at *
       have HI:=hide hlt
       have hhL:(lowI x L:Int) < (L.length:Int):=by omega
       have bL:decide ((lowI x L:Int) < (L.length:Int))=true:=decide_eq_true (by omega)
       generalize hq:lowI x L=q at *
       have HQ:=hide hq
       clear hq
       cases hl:ltB y x
       all_goals
         rw [hl] at hFy
         go_wp2_with fail
         refine wp_region_near (by kernel_rfl) (by kernel_rfl) ?_
         repeat (go_big_quiet_step (exact near_of (hFy _)))
         refine wpQuiet_nil ?_
         intro _ hw'
         obtain ⟨s1,rfl⟩:=hw'
         go_wp2_with fail
         go_ret2
         exact ⟨by rw [HQ.out];rfl,below_step HW.out s1.is⟩
     · have bL:decide ((lowI x L:Int) < (L.length:Int))=false:=decide_eq_false (by omega)
       generalize hq:lowI x L=q at *
       have HQ:=hide hq
       clear hq
       go_wp2_with fail
       refine wp_region_near (by kernel_rfl) (by kernel_rfl) ?_
       repeat (go_big_quiet_step (fail))
       refine wpQuiet_nil ?_
       intro _ hw'
       obtain ⟨s1,rfl⟩:=hw'
       go_wp2_with fail
       go_ret2
       exact ⟨by rw [HQ.out];rfl,below_step HW.out s1.is⟩
theorem asks_cmp (x:It):Asks 277 x:=fun y w=>cmp_any y x w
set_option maxHeartbeats 1600000 in
theorem place_any (x:It) (A:Option Addr) (c:Nat) (L:List It) (w:World) (hL:ItemsAt w A L) (hn:L.length≤4611686018427387904) (hr:Rising L) :
   Calls Tryz.prog 212 #[.slice A L.length c,x.val] w fun e w'=>e=.returned (.tuple #[.int .i64 (lowI x L),.bool (sameAt x L)])∧Below w.heap.size w w':=by
 have HL:=hide hL
 have HR:=hide hr
 clear hL hr
 have hcf:Enters Tryz.prog 277:=fun args W=>by kernel_rfl
 have HC:=hide hcf
 clear hcf
 have hbox:Below w.heap.size w (w.alloc (.cells x.cells.toArray 54)):=below_alloc (Below.refl _ _) _
 have HB:=hide hbox
 clear hbox
 go_enter Tryz.func212,Tryz.ntmps212
 go_wp2_with fail
 refine (Calls.mono (bsf_any 277 HC.out x A c L _ (HL.out.below HB.out) hn HR.out (asks_cmp x)) ?_);rintro e w1 ⟨rfl,hg1⟩
 obtain ⟨x0,x1,x2,x3,x4⟩:=box_item (g:=w.heap.size) (x:=x) ((hg1.block _ (by simp)).trans (heap_alloc_new w _))
 have hsz:w.heap.size < w1.heap.size:=by have:=hg1.size;simp at this;omega
 have HW:=hide (below_step HB.out hg1)
 clear hg1
 have hnc:=near_cells w1
 by_cases hlt:lowI x L < L.length
 · obtain ⟨bl,off,rfl,hbb,y0,y1,y2,y3,y4⟩:=ItemsAt.item HL.out HW.out hlt
   have hbl:bl < w1.heap.size:=Nat.lt_of_lt_of_le hbb HW.out.size
   have hsa:=sameAt_in hlt
   generalize L[lowI x L]=y at *
   have HS:=hide hsa
   clear hsa
   have hhL:(lowI x L:Int) < (L.length:Int):=by omega
   have bL:decide ((lowI x L:Int) < (L.length:Int))=true:=decide_eq_true (by omega)
   generalize hq:lowI x L=q at *
   have HQ:=hide hq
   clear hq
   go_wp2_with fail
   refine wp_region_near (by kernel_rfl) (by kernel_rfl) ?_
   repeat (go_big_quiet_step (exact near_of (psame_any y x _)))
   refine wpQuiet_nil ?_
   intro _ hw'
   obtain ⟨s1,rfl⟩:=hw'
   go_wp2_with fail
   go_ret2
   exact ⟨by rw [HS.out,HQ.out];rfl,below_step HW.out s1.is⟩
 · have bL:decide ((lowI x L:Int) < (L.length:Int))=false:=decide_eq_false (by omega)
   have HS:=hide (sameAt_out (x:=x) (l:=L) (by omega))
   generalize hq:lowI x L=q at *
   have HQ:=hide hq
   clear hq
   go_wp2_with fail
   refine wp_region_near (by kernel_rfl) (by kernel_rfl) ?_
   repeat (go_big_quiet_step (fail))
   refine wpQuiet_nil ?_
   intro _ hw'
   obtain ⟨s1,rfl⟩:=hw'
   go_wp2_with fail
   go_ret2
   exact ⟨by rw [HS.out,HQ.out];rfl,below_step HW.out s1.is⟩
def tombAt (s:Int) (L:List It):It:=match L[lowI (tombOf s) L]? with
 | some t=>if sameAt (tombOf s) L then t else ⟨0,0,0,0,0⟩
 | none=>⟨0,0,0,0,0⟩
set_option maxHeartbeats 1600000 in
theorem tomb_any (s:Int) (A:Option Addr) (c:Nat) (L:List It) (w:World) (hL:ItemsAt w A L) (hn:L.length≤4611686018427387904) (hr:Rising L) :
   Calls Tryz.prog 275 #[.slice A L.length c,.int .i64 s] w fun e w'=>e=.returned (.tuple #[(tombAt s L).val,.bool (sameAt (tombOf s) L)])∧Below w.heap.size w w':=by
 have HL:=hide hL
 have HR:=hide hr
 clear hL hr
 cases hs:sameAt (tombOf s) L
 · have HT:Hid (tombAt s L=⟨0,0,0,0,0⟩):=hide (by unfold tombAt;rw [hs];cases L[lowI (tombOf s) L]? <;> rfl)
   go_enter Tryz.func275,Tryz.ntmps275
   go_wp2_with fail
   refine (Calls.mono (place_any (tombOf s) A c L _ (HL.out.below (by go_grown)) hn HR.out) ?_);rintro e w1 ⟨rfl,hg1⟩;obtain ⟨hc1,hf1⟩:=bcell hg1
   rw [hs]
   go_wp2_with fail
   have hb1:Below w.heap.size w w1:=below_step (below_alloc (Below.refl _ _) _) hg1
   obtain ⟨r0,r1,r2,r3,r4⟩:=box_item (put_res (⟨0,0,0,0,0⟩:It) ((hg1.block w.heap.size (by simp)).trans (heap_alloc_new w _)))
   refine bodyPost_ret (v:=.tuple #[((⟨0,0,0,0,0⟩:It)).val,.bool false]) (by simp [results,Tryz.results275,go_sem,r0,r1,r2,r3,r4]) rfl ?_
   exact ⟨by rw [HT.out],((((hb1.setCell (Nat.le_refl _) _).setCell (Nat.le_refl _) _).setCell (Nat.le_refl _) _).setCell (Nat.le_refl _) _).setCell (Nat.le_refl _) _⟩
 · obtain ⟨hlt,hse⟩:=sameAt_true hs
   have HT:Hid (tombAt s L=L[lowI (tombOf s) L]):=hide (by unfold tombAt;rw [hs,List.getElem?_eq_getElem hlt];rfl)
   have hrow:=HL.out
   obtain ⟨bl,off,rfl,hbb,y0,y1,y2,y3,y4⟩:=ItemsAt.item HL.out (Below.refl _ _) hlt
   have hhL:(lowI (tombOf s) L:Int) < (L.length:Int):=by omega
   generalize L[lowI (tombOf s) L]=y at *
   clear hse hrow
   have HP:=hide (fun W hW=>place_any (tombOf s) (some ⟨bl,off,none⟩) c L W (HL.out.below hW) hn HR.out)
   generalize lowI (tombOf s) L=q at *
   go_enter Tryz.func275,Tryz.ntmps275
   go_wp2_with fail
   refine (Calls.mono (HP.out _ (below_alloc (Below.refl _ _) _)) ?_);rintro e w1 ⟨rfl,hg1⟩;obtain ⟨hc1,hf1⟩:=bcell hg1
   rw [hs]
   have hb1:Below w.heap.size w w1:=below_step (below_alloc (Below.refl _ _) _) hg1
   go_wp2_with fail
   obtain ⟨r0,r1,r2,r3,r4⟩:=box_item (put_res y ((hg1.block w.heap.size (by simp)).trans (heap_alloc_new w _)))
   refine bodyPost_ret (v:=.tuple #[(y).val,.bool true]) (by simp [results,Tryz.results275,go_sem,r0,r1,r2,r3,r4]) rfl ?_
   exact ⟨by rw [HT.out],((((hb1.setCell (Nat.le_refl _) _).setCell (Nat.le_refl _) _).setCell (Nat.le_refl _) _).setCell (Nat.le_refl _) _).setCell (Nat.le_refl _) _⟩
end Go.Proofs.YtgmkckjedngkdaaGreatDoor
namespace Go.Proofs.YtgmkckjedngkdaaGreatDoor
open Go.ChangeShapes Go.WideShapes Go.ChangeAt Go.RowKit
theorem hidB_tomb {L:List It} (hr:Rising L) (hg:∀ y ∈ L,It.good y) (x:It):hidB L x=(sameAt (tombOf x.s) L && hidesB (tombAt x.s L) x):=by
 rw [hid_tomb hr hg]
 unfold tombAt
 cases h:sameAt (tombOf x.s) L
 · simp
 · obtain ⟨hl,_⟩:=sameAt_true h
   rw [List.getElem?_eq_getElem hl]
   simp
set_option maxHeartbeats 1600000 in
theorem hidden_any (A:Option Addr) (c:Nat) (L:List It) (x:It) (w:World) (hL:ItemsAt w A L) (hn:L.length≤4611686018427387904) (hr:Rising L) (hg:∀ y ∈ L,It.good y) :
   Calls Tryz.prog 211 #[.slice A L.length c,x.val] w fun e w'=>e=.returned (.bool (hidB L x))∧Below w.heap.size w w':=by
 have HE:=hide (hidB_tomb hr hg x)
 have HT:=hide (fun W hW=>tomb_any x.s A c L W (RowAt.below hL hW) hn hr)
 clear hL hr hg
 generalize tombAt x.s L=t at *
 cases hs:sameAt (tombOf x.s) L
 · rw [hs] at HE
   go_enter Tryz.func211,Tryz.ntmps211
   go_wp2_with fail
   refine (Calls.mono (HT.out _ (below_alloc (Below.refl _ _) _)) ?_);rintro e w1 ⟨rfl,hg1⟩
   rw [hs]
   have hb1:Below w.heap.size w w1:=below_step (below_alloc (Below.refl _ _) _) hg1
   go_wp2_with fail
   go_ret
   exact ⟨by rw [HE.out];rfl,below_alloc hb1 _⟩
 · rw [hs] at HE
   go_enter Tryz.func211,Tryz.ntmps211
   go_wp2_with fail
   refine (Calls.mono (HT.out _ (below_alloc (Below.refl _ _) _)) ?_);rintro e w1 ⟨rfl,hg1⟩
   rw [hs]
   obtain ⟨x0,x1,x2,x3,x4⟩:=box_item (g:=w.heap.size) (x:=x) ((hg1.block _ (by simp)).trans (heap_alloc_new w _))
   have hz:w.heap.size < w1.heap.size:=by have:=hg1.size;simp at this;omega
   have hb1:Below w.heap.size w w1:=below_step (below_alloc (Below.refl _ _) _) hg1
   go_wp2_with fail
   refine (Calls.mono (phides_any t x _) ?_);rintro e w2 ⟨rfl,hg2⟩
   go_wp2_with fail
   go_ret
   exact ⟨by rw [HE.out];rfl,below_step (below_alloc hb1 _) hg2⟩
end Go.Proofs.YtgmkckjedngkdaaGreatDoor
namespace Go.Proofs.YtgmkckjedngkdaaGreatDoor
open Go.ChangeShapes Go.WideShapes Go.ChangeAt Go.RowKit
theorem RowAt.take_ {w:World} {A:Option Addr} {L:List It} (h:ItemsAt w A L) (k:Nat):ItemsAt w A (L.take k):=fun hne=>by
 obtain ⟨b,off,e,hlt,hc⟩:=h (fun e=>hne (by rw [e];simp))
 refine ⟨b,off,e,hlt,fun i hi j u hu=>hc i (by simp at hi;omega) j u ?_⟩
 rw [List.getElem_take] at hu
 exact hu
theorem hidden_n (A:Option Addr) (c n:Nat) (L:List It) (x:It) (w:World) (hnL:L.length=n) (hL:ItemsAt w A L) (hn:n≤4611686018427387904) (hs:IsState L) :
   Calls Tryz.prog 211 #[.slice A n c,x.val] w fun e w'=>e=.returned (.bool (hidB L x))∧Below w.heap.size w w':=by
 subst hnL
 exact hidden_any A c L x w hL hn hs.2.1 hs.1
theorem pst_no {L:List It} {k:Nat} (h:¬ IsState (L.take k)):stateB L=false:=stateB_false fun e=>h (e.take k)
theorem pst_bad {L:List It} {k:Nat} (hk:k < L.length) (h:goodB L[k]=false):stateB L=false:=pst_no (k:=k+1) fun e=>by
 have:=((isState_snoc hk).1 e).2.1
 rw [goodB_true this] at h;cases h
theorem pst_drop {L:List It} {k:Nat} (hk:k < L.length) (h0:0 < k) (h:ltB (L[k - 1]'(by omega)) L[k]=false):stateB L=false:=pst_no (k:=k+1) fun e=>by
 have:=((isState_snoc hk).1 e).2.2.1 h0
 rw [ltB_true this] at h;cases h
theorem pst_hid {L:List It} {k:Nat} (hk:k < L.length) (h:hidB (L.take k) L[k]=true):stateB L=false:=pst_no (k:=k+1) fun e=>by
 obtain ⟨t,ht,hh⟩:=List.any_eq_true.1 h
 exact ((isState_snoc hk).1 e).2.2.2 t ht (by simpa [hidesB] using hh)
theorem pst_on {L:List It} {k:Nat} (hk:k < L.length) (hs:IsState (L.take k)) (h1:goodB L[k]=true) (h2:∀ h:0 < k,ltB (L[k - 1]'(by omega)) L[k]=true) (h3:hidB (L.take k) L[k]=false):IsState (L.take (k+1)):=by
 rw [isState_snoc hk]
 refine ⟨hs,by simpa only [goodB,decide_eq_true_eq] using h1,fun h=>by simpa only [ltB,decide_eq_true_eq] using h2 h,fun t ht hh=>?_⟩
 have:hidB (L.take k) L[k]=true:=List.any_eq_true.2 ⟨t,ht,hidesB_true hh⟩
 rw [this] at h3;cases h3
set_option maxHeartbeats 3200000 in
set_option maxRecDepth 100000 in
theorem pok_any (A:Option Addr) (c:Nat) (L:List It) (w:World) (hL:ItemsAt w A L) (hlc:L.length≤c) (hn:L.length≤4611686018427387904) :
   Calls Tryz.prog 148 #[.slice A L.length c] w fun e w'=>e=.returned (.bool (stateB L))∧Below w.heap.size w w':=by
 have HL:=hide hL
 clear hL
 go_enter Tryz.func148,Tryz.ntmps148
 go_wp2_with fail
 go_loopw [7] (fun i wr=>∃ k:Nat,i=.int .i64 k∧k≤L.length∧Below w.heap.size w wr∧IsState (L.take k)) (fun i _=>L.length - (intOf i).toNat)
 case atStart=>exact ⟨0,rfl,by omega,Below.refl _ _,by rw [List.take_zero];exact IsState.nil_⟩
 case round =>
   obtain ⟨k,rfl,hk,hb,hs⟩:=hrel
   have HS:=hide hs
   have HB:=hide hb
   clear hs hb
   by_cases hlt:k < L.length
   · obtain ⟨bl,off,rfl,hbb,y0,y1,y2,y3,y4⟩:=ItemsAt.item HL.out HB.out hlt
     have hbl:bl < wr.heap.size:=Nat.lt_of_lt_of_le hbb HB.out.size
     have hkl:(L.take k).length=k:=by rw [List.length_take];omega
     have HH:=hide (fun x W hW=>hidden_n (some ⟨bl,off,none⟩) c k (L.take k) x W hkl (RowAt.take_ (RowAt.below HL.out hW) k) (by omega) HS.out)
     have H1:=hide (pst_bad hlt)
     have H2:=hide (pst_drop hlt)
     have H3:=hide (pst_hid hlt)
     have H4:=hide (pst_on hlt HS.out)
     clear hkl
     have hkc:(k:Int)≤(c:Int):=by omega
     by_cases h0:0 < k
     · obtain ⟨bl',off',hA,hbb',z0,z1,z2,z3,z4⟩:=ItemsAt.item HL.out HB.out (k:=k - 1) (by omega)
       injection hA with hA
       injection hA with hA1 hA2
       subst hA1 hA2
       have b0:decide ((0:Int) < (k:Int))=true:=decide_eq_true (by omega)
       have e1:IntKind.i64.wrap ((k:Int) - 1)=(k:Int) - 1:=IntWalk.i64_in _ (by omega)
       have e2:((k:Int) - 1).toNat=k - 1:=by omega
       have e3:(0:Int)≤(k:Int) - 1:=by omega
       have e4:(k:Int) - 1 < (L.length:Int):=by omega
       have e5:(1:Int)≤(k:Int):=by omega
       have e6:(k:Int) - 1 < (L.length:Int):=by omega
       have H5:=hide (H2.out h0)
       have H6:=hide (fun h1 (h2:ltB (L[k - 1]'(by omega)) L[k]=true) h3=>H4.out h1 (fun _=>h2) h3)
       clear H2 H4
       generalize L[k]=y at *
       generalize L[k - 1]=z at *
       cases hg:goodB y
       · clear HH z0 z1 z2 z3 z4
         go_wp2_with fail
         refine wp_name (fun W=>Below wr.heap.size wr W∧W.heap[wr.heap.size]? = some (.cells y.cells.toArray 54 (0,0))) ⟨below_alloc (Below.refl _ _) _,heap_alloc_new _ _⟩ ?_
         rintro W ⟨hbW,hxW⟩
         have HBW:=hide (below_step HB.out hbW)
         obtain ⟨x0,x1,x2,x3,x4⟩:=box_item hxW
         have hxl:wr.heap.size < W.heap.size:=(Array.getElem?_eq_some_iff.1 hxW).1
         have hbl2:bl < W.heap.size:=by omega
         have hnc:=near_cells W
         refine wp_region_near (by kernel_rfl) (by kernel_rfl) ?_
         repeat (go_big_quiet_step (((go_at_call 143;exact near_of (pgood_any y _)))))
         refine wpQuiet_nil ?_
         intro _ hw'
         obtain ⟨s1,rfl⟩:=hw'
         go_wp2_with fail
         go_ret
         exact ⟨by rw [H1.out hg];rfl,below_step HBW.out s1.is⟩
       · cases hl:ltB z y
         · go_wp2_with fail
           refine wp_name (fun W=>Below wr.heap.size wr W∧W.heap[wr.heap.size]? = some (.cells y.cells.toArray 54 (0,0))) ⟨below_alloc (Below.refl _ _) _,heap_alloc_new _ _⟩ ?_
           rintro W ⟨hbW,hxW⟩
           have HBW:=hide (below_step HB.out hbW)
           obtain ⟨x0,x1,x2,x3,x4⟩:=box_item hxW
           have hxl:wr.heap.size < W.heap.size:=(Array.getElem?_eq_some_iff.1 hxW).1
           have hbl2:bl < W.heap.size:=by omega
           have hnc:=near_cells W
           have z0:=(hbW.cell (p:=⟨bl,_,none⟩) hbl).trans z0
           have z1:=(hbW.cell (p:=⟨bl,_,none⟩) hbl).trans z1
           have z2:=(hbW.cell (p:=⟨bl,_,none⟩) hbl).trans z2
           have z3:=(hbW.cell (p:=⟨bl,_,none⟩) hbl).trans z3
           have z4:=(hbW.cell (p:=⟨bl,_,none⟩) hbl).trans z4
           refine wp_region_near (by kernel_rfl) (by kernel_rfl) ?_
           repeat (go_big_quiet_step ((first | (go_at_call 143;exact near_of (pgood_any y _)) | (go_at_call 137;exact near_of (pless_any z y _)))))
           refine wpQuiet_nil ?_
           intro _ hw'
           obtain ⟨s1,rfl⟩:=hw'
           go_wp2_with fail
           go_ret
           exact ⟨by rw [H5.out hl];rfl,below_step HBW.out s1.is⟩
         · cases hh:hidB (L.take k) y
           all_goals
             go_wp2_with fail
             refine wp_name (fun W=>Below wr.heap.size wr W∧W.heap[wr.heap.size]? = some (.cells y.cells.toArray 54 (0,0))) ⟨below_alloc (Below.refl _ _) _,heap_alloc_new _ _⟩ ?_
             rintro W ⟨hbW,hxW⟩
             have HBW:=hide (below_step HB.out hbW)
             obtain ⟨x0,x1,x2,x3,x4⟩:=box_item hxW
             have hxl:wr.heap.size < W.heap.size:=(Array.getElem?_eq_some_iff.1 hxW).1
             have hbl2:bl < W.heap.size:=by omega
             have hnc:=near_cells W
             have z0:=(hbW.cell (p:=⟨bl,_,none⟩) hbl).trans z0
             have z1:=(hbW.cell (p:=⟨bl,_,none⟩) hbl).trans z1
             have z2:=(hbW.cell (p:=⟨bl,_,none⟩) hbl).trans z2
             have z3:=(hbW.cell (p:=⟨bl,_,none⟩) hbl).trans z3
             have z4:=(hbW.cell (p:=⟨bl,_,none⟩) hbl).trans z4
             refine wp_region_near (by kernel_rfl) (by kernel_rfl) ?_
             repeat (go_big_quiet_step ((first | (go_at_call 143;exact near_of (pgood_any y _)) | (go_at_call 137;exact near_of (pless_any z y _)) | (go_at_call 211;exact near_of (HH.out y _ (below_step HBW.out (Near.is _)))))))
             refine wpQuiet_nil ?_
             intro _ hw'
             obtain ⟨s1,rfl⟩:=hw'
             rw [hh]
             go_wp2_with fail
           · go_roundw
             case rel=>exact ⟨k+1,by go_num,by omega,below_step HBW.out s1.is,H6.out hg hl hh⟩
             case measure=>simp [intOf];omega
           · go_ret
             exact ⟨by rw [H3.out hh];rfl,below_step HBW.out s1.is⟩
     · have b0:decide ((0:Int) < (k:Int))=false:=decide_eq_false (by omega)
       clear H2
       have H4':=hide (fun h1 h3=>H4.out h1 (fun h=>absurd h h0) h3)
       clear H4
       generalize L[k]=y at *
       cases hg:goodB y
       · go_wp2_with fail
         refine wp_name (fun W=>Below wr.heap.size wr W∧W.heap[wr.heap.size]? = some (.cells y.cells.toArray 54 (0,0))) ⟨below_alloc (Below.refl _ _) _,heap_alloc_new _ _⟩ ?_
         rintro W ⟨hbW,hxW⟩
         have HBW:=hide (below_step HB.out hbW)
         obtain ⟨x0,x1,x2,x3,x4⟩:=box_item hxW
         have hxl:wr.heap.size < W.heap.size:=(Array.getElem?_eq_some_iff.1 hxW).1
         have hbl2:bl < W.heap.size:=by omega
         have hnc:=near_cells W
         refine wp_region_near (by kernel_rfl) (by kernel_rfl) ?_
         repeat (go_big_quiet_step (((go_at_call 143;exact near_of (pgood_any y _)))))
         refine wpQuiet_nil ?_
         intro _ hw'
         obtain ⟨s1,rfl⟩:=hw'
         go_wp2_with fail
         go_ret
         exact ⟨by rw [H1.out hg];rfl,below_step HBW.out s1.is⟩
       · cases hh:hidB (L.take k) y
         all_goals
           go_wp2_with fail
           refine wp_name (fun W=>Below wr.heap.size wr W∧W.heap[wr.heap.size]? = some (.cells y.cells.toArray 54 (0,0))) ⟨below_alloc (Below.refl _ _) _,heap_alloc_new _ _⟩ ?_
           rintro W ⟨hbW,hxW⟩
           have HBW:=hide (below_step HB.out hbW)
           obtain ⟨x0,x1,x2,x3,x4⟩:=box_item hxW
           have hxl:wr.heap.size < W.heap.size:=(Array.getElem?_eq_some_iff.1 hxW).1
           have hbl2:bl < W.heap.size:=by omega
           have hnc:=near_cells W
           refine wp_region_near (by kernel_rfl) (by kernel_rfl) ?_
           repeat (go_big_quiet_step ((first | (go_at_call 143;exact near_of (pgood_any y _)) | (go_at_call 211;exact near_of (HH.out y _ (below_step HBW.out (Near.is _)))))))
           refine wpQuiet_nil ?_
           intro _ hw'
           obtain ⟨s1,rfl⟩:=hw'
           rw [hh]
           go_wp2_with fail
         · go_roundw
           case rel=>exact ⟨k+1,by go_num,by omega,below_step HBW.out s1.is,H4'.out hg hh⟩
           case measure=>simp [intOf];omega
         · go_ret
           exact ⟨by rw [H3.out hh];rfl,below_step HBW.out s1.is⟩
   · have HF:Hid (stateB L=true):=hide (stateB_true (by have:=HS.out;rwa [List.take_of_length_le (by omega)] at this))
     go_wp2_with fail
     go_ret
     exact ⟨by rw [HF.out];rfl,HB.out⟩
end Go.Proofs.YtgmkckjedngkdaaGreatDoor
namespace Go.Proofs.YtgmkckjedngkdaaGreatDoor
open Go.ChangeShapes Go.WideShapes Go.ChangeAt Go.RowKit
def ApartV (v u:Value):Prop:=∀ g,v.ownBlock=some g→u.ownBlock ≠ some g
theorem ApartV.symm {v u:Value} (h:ApartV v u):ApartV u v:=fun g hg e=>h g e hg
def Moved (w:World) (v v':Value):Prop:=v'.ownBlock=v.ownBlock ∨ ∃ g,w.heap.size≤g∧v'.ownBlock=some g
theorem ApartV.moved {w:World} {v v' u:Value} (h:ApartV v u) (hu:∀ g,u.ownBlock=some g→g < w.heap.size) (hm:Moved w v v'):ApartV v' u:=fun g hg e=>by
 rcases hm with hm | ⟨g',hg',hm⟩
 · rw [hm] at hg;exact h g hg e
 · rw [hm] at hg
   injection hg with hg
   have:=hu g e
   omega
theorem ApartV.keep {α:Type} {cells:α→List Value} {sz:Nat} {e:TypeId} {base:Nat} {w w':World} {v u:Value} {M:List α} (h:ApartV v u) (hown:OwnL cells sz e base w u M) (hg:w.grownBy w' v.ownBlock):OwnL cells sz e base w' u M :=
 hown.kept hg (by
   cases hu:u.ownBlock with
   | none=>exact .inl rfl
   | some g=>exact .inr fun e'=>h g e'.symm hu)
end Go.Proofs.YtgmkckjedngkdaaGreatDoor
namespace Go.Proofs.YtgmkckjedngkdaaGreatDoor
open Go.ChangeShapes Go.WideShapes Go.ChangeAt Go.RowKit
theorem put6m {w:World} {g:Nat} {a0 a1 a2 a3 a4 a5:Value} {t:TypeId} (v0 v1 v2 v3 v4 v5:Value) (h:w.heap[g]? = some (.cells #[a0,a1,a2,a3,a4,a5] t (0,0))) :
   ((((((w.setCell ⟨g,0,none⟩ v0).setCell ⟨g,1,none⟩ v1).setCell ⟨g,2,none⟩ v2).setCell ⟨g,3,none⟩ v3).setCell ⟨g,4,none⟩ v4).setCell ⟨g,5,none⟩ v5).heap[g]? = some (.cells #[v0,v1,v2,v3,v4,v5] t (0,0)):=by
 simp [World.setCell,Array.getElem?_modify,h]
set_option maxRecDepth 100000 in
set_option maxHeartbeats 1600000 in
theorem mcopy_any (m:Mg) (w:World) (hm:m.rd w) (hl:m.L.length≤1099511627776) :
   Calls Tryz.prog 235 #[m.val] w fun e w'=>∃ A' c',e=.returned (Mg.val { m with A:=A',c:=c' })∧Ow w.heap.size w' (.slice A' m.L.length c') m.L∧Below w.heap.size w w':=by
 obtain ⟨k,f,t,id,n,A,c,L⟩:=m
 obtain ⟨hI,hc1,hc2⟩:=hm
 simp only at hI hc1 hc2 hl
 have hb:=below_alloc (below_alloc (Below.refl w.heap.size w) (.cells #[.int .i64 k,.int .i64 f,.int .i64 t,.int .u64 id,.int .u64 n,.slice A L.length c] 33)) (.cells #[.int .i64 0,.int .i64 0,.int .i64 0,.int .u64 0,.int .u64 0,.slice none 0 0] 33)
 have hg0:=heap_alloc_new w (.cells #[.int .i64 k,.int .i64 f,.int .i64 t,.int .u64 id,.int .u64 n,.slice A L.length c] 33)
 have hg1:=(Below.heap_alloc (w.alloc (.cells #[.int .i64 k,.int .i64 f,.int .i64 t,.int .u64 id,.int .u64 n,.slice A L.length c] 33)) (.cells #[.int .i64 0,.int .i64 0,.int .i64 0,.int .u64 0,.int .u64 0,.slice none 0 0] 33) w.heap.size (by simp)).trans hg0
 have hg2:=heap_alloc_new (w.alloc (.cells #[.int .i64 k,.int .i64 f,.int .i64 t,.int .u64 id,.int .u64 n,.slice A L.length c] 33)) (.cells #[.int .i64 0,.int .i64 0,.int .i64 0,.int .u64 0,.int .u64 0,.slice none 0 0] 33)
 rw [show (w.alloc (.cells #[.int .i64 k,.int .i64 f,.int .i64 t,.int .u64 id,.int .u64 n,.slice A L.length c] 33)).heap.size=w.heap.size+1 by simp] at hg2
 obtain ⟨wx,hwx⟩:∃ wx,(w.alloc (.cells #[.int .i64 k,.int .i64 f,.int .i64 t,.int .u64 id,.int .u64 n,.slice A L.length c] 33)).alloc (.cells #[.int .i64 0,.int .i64 0,.int .i64 0,.int .u64 0,.int .u64 0,.slice none 0 0] 33)=wx:=⟨_,rfl⟩
 rw [hwx] at hb hg1 hg2
 have hbs:=hb.size
 have HL:=hide (hI.below hb)
 have HB:=hide hb
 have HG1:=hide hg1
 have HG2:=hide hg2
 obtain ⟨x0,x1,x2,x3,x4,x5⟩:=six_cells hg1
 have xl:=(Array.getElem?_eq_some_iff.1 hg1).1
 clear hI hb hg0 hg1 hg2
 go_enter Tryz.func235,Tryz.ntmps235
 go_upto_region 1 with fail
 try rw [hwx]
 clear hwx
 go_wp2_with (at_builtin;refine wpList_append_items rfl (.const (.slice none 0 0)) (.tmp 4) rfl w.heap.size wx.heap.size w wx (.slice none 0 0) [] A L.length c L rfl rfl rfl HL.out (Ow.nil_ _ _) HB.out hbs (Nat.le_refl _) (by simp only [List.length_nil];omega) ?_;intro v1 w1 ho1 hb1 hgr1;obtain ⟨A1,c1,rfl,hr1,hlo1,hc3,hc4⟩:=OwnL.row It.cells_len ho1;have HO1:=hide ho1;have hk1:=(hgr1.block w.heap.size xl (by simp [Value.ownBlock])).trans HG1.out;have hk2:=(hgr1.block (w.heap.size+1) (Array.getElem?_eq_some_iff.1 HG2.out).1 (by simp [Value.ownBlock])).trans HG2.out;have HK1:=hide hk1;have HK2:=hide hk2;have HB1:=hide hb1;have HGR:=hide hgr1.size;obtain ⟨y0,y1,y2,y3,y4,y5⟩:=six_cells hk1;obtain ⟨z0,z1,z2,z3,z4,z5⟩:=six_cells hk2;have yf:∀ o,w1.frozen? ⟨w.heap.size,o,none⟩=false:=(fun o=>by simp [World.frozen?,hk1]);have zf:∀ o,w1.frozen? ⟨w.heap.size+1,o,none⟩=false:=(fun o=>by simp [World.frozen?,hk2]);clear ho1 hb1 hgr1 hk1 hk2 hr1 hlo1 x0 x1 x2 x3 x4 x5)
 have hm1:((((((w1.setCell ⟨w.heap.size,5,none⟩ (.slice A1 L.length c1)).setCell ⟨w.heap.size+1,0,none⟩ (.int .i64 k)).setCell ⟨w.heap.size+1,1,none⟩ (.int .i64 f)).setCell ⟨w.heap.size+1,2,none⟩ (.int .i64 t)).setCell ⟨w.heap.size+1,3,none⟩ (.int .u64 id)).setCell ⟨w.heap.size+1,4,none⟩ (.int .u64 n)).setCell ⟨w.heap.size+1,5,none⟩ (.slice A1 L.length c1) |>.heap[w.heap.size+1]? = some (.cells #[.int .i64 k,.int .i64 f,.int .i64 t,.int .u64 id,.int .u64 n,.slice A1 L.length c1] 33 (0,0)) :=
   put6m _ _ _ _ _ _ ((Below.heap_setCell w1 ⟨w.heap.size,5,none⟩ (.slice A1 L.length c1) (w.heap.size+1) (by simp)).trans HK2.out)
 obtain ⟨r0,r1,r2,r3,r4,r5⟩:=six_cells hm1
 have hne:∀ j,j≤w.heap.size+1→(Value.slice A1 L.length c1).ownBlock ≠ some j:=fun j hj e=>by
   have h1:=(OwnL.lt HO1.out _ e).1
   have h2:=(Array.getElem?_eq_some_iff.1 HG2.out).1
   omega
 have hof:=(((((((OwnL.setFar HO1.out (hne w.heap.size (by omega)) (o:=5) (.slice A1 L.length c1)).setFar (hne (w.heap.size+1) (by omega)) (o:=0) (.int .i64 k)).setFar (hne (w.heap.size+1) (by omega)) (o:=1) (.int .i64 f)).setFar (hne (w.heap.size+1) (by omega)) (o:=2) (.int .i64 t)).setFar (hne (w.heap.size+1) (by omega)) (o:=3) (.int .u64 id)).setFar (hne (w.heap.size+1) (by omega)) (o:=4) (.int .u64 n)).setFar (hne (w.heap.size+1) (by omega)) (o:=5) (.slice A1 L.length c1)).base_ hbs
 have hbf:=((((((HB1.out.setCell (p:=⟨w.heap.size,5,none⟩) (Nat.le_refl _) (.slice A1 L.length c1)).setCell (p:=⟨w.heap.size+1,0,none⟩) (Nat.le_succ _) (.int .i64 k)).setCell (p:=⟨w.heap.size+1,1,none⟩) (Nat.le_succ _) (.int .i64 f)).setCell (p:=⟨w.heap.size+1,2,none⟩) (Nat.le_succ _) (.int .i64 t)).setCell (p:=⟨w.heap.size+1,3,none⟩) (Nat.le_succ _) (.int .u64 id)).setCell (p:=⟨w.heap.size+1,4,none⟩) (Nat.le_succ _) (.int .u64 n)).setCell (p:=⟨w.heap.size+1,5,none⟩) (Nat.le_succ _) (.slice A1 L.length c1)
 refine bodyPost_ret (v:=Mg.val ⟨k,f,t,id,n,A1,c1,L⟩) (by simp [results,Tryz.results235,go_sem,r0,r1,r2,r3,r4,r5]) rfl ?_
 exact ⟨A1,c1,rfl,hof,hbf⟩
end Go.Proofs.YtgmkckjedngkdaaGreatDoor
namespace Go.Proofs.YtgmkckjedngkdaaGreatDoor
open Go.ChangeShapes Go.WideShapes Go.ChangeAt Go.RowKit
theorem heap_setE {w:World} {g o:Nat} {l:List Value} {t:TypeId} {u:Value} (h:w.heap[g]? = some (.cells l.toArray t (0,0))):(w.setCell ⟨g,o,none⟩ u).heap[g]? = some (.cells (l.set o u).toArray t (0,0)):=by
 simp [World.setCell,Array.getElem?_modify,h]
end Go.Proofs.YtgmkckjedngkdaaGreatDoor
