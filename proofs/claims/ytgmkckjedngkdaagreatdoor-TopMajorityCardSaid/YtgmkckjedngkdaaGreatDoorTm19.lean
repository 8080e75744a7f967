/- A part of the proof that TopMajorityLaw holds: XZNam, XZMar. Conditions: as typed. -/
import Derived.Test.YtgmkckjedngkdaaGreatDoorTm13
import Derived.Test.YtgmkckjedngkdaaGreatDoorTm18
set_option linter.unusedVariables false
set_option linter.unusedSimpArgs false
namespace Go.Proofs.YtgmkckjedngkdaaGreatDoor
open Go.ChangeShapes Go.WideShapes Go.ChangeAt Go.RowKit
abbrev manS:ByteArray:=⟨#[109,97,110]⟩
abbrev man1:ByteArray:=⟨#[109,97,110,46,49]⟩
abbrev log1:ByteArray:=⟨#[108,111,103,46,49]⟩
abbrev cur:ByteArray:=⟨#[99,117,114,114,101,110,116]⟩
abbrev tmpS:ByteArray:=⟨#[99,117,114,114,101,110,116,46,116,109,112]⟩
theorem itoa1 (w:World):Calls Tryz.prog 134 #[.int .i64 1] w fun e w'=>e=.returned (.string ⟨#[49]⟩)∧w'=w:=by
 have h:=Tryz.strconv_Itoa_small 1 (by omega) w
 rw [show (⟨(Lib.decDigits 1).toArray⟩:ByteArray)=⟨#[49]⟩ from by kernel_rfl] at h
 exact h
theorem man1_eq:manS ++ (⟨#[46]⟩:ByteArray) ++ ⟨#[49]⟩=man1:=by kernel_rfl
set_option maxRecDepth 100000 in
theorem name_man1 (w:World):Calls Tryz.prog 63 #[.string manS,.int .i64 1] w fun e w'=>e=.returned (.string man1)∧w'=w:=by
 have HI:=hide (itoa1 w)
 go_enter Tryz.func63,Tryz.ntmps63
 go_wp2_with ((with_reducible refine (HI.out).mono ?_);rintro e w1 ⟨rfl,rfl⟩)
 go_ret
 exact ⟨congrArg (fun s=>Ending.returned (.string s)) man1_eq,rfl⟩
def ErrOk (w:World):Prop:=∃ ev,w.cell? ⟨1,0,none⟩=some ev∧(ev=.nilIface ∨ ∃ te pe,ev=.iface te pe)
theorem cut_man1 (w:World):Calls Tryz.prog 247 #[.string man1,.string (manS ++ ⟨#[46]⟩)] w fun e w'=>e=.returned (.tuple #[.string ⟨#[49]⟩,.bool true])∧w'=w:=by
 have h:=Tryz.strings_CutPrefix man1 (manS ++ ⟨#[46]⟩) w
 rw [show (⟨(Lib.trimPrefix man1.data.toList (manS ++ ⟨#[46]⟩:ByteArray).data.toList).toArray⟩:ByteArray)=⟨#[49]⟩ from by kernel_rfl,show Lib.hasPrefix man1.data.toList (manS ++ ⟨#[46]⟩:ByteArray).data.toList=true from by kernel_rfl] at h
 exact h
theorem cut_log1 (w:World):Calls Tryz.prog 247 #[.string log1,.string (manS ++ ⟨#[46]⟩)] w fun e w'=>e=.returned (.tuple #[.string log1,.bool false])∧w'=w:=by
 have h:=Tryz.strings_CutPrefix log1 (manS ++ ⟨#[46]⟩) w
 rw [show (⟨(Lib.trimPrefix log1.data.toList (manS ++ ⟨#[46]⟩:ByteArray).data.toList).toArray⟩:ByteArray)=log1 from by kernel_rfl,show Lib.hasPrefix log1.data.toList (manS ++ ⟨#[46]⟩:ByteArray).data.toList=false from by kernel_rfl] at h
 exact h
theorem cut_cur (w:World):Calls Tryz.prog 247 #[.string cur,.string (manS ++ ⟨#[46]⟩)] w fun e w'=>e=.returned (.tuple #[.string cur,.bool false])∧w'=w:=by
 have h:=Tryz.strings_CutPrefix cur (manS ++ ⟨#[46]⟩) w
 rw [show (⟨(Lib.trimPrefix cur.data.toList (manS ++ ⟨#[46]⟩:ByteArray).data.toList).toArray⟩:ByteArray)=cur from by kernel_rfl,show Lib.hasPrefix cur.data.toList (manS ++ ⟨#[46]⟩:ByteArray).data.toList=false from by kernel_rfl] at h
 exact h
theorem atoi_1 (w:World):Calls Tryz.prog 248 #[.string ⟨#[49]⟩] w fun e w'=>e=.returned (.tuple #[.int .i64 1,.nilIface])∧∃ t,w'=Lib.bytesWorld w 5 t :=
 Tryz.strconv_Atoi ⟨#[49]⟩ 1 (by decide) (by kernel_rfl) w
theorem atoi_no (s:ByteArray) (hl:s.size≤18) (h:Lib.atoi s.data.toList=none) (w:World) (he:ErrOk w):Calls Tryz.prog 248 #[.string s] w fun e w'=>∃ v,e=.returned (.tuple #[.int .i64 0,v])∧Below w.heap.size w w':=by
 obtain ⟨ev,h1,h2⟩:=he
 refine (Tryz.strconv_Atoi_err s hl h ev w h1 h2).mono ?_
 rintro e w' ⟨N,rfl,_,_,hb⟩
 exact ⟨_,rfl,hb⟩
set_option maxRecDepth 100000 in
set_option maxHeartbeats 800000 in
theorem number_man1 (w:World):Calls Tryz.prog 190 #[.string man1,.string manS] w fun e w'=>e=.returned (.tuple #[.int .i64 1,.bool true])∧Below w.heap.size w w':=by
 have HC:=hide (cut_man1 w)
 have HA:=hide (atoi_1 w)
 have HN:=hide (fun W=>name_man1 W)
 have HB:=hide (fun t=>Lib.bytesWorld_below w 5 t)
 go_enter Tryz.func190,Tryz.ntmps190
 go_wp2_with (first
  | ((with_reducible refine (HC.out).mono ?_);rintro e w1 ⟨rfl,rfl⟩)
  | ((with_reducible refine (HA.out).mono ?_);rintro e w1 ⟨rfl,t,hw⟩;have HW:=hide hw;clear hw)
  | ((with_reducible refine (HN.out _).mono ?_);rintro e w3 ⟨rfl,rfl⟩))
 go_returns
 exact ⟨rfl,by rw [HW.out];exact HB.out t⟩
set_option maxRecDepth 100000 in
set_option maxHeartbeats 800000 in
theorem number_log1 (w:World) (he:ErrOk w):Calls Tryz.prog 190 #[.string log1,.string manS] w fun e w'=>e=.returned (.tuple #[.int .i64 0,.bool false])∧Below w.heap.size w w':=by
 have HC:=hide (cut_log1 w)
 have HA:=hide (atoi_no log1 (by decide) (by kernel_rfl) w he)
 go_enter Tryz.func190,Tryz.ntmps190
 go_wp2_with (first
  | ((with_reducible refine (HC.out).mono ?_);rintro e w1 ⟨rfl,rfl⟩)
  | ((with_reducible refine (HA.out).mono ?_);rintro e w1 ⟨v,rfl,hb⟩;have HB:=hide hb;clear hb))
 go_returns
 exact ⟨rfl,HB.out⟩
set_option maxRecDepth 100000 in
set_option maxHeartbeats 800000 in
theorem number_cur (w:World) (he:ErrOk w):Calls Tryz.prog 190 #[.string cur,.string manS] w fun e w'=>e=.returned (.tuple #[.int .i64 0,.bool false])∧Below w.heap.size w w':=by
 have HC:=hide (cut_cur w)
 have HA:=hide (atoi_no cur (by decide) (by kernel_rfl) w he)
 go_enter Tryz.func190,Tryz.ntmps190
 go_wp2_with (first
  | ((with_reducible refine (HC.out).mono ?_);rintro e w1 ⟨rfl,rfl⟩)
  | ((with_reducible refine (HA.out).mono ?_);rintro e w1 ⟨v,rfl,hb⟩;have HB:=hide hb;clear hb))
 go_returns
 exact ⟨rfl,HB.out⟩
end Go.Proofs.YtgmkckjedngkdaaGreatDoor
namespace Go.Proofs.YtgmkckjedngkdaaGreatDoor
open Go.ChangeShapes Go.WideShapes Go.ChangeAt Go.RowKit
def d1:DataW Unit:=(DataW.map []:DataW Unit).put (nkey log1) (.lit (.int .i64 (0:Nat)))
def d2:DataW Unit:=d1.put (nkey man1) (.lit (.int .i64 (1:Nat)))
def d3:DataW Unit:=d2.put (nkey tmpS) (.lit (.int .i64 (2:Nat)))
def d4:DataW Unit:=renD d3 tmpS cur 2
theorem miss_man1:missN d1 man1:=(by kernel_rfl:Maps.has d1 (nkey man1)=false)
theorem miss_tmp:missN d2 tmpS:=(by kernel_rfl:Maps.has d2 (nkey tmpS)=false)
theorem size_d1:Maps.size d1=1:=by kernel_rfl
theorem size_d2:Maps.size d2=2:=by kernel_rfl
theorem size_d3:Maps.size d3=3:=by kernel_rfl
theorem size_d4:Maps.size d4=3:=by kernel_rfl
theorem keys_d4:Go.strKeys d4=[cur.data.toList,log1.data.toList,man1.data.toList]:=by kernel_rfl
theorem hit_tmp:hitN d3 tmpS 2:=⟨by kernel_rfl,fun z=>by kernel_rfl⟩
theorem hit_log:hitN d4 log1 0:=⟨by kernel_rfl,fun z=>by kernel_rfl⟩
theorem hit_man:hitN d4 man1 1:=⟨by kernel_rfl,fun z=>by kernel_rfl⟩
theorem ok_man1:namedB man1=true:=by kernel_rfl
theorem ok_log1:namedB log1=true:=by kernel_rfl
theorem ok_tmp:namedB tmpS=true:=by kernel_rfl
theorem ok_cur:namedB cur=true:=by kernel_rfl
theorem tmp_cur:(tmpS.toList == cur.toList)=false:=by kernel_rfl
theorem ErrOk.sets {w w':World} {S:Nat→Prop} (h:ErrOk w) (k:Sets S w w') (hl:1 < w.heap.size) (hS:¬ S 1):ErrOk w':=by
 obtain ⟨ev,h1,h2⟩:=h
 exact ⟨ev,k.cell hl hS h1,h2⟩
theorem ErrOk.below {w w':World} (h:ErrOk w) (k:Below w.heap.size w w') (hl:1 < w.heap.size):ErrOk w':=h.sets (S:=fun _=>False) (Sets.of k) hl id
def stepK (q:Int) (D:DataW Unit) (Z:List Fz) (tn:Nat) (calm:Bool):Dk:=⟨q,Z,D,false,0,tn,calm⟩
theorem DiskO.more {w w':World} {base p:Nat} {X Y:Nat→Prop} {K:Dk} (H:DiskO w' base p Y K) (hY:∀ g,Y g→Xw X w w' g) (hb:∀ g,X g→base≤g∧g < w.heap.size) (hl:base≤w.heap.size) (hs:w.heap.size≤w'.heap.size):DiskO w' base p (Xw X w w') K:=H.wide hY (Xw.bd hb hl hs)
theorem DiskO.two {w w1 w2:World} {base p:Nat} {X:Nat→Prop} {K:Dk} (H:DiskO w2 base p (Xw (Xw X w w1) w1 w2) K) (hx:∀ g,Xw X w w2 g→base≤g∧g < w2.heap.size) (s1:w.heap.size≤w1.heap.size) (s2:w1.heap.size≤w2.heap.size):DiskO w2 base p (Xw X w w2) K:=H.wide (xw_two s1 s2) hx
theorem Sets.two {w w1 w2:World} {X:Nat→Prop} (h:Sets X w w1) (k:Sets (Xw X w w1) w1 w2):Sets X w w2:=h.trans k (fun _ hi e=>xw_old hi e)
theorem DiskO.down {w w1 w2:World} {base p:Nat} {X:Nat→Prop} {K:Dk} (H:DiskO w1 base p (Xw X w w1) K) (hb:Below w1.heap.size w1 w2) (hx:∀ g,Xw X w w2 g→base≤g∧g < w2.heap.size):DiskO w2 base p (Xw X w w2) K:=(H.below hb).wide (fun g e=>by
 rcases e with e | e
 ·exact .inl e
 ·exact .inr ⟨e.1,Nat.lt_of_lt_of_le e.2 hb.size⟩) hx
set_option maxRecDepth 100000 in
set_option maxHeartbeats 3200000 in
theorem rewrite_any {w:World} {base p m:Nat} {X:Nat→Prop} {q:Int} {zl:Fz} {tn:Nat} {nm0:ByteArray} {ct0:Int} {v:Vw} (H:DiskO w base p X (stepK q d1 [zl] tn false)) (hm:ManAt w m p nm0 v ct0) (hX:¬ X m) (he:ErrOk w) (hb2:2≤base) (hm2:2≤m)
 (hv:v.ok) (hzl:zl.L=[]) (htn:tn≤10) (hq:600≤q) :
 Calls Tryz.prog 152 #[ptv m,.string man1] w fun e w'=>e=.returned (.int .i64 0)∧(∃ zm zc,zm.L=frameT 6 (bodyE (wholeE v))∧zc.L=frameT 8 (putT 1)∧DiskO w' base p (Xw X w w') (stepK q d4 [zl,zm,zc] (tn+3) true))∧ManAt w' m p man1 v 1∧Sets (fun g=>X g ∨ g=m) w w':=by
 have hml:=(Array.getElem?_eq_some_iff.1 hm).1
 have hbd:=H.bd
 have hbl:base≤w.heap.size:=by obtain ⟨h,H⟩:=H;exact H.base_le
 have HX:=hide (fun (W:World) (hs:w.heap.size≤W.heap.size)=>Xw.bd hbd hbl hs)
 obtain ⟨c0,c1,c2,c3,c4,c5,c6,c7,c8,c9⟩:=mn_cells hm
 have HW:=hide (whole_any v w)
 have HEP:=hide (fun W=>eput_any (wholeE v) W (wholeE_ok hv))
 have HH:=hide H
 have HM:=hide hm
 have HXM:=hide hX
 have HE:=hide he
 have HMIN:=hide (show 2≤base∧2≤m∧zl.L=[]∧tn≤10∧600≤q from ⟨hb2,hm2,hzl,htn,hq⟩)
 have HFL:Hid ((frameT 6 (bodyE (wholeE v))).length≤89):=hide (by rw [frameT_len];have:=bodyE_len (wholeE v);omega)
 have HFQ:Hid (∃ F6,frameT 6 (bodyE (wholeE v))=F6):=hide ⟨_,rfl⟩
 clear H hm hX he hb2 hm2 hv hzl htn hq hbd
 go_enter Tryz.func152,Tryz.ntmps152
 go_wp2_with ((with_reducible refine (HW.out).mono ?_);rintro e w1 ⟨rfl,hg1⟩;have HG1:=hide hg1;clear hg1)
 refine (Calls.mono (HEP.out w1) ?_);rintro e w2 ⟨v2,rfl,ho2,hg2⟩
 have HG2:=hide (below_step HG1.out hg2)
 obtain ⟨A2,cc2,rfl,hr2,ha2,_⟩:=OwnL.row (cells:=one1 u8v) (sz:=1) (fun _=>rfl) ho2
 obtain ⟨F6,hF6⟩:=HFQ.out
 rw [hF6] at hr2
 have HWR:=hide (mwrite_any (HH.out.below HG2.out) ok_man1 miss_man1 rfl rfl (by show Maps.size d1 < 64;rw [size_d1];omega) (by show (1:Nat) < 1000;omega) (by show tn < 900000;have:=HMIN.out;omega) A2 cc2 F6 hr2 (fun a ha hne e=>by
  have h1:=(ha2 a.block a.off a.spot (by rw [ha])).1
  have h2:=(HH.out.bd _ e).2
  have:=HG1.out.size
  omega) 0 (by intro z hz;rw [List.mem_singleton.1 (show z ∈ [zl] from hz),HMIN.out.2.2.1];simp) (by omega) (by have:=HFL.out;rw [hF6] at this;omega) (by have h3:=HFL.out;rw [hF6] at h3;have:=HMIN.out;show (((Maps.size d1+1) * 0+F6.length:Nat):Int)≤q;omega))
 have HF6:=hide hF6
 have hlb:=HFL.out
 rw [hF6] at hlb ⊢
 clear ho2 hr2 ha2 hF6
 have HLB:=hide hlb
 obtain ⟨n6,hn6⟩:∃ n,F6.length=n:=⟨_,rfl⟩
 rw [hn6] at HWR ⊢
 clear hn6 hlb
 go_wp2_with fail
 refine (Calls.mono HWR.out ?_);rintro e w3 ⟨rfl,⟨zm,hz1,hz2,hdo⟩,hS3⟩
 have HS3:Hid (Sets X w w3):=hide ((Sets.of (S:=X) HG2.out).trans hS3 (fun _ _ e=>e))
 have HD3:Hid (DiskO w3 base p (Xw X w w3) (stepK q d2 [zl,zm] (tn+1) false)):=hide (hdo.wide (Xw.more HG2.out.size) (HX.out _ HS3.out.size))
 have HZM:=hide (And.intro hz1 hz2)
 have HE3:Hid (ErrOk w3):=hide (HE.out.sets HS3.out (by have:=HMIN.out;omega) (fun e=>by have:=HH.out.bd _ e;have:=HMIN.out;omega))
 have HM3:Hid (ManAt w3 m p nm0 v ct0):=hide (HM.out.sets HS3.out HXM.out)
 have HRD:Hid (Calls Tryz.prog 121 #[ptv p,.string tmpS] w3 fun e w'=>e=.returned (.tuple #[.slice none 0 0,.int .i64 11])∧w'=w3):=hide (by obtain ⟨h3,H3⟩:=HD3.out;exact read_miss H3 ok_tmp rfl miss_tmp)
 have HNU:=hide (number_man1 w3)
 have hnp:∀ W,Calls Tryz.prog 221 #[.slice none 0 0,.int .u64 1] W fun e w'=>∃ v,e=.returned v∧OwnL (one1 u8v) 1 5 W.heap.size w' v (putT 1)∧Below W.heap.size W w':=fun W=>by
  have:=putT_any none 0 [] 1 W (by simp) RowAt.nil_ (by omega)
  simpa using this
 have HNP:=hide hnp
 clear hz1 hz2 hdo hS3 hnp HWR HEP HW
 go_wp2_with (first
  | ((with_reducible refine (HRD.out).mono ?_);rintro e w4 ⟨rfl,rfl⟩)
  | ((with_reducible refine (HNU.out).mono ?_);rintro e w5 ⟨rfl,hg5⟩;have HG5:=hide hg5;clear hg5)
  | ((with_reducible refine (HNP.out _).mono ?_);rintro e w6 ⟨v6,rfl,ho6,hg6⟩;have HO6:=hide ho6;have HG6:=hide hg6;clear ho6 hg6)
  | fail)
 have HG6b:Hid (Below w4.heap.size w4 w6):=hide (below_step HG5.out HG6.out)
 obtain ⟨A6,cc6,rfl,hr6,ha6,_⟩:=OwnL.row (cells:=one1 u8v) (sz:=1) (fun _=>rfl) HO6.out
 have hpl:=putT_len 1
 refine (Calls.mono (fput_any 8 A6 cc6 (putT 1) w6 (by omega) (by omega) hr6 (putT_b (by omega))) ?_);rintro e w7 ⟨v7,rfl,ho7,hg7⟩
 have HG7:Hid (Below w4.heap.size w4 w7):=hide (below_step HG6b.out hg7)
 obtain ⟨A7,cc7,rfl,hr7,ha7,_⟩:=OwnL.row (cells:=one1 u8v) (sz:=1) (fun _=>rfl) ho7
 have hl8:=frameT_len 8 (putT 1)
 obtain ⟨F8,hF8⟩:∃ F,frameT 8 (putT 1)=F:=⟨_,rfl⟩
 rw [hF8] at hr7 hl8 ⊢
 have hWR2:=mwrite_any (HD3.out.below HG7.out) ok_tmp miss_tmp rfl rfl (by show Maps.size d2 < 64;rw [size_d2];omega) (by show (2:Nat) < 1000;omega) (by show tn+1 < 900000;have:=HMIN.out;omega) A7 cc7 F8 hr7 (fun a ha hne e=>by
  have h1:=(ha7 a.block a.off a.spot (by rw [ha])).1
  have h2:=(HD3.out.bd _ e).2
  have:=HG6b.out.size
  omega) 89 (by
   intro z hz
   have hz':z=zl ∨ z=zm:=by simpa using (show z ∈ [zl,zm] from hz)
   rcases hz' with rfl | rfl
   ·rw [HMIN.out.2.2.1];simp
   ·rw [HZM.out.1];exact HLB.out) (by omega) (by omega) (by have:=HMIN.out;have h3:=size_d2;show (((Maps.size d2+1) * 89+F8.length:Nat):Int)≤q;rw [h3];omega)
 have HWR:=hide hWR2
 have HF8:=hide hF8
 obtain ⟨n8,hn8⟩:∃ n,F8.length=n:=⟨_,rfl⟩
 rw [hn8] at HWR ⊢
 clear ho7 hr7 ha7 hF8 hl8 hpl hr6 ha6 hg7 hn8 hWR2 HNP HRD HNU
 go_wp2_with fail
 refine (Calls.mono HWR.out ?_);rintro e w8 ⟨rfl,⟨zc,hz1,hz2,hdo⟩,hS8⟩
 have hs48:w4.heap.size≤w8.heap.size:=Nat.le_trans HG7.out.size hS8.size
 have HS8:Hid (Sets X w w8):=hide ((HS3.out.trans (Sets.of (S:=fun _=>False) HG7.out) (fun _ _ e=>e.elim)).trans hS8 (fun i hi e=>xw_old hi e))
 have HD8:Hid (DiskO w8 base p (Xw X w w8) (stepK q d3 [zl,zm,zc] (tn+2) false)):=hide (hdo.wide (fun g e=>by
  rcases e with (e | e) | e
  ·exact .inl e
  ·exact .inr ⟨e.1,by omega⟩
  ·exact .inr ⟨Nat.le_trans HS3.out.size (Nat.le_trans HG7.out.size e.1),e.2⟩) (HX.out _ HS8.out.size))
 have HZC:=hide hz1
 clear hz1 hz2 hdo hS8 hs48 HWR
 have hsd:Calls Tryz.prog 222 #[ptv p] w8 fun e w'=>e=.returned (.int .i64 0)∧DiskO w' base p (Xw (Xw X w w8) w8 w') (stepK q d3 [zl,zm,zc] (tn+2) true)∧Sets (Xw X w w8) w8 w':=by
  obtain ⟨h8,H8⟩:=HD8.out
  exact syncdir_in H8 rfl rfl
 have HSD:=hide hsd
 clear hsd
 go_wp2_with fail
 refine (Calls.mono HSD.out ?_);rintro e w9 ⟨rfl,hdo,hS9⟩
 have HS9:Hid (Sets X w w9):=hide (HS8.out.two hS9)
 have HD9:Hid (DiskO w9 base p (Xw X w w9) (stepK q d3 [zl,zm,zc] (tn+2) true)):=hide (hdo.two (HX.out _ HS9.out.size) HS8.out.size hS9.size)
 clear hdo hS9 HSD
 have hrn:Calls Tryz.prog 223 #[ptv p,.string tmpS,.string cur] w9 fun e w'=>e=.returned (.int .i64 0)∧DiskO w' base p (Xw (Xw X w w9) w9 w') (stepK q d4 [zl,zm,zc] (tn+3) false)∧Sets (Xw X w w9) w9 w':=by
  obtain ⟨h9,H9⟩:=HD9.out
  exact rename_in H9 ok_tmp ok_cur hit_tmp (by show 2 < 3;omega) tmp_cur rfl rfl (by show Maps.size d3 < 64;rw [size_d3];omega) (by show tn+2 < 900000;have:=HMIN.out;omega)
 have HRN:=hide hrn
 clear hrn
 go_wp2_with fail
 refine (Calls.mono HRN.out ?_);rintro e w10 ⟨rfl,hdo,hS10⟩
 have HS10:Hid (Sets X w w10):=hide (HS9.out.two hS10)
 have HD10:Hid (DiskO w10 base p (Xw X w w10) (stepK q d4 [zl,zm,zc] (tn+3) false)):=hide (hdo.two (HX.out _ HS10.out.size) HS9.out.size hS10.size)
 clear hdo hS10 HRN
 have HM10:Hid (ManAt w10 m p nm0 v ct0):=hide (HM.out.sets HS10.out HXM.out)
 obtain ⟨e0,e1,e2,e3,e4,e5,e6,e7,e8,e9⟩:=mn_cells HM10.out
 have ez:∀ o,w10.frozen? ⟨m,o,none⟩=false:=fun o=>by have h:=HM10.out;unfold ManAt at h;simp [World.frozen?,h]
 have ez1:=ez 1
 have ez8:=ez 8
 have hp1:=mn_set 8 (.int .i64 1) (mn_set 1 (.string man1) (show w10.heap[m]? = some (.cells (mnL p nm0 v ct0).toArray 219 (0,0)) from HM10.out))
 have hw11:=(sets1 w10 m 1 (.string man1)).set (g:=m) (fun _=>rfl) 8 (.int .i64 1)
 obtain ⟨w11,hw⟩:∃ w11,(w10.setCell ⟨m,1,none⟩ (.string man1)).setCell ⟨m,8,none⟩ (.int .i64 1)=w11:=⟨_,rfl⟩
 rw [hw] at hp1 hw11
 have HM11:Hid (ManAt w11 m p man1 v 1):=hide hp1
 have HS11:Hid (Sets (fun g=>X g ∨ g=m) w w11):=hide ((HS10.out.up (T:=fun g=>X g ∨ g=m) (fun _ e=>.inl e)).trans hw11 (fun _ _ e=>.inr e))
 have HXW:Hid (¬ Xw X w w10 m):=hide (fun e=>by
  rcases e with e | e
  ·exact HXM.out e
  ·omega)
 have HD11:Hid (DiskO w11 base p (Xw X w w10) (stepK q d4 [zl,zm,zc] (tn+3) false)):=hide (HD10.out.sets hw11 (fun g hg e=>HXW.out (e ▸ hg)))
 have hsz11:=hw11.size
 have HWE:=hide hw
 clear hp1 hw11 hw ez HH HD3 HD8 HD9
 have hsd:Calls Tryz.prog 222 #[ptv p] w11 fun e w'=>e=.returned (.int .i64 0)∧DiskO w' base p (Xw (Xw X w w10) w11 w') (stepK q d4 [zl,zm,zc] (tn+3) true)∧Sets (Xw X w w10) w11 w':=by
  obtain ⟨h8,H8⟩:=HD11.out
  exact syncdir_in H8 rfl rfl
 have HSD:=hide hsd
 clear hsd
 go_wp2_with fail
 rw [HWE.out]
 refine (Calls.mono HSD.out ?_);rintro e w12 ⟨rfl,hdo,hS12⟩
 have HS12:Hid (Sets (fun g=>X g ∨ g=m) w w12):=hide (HS11.out.trans hS12 (fun i hi e=>.inl (xw_old hi e)))
 have HM12:Hid (ManAt w12 m p man1 v 1):=hide (HM11.out.sets hS12 HXW.out)
 have hsz12:=hS12.size
 have HD12:Hid (DiskO w12 base p (Xw X w w12) (stepK q d4 [zl,zm,zc] (tn+3) true)):=hide (hdo.wide (fun g e=>by
  rcases e with (e | e) | e
  ·exact .inl e
  ·exact .inr ⟨e.1,by omega⟩
  ·exact .inr ⟨by have:=HS10.out.size;omega,e.2⟩) (HX.out _ HS12.out.size))
 have HE12:Hid (ErrOk w12):=hide (HE.out.sets HS12.out (by have:=HMIN.out;omega) (fun e=>by
  rcases e with e | e
  ·have h3:=(HD12.out.bd 1 (.inl e)).1;have:=HMIN.out;omega
  ·have:=HMIN.out;omega))
 clear hdo hS12 HSD HD10 HD11 HM10 HM11 HWE e0 e1 e2 e3 e4 e5 e6 e7 e8 e9 ez1 ez8
 have hli:Calls Tryz.prog 119 #[ptv p] w12 fun e w'=>∃ v NL,e=.returned v∧OwnL (one1 strv) 1 9 w12.heap.size w' v NL∧(∃ ss:List (List UInt8),NL=ss.map nmS∧ss.Perm (Go.strKeys d4))∧Below w12.heap.size w12 w':=by
  obtain ⟨h8,H8⟩:=HD12.out
  exact list_any H8 rfl (by show Maps.size d4≤1000;rw [size_d4];omega)
 have HLI:=hide hli
 clear hli
 go_wp2_with ((with_reducible refine (HLI.out).mono ?_);rintro e w13 ⟨vl,NL,rfl,hol,hss,hg13⟩;obtain ⟨Al,cl,rfl,hrl,_,_⟩:=OwnL.row (cells:=one1 strv) (sz:=1) (fun _=>rfl) hol;have HRL:=hide hrl;have HG13:=hide hg13;have HSS:=hide hss;clear hol hrl hg13 hss)
 have HMEM:Hid (∀ s ∈ NL,s=cur ∨ s=log1 ∨ s=man1):=hide (by
  obtain ⟨ss,rfl,hp⟩:=HSS.out
  intro s hs
  obtain ⟨l,hl,rfl⟩:=List.mem_map.1 hs
  have h2:=hp.mem_iff.1 hl
  rw [keys_d4] at h2
  simp only [List.mem_cons,List.not_mem_nil,or_false] at h2
  rcases h2 with rfl | rfl | rfl
  ·exact .inl rfl
  ·exact .inr (.inl rfl)
  ·exact .inr (.inr rfl))
 have HLN:Hid (NL.length≤1000):=hide (by
  obtain ⟨ss,rfl,hp⟩:=HSS.out
  rw [List.length_map,hp.length_eq,keys_d4]
  simp)
 have hl12:1 < w12.heap.size:=by have:=HMIN.out;have:=HS12.out.size;omega
 clear HSS
 have hln:=HLN.out
 go_loopw [104] (fun i wr=>∃ k:Nat,k≤NL.length∧i=.int .i64 k∧Below w13.heap.size w13 wr) (fun i _=>NL.length - (intOf i).toNat)
 case atStart=>exact ⟨0,by omega,rfl,Below.refl _ _⟩
 case round =>
  obtain ⟨k,hk,rfl,hg⟩:=hrel
  have HG:=hide hg
  have hw12r:=below_step HG13.out hg
  by_cases hlt:k < NL.length
  ·obtain ⟨b,off,rfl,hbb,q0⟩:=RowAt.one HRL.out hg hlt
   have hltI:(k:Int) < NL.length:=by omega
   have hmem:=HMEM.out _ (List.getElem_mem hlt)
   have HER:=hide (HE12.out.below hw12r hl12)
   clear hg hw12r
   generalize NL[k]'hlt=s at *
   rcases hmem with rfl | rfl | rfl
   ·have HNU:=hide (number_cur wr HER.out)
    go_wp2_with ((with_reducible refine (HNU.out).mono ?_);rintro e w14 ⟨rfl,hg14⟩;have HG14:=hide hg14;clear hg14)
    go_roundw
    case rel=>exact ⟨k+1,by omega,by go_num,below_step HG.out HG14.out⟩
    case measure=>simp [intOf];omega
   ·have HNU:=hide (number_log1 wr HER.out)
    go_wp2_with ((with_reducible refine (HNU.out).mono ?_);rintro e w14 ⟨rfl,hg14⟩;have HG14:=hide hg14;clear hg14)
    go_roundw
    case rel=>exact ⟨k+1,by omega,by go_num,below_step HG.out HG14.out⟩
    case measure=>simp [intOf];omega
   ·have HNU:=hide (number_man1 wr)
    go_wp2_with ((with_reducible refine (HNU.out).mono ?_);rintro e w14 ⟨rfl,hg14⟩;have HG14:=hide hg14;clear hg14)
    go_roundw
    case rel=>exact ⟨k+1,by omega,by go_num,below_step HG.out HG14.out⟩
    case measure=>simp [intOf];omega
  ·have hltI:¬ (k:Int) < (NL.length:Int):=by omega
   clear hg
   have HWR:=hide hw12r
   clear hw12r
   go_wp2_with fail
   go_ret
   have hSf:=HS12.out.trans (Sets.of (S:=fun g=>X g ∨ g=m) HWR.out) (fun _ _ e=>e)
   exact ⟨rfl,⟨zm,HZM.out.1.trans HF6.out.symm,zc,HZC.out.trans HF8.out.symm,HD12.out.down HWR.out (HX.out _ hSf.size)⟩,HM12.out.sets (Sets.of (S:=fun _=>False) HWR.out) id,hSf⟩
end Go.Proofs.YtgmkckjedngkdaaGreatDoor
