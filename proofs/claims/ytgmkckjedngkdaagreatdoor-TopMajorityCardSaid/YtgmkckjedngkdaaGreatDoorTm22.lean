/- A part of the proof that TopMajorityLaw holds: XZMan2, XZSto, XZStc, XZSop, XZSap. Conditions: as typed. -/
import Derived.Test.YtgmkckjedngkdaaGreatDoorTm09
import Derived.Test.YtgmkckjedngkdaaGreatDoorTm19
import Derived.Test.YtgmkckjedngkdaaGreatDoorTm21
set_option linter.unusedVariables false
set_option linter.unusedSimpArgs false
namespace Go.Proofs.YtgmkckjedngkdaaGreatDoor
open Go.ChangeShapes Go.WideShapes Go.ChangeAt Go.RowKit
set_option maxRecDepth 100000 in
set_option maxHeartbeats 1600000 in
theorem mannew_any {w:World} {base p:Nat} {X:Nat→Prop} {q:Int} {zl:Fz} {tn:Nat} {v:Vw} (H:DiskO w base p X (stepK q d1 [zl] tn false)) (he:ErrOk w) (hb2:2≤base) (hv:v.ok) (hzl:zl.L=[]) (htn:tn≤10) (hq:600≤q) :
 Calls Tryz.prog 126 #[ptv p,v.val] w fun e w'=>∃ m zm zc,e=.returned (.tuple #[ptv m,.int .i64 0])∧zm.L=frameT 6 (bodyE (wholeE v))∧zc.L=frameT 8 (putT 1)∧(∃ Y,DiskO w' base p Y (stepK q d4 [zl,zm,zc] (tn+3) true)∧(∀ g,Y g→Xw X w w' g)∧¬ Y m)∧w.heap.size≤m∧m < w'.heap.size∧ManAt w' m p man1 v 1∧Sets X w w':=by
 have hbd:=H.bd
 have hbl:base≤w.heap.size:=by obtain ⟨h,H⟩:=H;exact H.base_le
 have HOK:=hide (fun W=>vok_yes v W hv)
 have HOW:=hide (fun W=>mown_any v W)
 have HNM:=hide (fun W=>name_man1 W)
 have hb1:=below_alloc (Below.refl w.heap.size w) (.cells #[.int .i64 v.log,.slice none 0 0,.int .u64 v.fl,.int .u64 v.ce,.int .u64 v.at_,.int .u64 v.le] 142)
 have hz:=heap_alloc_new w (.cells #[.int .i64 v.log,.slice none 0 0,.int .u64 v.fl,.int .u64 v.ce,.int .u64 v.at_,.int .u64 v.le] 142)
 obtain ⟨x0,x1,x2,x3,x4,x5⟩:=vw_cells hz
 have HZ:=hide hz
 have HB1:=hide hb1
 have HH:=hide H
 have HE:=hide he
 have HMIN:=hide (show 2≤base∧zl.L=[]∧tn≤10∧600≤q∧base≤w.heap.size from ⟨hb2,hzl,htn,hq,hbl⟩)
 have HV:=hide hv
 have HBD:=hide hbd
 clear H he hb2 hv hzl htn hq hbd hbl hz hb1
 go_enter Tryz.func126,Tryz.ntmps126
 go_wp2_with (first
  | ((with_reducible refine (HOK.out _).mono ?_);rintro e w1 ⟨rfl,hg1⟩;have hz1:=(hg1.block w.heap.size (by simp)).trans HZ.out;obtain ⟨y0,y1,y2,y3,y4,y5⟩:=vw_cells hz1;have HG1:=hide (below_step HB1.out hg1);clear hg1 hz1 x0 x1 x2 x3 x4 x5)
  | ((with_reducible refine (HOW.out _).mono ?_);rintro e w2 ⟨rfl,hg2⟩;have HG2:=hide hg2;clear hg2 y0 y1 y2 y3 y4 y5)
  | ((with_reducible refine (HNM.out _).mono ?_);rintro e w3 ⟨rfl,rfl⟩)
  | fail)
 have hw2:=below_step HG1.out HG2.out
 have hb3:=below_alloc hw2 (.cells (mnL p ⟨#[]⟩ v 0).toArray 219)
 have hzm:=heap_alloc_new w2 (.cells (mnL p ⟨#[]⟩ v 0).toArray 219)
 have hs2:=hw2.size
 have hXm:¬ X w2.heap.size:=fun e=>by have:=(HBD.out _ e).2;omega
 have hl1:1 < w.heap.size:=by have:=HMIN.out;omega
 refine (Calls.mono (rewrite_any (m:=w2.heap.size) (HH.out.below hb3) (show ManAt _ w2.heap.size p ⟨#[]⟩ v 0 from hzm) hXm (HE.out.below hb3 hl1) HMIN.out.1 (by have:=HMIN.out;omega) HV.out HMIN.out.2.1 HMIN.out.2.2.1 HMIN.out.2.2.2.1) ?_)
 rintro e w4 ⟨rfl,⟨zm,zc,hz1,hz2,hdo⟩,hma,hS⟩
 have HF:Hid (∃ Y,DiskO w4 base p Y (stepK q d4 [zl,zm,zc] (tn+3) true)∧(∀ g,Y g→Xw X w w4 g)∧¬ Y w2.heap.size):=hide ⟨_,hdo,Xw.more hb3.size,fun e=>by
  rcases e with e | e
  ·exact hXm e
  ·have h9:=e.1;rw [World.size_alloc] at h9;omega⟩
 have HMA:=hide hma
 have HZ12:=hide (And.intro hz1 hz2)
 have HSS:Hid (Sets X w w4):=hide ((Sets.of (S:=X) hb3).trans hS (fun i hi e=>by
  rcases e with e | e
  ·exact e
  ·omega))
 have HLT:Hid (w.heap.size≤w2.heap.size∧w2.heap.size < w4.heap.size):=hide ⟨hs2,(Array.getElem?_eq_some_iff.1 hma).1⟩
 clear hz1 hz2 hdo hma hS hw2 hb3 hzm hXm hs2
 go_wp2_with fail
 go_returns
 exact ⟨w2.heap.size,zm,zc,rfl,HZ12.out.1,HZ12.out.2,HF.out,HLT.out.1,HLT.out.2,HMA.out,HSS.out⟩
end Go.Proofs.YtgmkckjedngkdaaGreatDoor
namespace Go.Proofs.YtgmkckjedngkdaaGreatDoor
open Go.ChangeShapes Go.WideShapes Go.ChangeAt Go.RowKit
structure Sr where
 K:Dk
 v:Vw
 cnt:Int
 S:List It
 mf:Nat
 d:Nat
structure Sh where
 p:Nat
 m:Nat
 g:Nat
 b:Nat
 pm:Nat
 F:List Nd
 nm:Int
 vs:Value
 sz:Int
 Xd:Nat→Prop
def stL (h:Sh):List Value:=[ptv h.p,ptv h.m,ptv h.g,ptv h.b,.slice none 0 0,h.vs,.int .i64 h.sz,.int .u32 0,.int .i32 0,.int .u32 0,.bool false]
structure StoreV (w:World) (base s:Nat) (X:Nat→Prop) (R:Sr) (h:Sh):Prop where
 box:w.heap[s]? = some (.cells (stL h).toArray 139 (0,0))
 log:LogAt w h.g h.p log1
 man:ManAt w h.m h.p man1 R.v R.cnt
 disk:DiskO w base h.p h.Xd R.K
 mem:MemAt w h.b h.pm h.F false h.nm
 st:Sl w h.vs R.S
 inX:X s∧X h.g∧X h.m∧(∀ g,h.Xd g→X g)∧(∀ c,MBlk h.b h.pm h.F c→X c)∧∀ g,h.vs.ownBlock=some g→X g
 bd:∀ g,X g→base≤g∧g < w.heap.size
 apd:∀ g,h.Xd g→g ≠ s∧g ≠ h.g∧g ≠ h.m∧¬ MBlk h.b h.pm h.F g∧h.vs.ownBlock ≠ some g
 apm:∀ c,MBlk h.b h.pm h.F c→c ≠ s∧c ≠ h.g∧c ≠ h.m∧h.vs.ownBlock ≠ some c
 aps:h.vs.ownBlock ≠ some s∧h.vs.ownBlock ≠ some h.g∧h.vs.ownBlock ≠ some h.m∧s ≠ h.g∧s ≠ h.m∧h.g ≠ h.m
 files:R.K.D=d4∧R.K.dead=false∧R.K.stop=0∧R.K.calm=true∧∃ zl zm zc,R.K.Z=[zl,zm,zc]
 few:R.S.length≤1500∧h.F.length≤R.mf
 good:R.v.ok
 dp:h.p=R.d
def StoreO (w:World) (base s:Nat) (X:Nat→Prop) (R:Sr):Prop:=∃ h,StoreV w base s X R h
theorem StoreV.sets {w w':World} {S X:Nat→Prop} {base s:Nat} {R:Sr} {h:Sh} (H:StoreV w base s X R h) (k:Sets S w w') (hS:∀ g,X g→¬ S g):StoreV w' base s X R h :=
 { H with
   box:=(k.block s (H.bd s H.inX.1).2 (hS s H.inX.1)).trans H.box
   log:=H.log.sets k (hS _ H.inX.2.1)
   man:=H.man.sets k (hS _ H.inX.2.2.1)
   disk:=H.disk.sets k (fun g hg=>hS g (H.inX.2.2.2.1 g hg))
   mem:=H.mem.sets k (fun c hc=>hS c (H.inX.2.2.2.2.1 c hc))
   st:=by
    obtain ⟨A,c,e,hr,h1,h2⟩:=H.st
    refine ⟨A,c,e,fun hne=>?_,h1,h2⟩
    obtain ⟨b,off,rfl,hlt,hc⟩:=hr hne
    exact ⟨b,off,rfl,Nat.lt_of_lt_of_le hlt k.size,fun j hj i u hu=>(World.cell?_of_block (k.block b hlt (hS b (H.inX.2.2.2.2.2 b (by rw [e];rfl))))).trans (hc j hj i u hu)⟩
   bd:=fun g hg=>⟨(H.bd g hg).1,Nat.lt_of_lt_of_le (H.bd g hg).2 k.size⟩ }
theorem StoreV.wide {w:World} {X Y:Nat→Prop} {base s:Nat} {R:Sr} {h:Sh} (H:StoreV w base s X R h) (hX:∀ g,X g→Y g) (hY:∀ g,Y g→base≤g∧g < w.heap.size):StoreV w base s Y R h :=
 { H with
   inX:=⟨hX _ H.inX.1,hX _ H.inX.2.1,hX _ H.inX.2.2.1,fun g e=>hX g (H.inX.2.2.2.1 g e),fun c e=>hX c (H.inX.2.2.2.2.1 c e),fun g e=>hX g (H.inX.2.2.2.2.2 g e)⟩
   bd:=hY }
theorem StoreO.sets {w w':World} {S X:Nat→Prop} {base s:Nat} {R:Sr} (H:StoreO w base s X R) (k:Sets S w w') (hS:∀ g,X g→¬ S g):StoreO w' base s X R:=let ⟨h,H⟩:=H;⟨h,H.sets k hS⟩
theorem StoreO.below {w w':World} {X:Nat→Prop} {base s:Nat} {R:Sr} (H:StoreO w base s X R) (k:Below w.heap.size w w'):StoreO w' base s X R:=H.sets (S:=fun _=>False) (Sets.of k) (fun _ _=>id)
theorem StoreO.wide {w:World} {X Y:Nat→Prop} {base s:Nat} {R:Sr} (H:StoreO w base s X R) (hX:∀ g,X g→Y g) (hY:∀ g,Y g→base≤g∧g < w.heap.size):StoreO w base s Y R:=let ⟨h,H⟩:=H;⟨h,H.wide hX hY⟩
theorem keys_none:Go.strKeys (DataW.map []:DataW Unit)=[]:=rfl
theorem list_none {w:World} {base p:Nat} {X:Nat→Prop} {q:Int} (H:DiskO w base p X (dk0 q)):Calls Tryz.prog 119 #[ptv p] w fun e w'=>∃ A c,e=.returned (.slice A 0 c)∧Below w.heap.size w w':=by
 obtain ⟨h,H⟩:=H
 refine (list_any H rfl (by show (0:Nat)≤1000;omega)).mono ?_
 rintro e w' ⟨v,NL,rfl,ho,⟨ss,rfl,hp⟩,hb⟩
 rw [show (dk0 q).D=DataW.map [] from rfl,keys_none,List.perm_nil] at hp
 subst hp
 obtain ⟨A,c,rfl,_⟩:=OwnL.row (cells:=one1 strv) (sz:=1) (fun _=>rfl) ho
 exact ⟨A,c,rfl,hb⟩
theorem isnew1_in:Enters Tryz.prog 120:=fun _ _=>by kernel_rfl
set_option maxRecDepth 100000 in
set_option maxHeartbeats 800000 in
theorem isnew_yes {w:World} {base p:Nat} {X:Nat→Prop} {q:Int} (H:DiskO w base p X (dk0 q)):Calls Tryz.prog 57 #[ptv p] w fun e w'=>e=.returned (.bool true)∧Below w.heap.size w w':=by
 have hb:=below_alloc (Below.refl w.heap.size w) (.cells #[ptv p] 23)
 have HL:=hide (list_none (H.below hb))
 have hc:∀ (A:Option Addr) (c:Nat) (caps:Array Value) (W:World),Calls Tryz.prog 118 #[.slice A 0 c,.func (.func 120) #[] caps] W fun e w'=>e=.returned (.bool false)∧Below W.heap.size W w':=fun A c caps W =>
  containsG_strv 120 caps isnew1_in (fun _=>false) A c [] W (by simp) RowAt.nil_ (TellsV.nil_ _ _ _ _ _)
 have HC:=hide hc
 have HB:=hide hb
 clear hc hb H
 go_enter Tryz.func57,Tryz.ntmps57
 go_wp2_with (first
  | ((with_reducible refine (HL.out).mono ?_);rintro e w1 ⟨A,c,rfl,hg1⟩;have HG1:=hide hg1;clear hg1)
  | ((with_reducible refine (HC.out _ _ _ _).mono ?_);rintro e w2 ⟨rfl,hg2⟩;have HG2:=hide hg2;clear hg2))
 go_ret
 exact ⟨rfl,below_step (below_step HB.out HG1.out) HG2.out⟩
end Go.Proofs.YtgmkckjedngkdaaGreatDoor
namespace Go.Proofs.YtgmkckjedngkdaaGreatDoor
open Go.ChangeShapes Go.WideShapes Go.ChangeAt Go.RowKit
abbrev vw1:Vw:=⟨1,0,0,0,0⟩
theorem vw1_ok:vw1.ok:=⟨by decide,by decide,by decide,by decide,by decide⟩
def sr0 (d:Nat) (q:Int) (zl zm zc:Fz):Sr:=⟨stepK q d4 [zl,zm,zc] 4 true,vw1,1,[],1,d⟩
structure New3 (zl zm zc:Fz):Prop where
 l:zl.L=[]
 m:zm.L.length≤89
 c:zc.L.length≤23
set_option maxRecDepth 100000 in
set_option maxHeartbeats 3200000 in
theorem create_st {w:World} {base p:Nat} {X:Nat→Prop} {q:Int} (H:DiskO w base p X (dk0 q)) (he:ErrOk w) (hb2:2≤base) (hq:600≤q) :
 Calls Tryz.prog 58 #[ptv p] w fun e w'=>∃ s zl zm zc,e=.returned (.tuple #[ptv s,.int .i64 0])∧New3 zl zm zc∧StoreO w' base s (Xw X w w') (sr0 p q zl zm zc)∧Sets X w w':=by
 have hbd:=H.bd
 have hbl:base≤w.heap.size:=by obtain ⟨h,H⟩:=H;exact H.base_le
 have HL:=hide (list_none H)
 have HH:=hide H
 have HE:=hide he
 have HMIN:=hide (show 2≤base∧600≤q∧base≤w.heap.size from ⟨hb2,hq,hbl⟩)
 have HBD:=hide hbd
 have HX:=hide (fun (W:World) (hs:w.heap.size≤W.heap.size)=>Xw.bd hbd hbl hs)
 clear H he hb2 hq hbd hbl
 go_enter Tryz.func58,Tryz.ntmps58
 go_wp2_with ((with_reducible refine (HL.out).mono ?_);rintro e w1 ⟨A,c,rfl,hg1⟩;have HG1:=hide hg1;clear hg1)
 go_loopw [14] (fun i wr=>i=.int .i64 0∧wr=w1) (fun _ _=>0)
 case atStart=>exact ⟨rfl,rfl⟩
 case round =>
 obtain ⟨rfl,rfl⟩:=hrel
 obtain ⟨w1,rfl⟩:∃ wx,wx=wr:=⟨_,rfl⟩
 have HLN:=hide (lnew_any (nm:=log1) (HH.out.below HG1.out) ok_log1 (by kernel_rfl:Maps.has (dk0 q).D (nkey log1)=false) rfl rfl (by show (0:Nat) < 64;omega) (by show (0:Nat) < 1000;omega) (by show (0:Nat) < 900000;omega))
 go_wp2_with fail
 refine (Calls.mono HLN.out ?_);rintro e w2 ⟨g,z0,Y,rfl,hla,hg0,hz1,hz2,hdo,hY,hYg,hgl,hS2⟩
 have HS2:Hid (Sets X w w2):=hide ((Sets.of (S:=X) HG1.out).trans hS2 (fun _ _ e=>e))
 have HLA:=hide hla
 have HD2:Hid (DiskO w2 base p Y (stepK q d1 [z0] 1 false)):=hide hdo
 have HY:=hide (And.intro (show ∀ b,Y b→Xw X w w2 b from fun b e=>Xw.more HG1.out.size b (hY b e)) hYg)
 have HZ0:=hide (And.intro hz1 hz2)
 have HGL:Hid (w.heap.size≤g∧g < w2.heap.size):=hide ⟨Nat.le_trans HG1.out.size hg0,hgl⟩
 clear hla hg0 hz1 hz2 hdo hY hYg hgl hS2 HLN HL
 have HLS:=hide (lsync_any (nm:=log1) HD2.out HLA.out ok_log1 (i:=0) ⟨(by kernel_rfl:Maps.has d1 (nkey log1)=true),fun z=>by kernel_rfl⟩ (z:=z0) rfl)
 go_wp2_with fail
 refine (Calls.mono HLS.out ?_);rintro e w3 ⟨ee,K3,rfl,hto,hdo,hS3⟩
 have hee:ee=0∧K3=stepK q d1 [{ z0 with last:=z0.L.length }] 1 false:=by
  rcases hto with ⟨_,_,hbad⟩ | ⟨rfl,_,rfl⟩
  ·cases hbad
  ·exact ⟨rfl,rfl⟩
 obtain ⟨rfl,rfl⟩:=hee
 have HZ1:Hid (({ z0 with last:=z0.L.length }:Fz).L=[]):=hide HZ0.out.1
 generalize ({ z0 with last:=z0.L.length }:Fz)=zl at *
 have HS3:Hid (Sets X w w3):=hide (HS2.out.trans hS3 (fun i hi e=>xw_old hi (HY.out.1 i e)))
 have HD3:=hide hdo
 have HLA3:Hid (LogAt w3 g p log1):=hide (HLA.out.sets hS3 HY.out.2)
 have hs23:=hS3.size
 have HY3:Hid ((∀ b,Xw Y w2 w3 b→Xw X w w3 b)∧¬ Xw Y w2 w3 g):=hide ⟨fun b e=>by
  rcases e with e | e
  ·rcases HY.out.1 b e with e | e
   ·exact .inl e
   ·exact .inr ⟨e.1,by omega⟩
  ·exact .inr ⟨Nat.le_trans HS2.out.size e.1,e.2⟩,fun e=>by
  rcases e with e | e
  ·exact HY.out.2 e
  ·have:=HGL.out.2;omega⟩
 have HE3:Hid (ErrOk w3):=hide (HE.out.sets HS3.out (by have:=HMIN.out;omega) (fun e=>by have:=HBD.out _ e;have:=HMIN.out;omega))
 have hgl3:g < w3.heap.size:=by have:=HGL.out.2;omega
 clear hto hdo hS3 HLS HLA HD2
 generalize Xw Y w2 w3=Y3 at *
 have HMN:=hide (mannew_any (v:=vw1) HD3.out HE3.out HMIN.out.1 vw1_ok HZ1.out (by omega) HMIN.out.2.1)
 go_wp2_with fail
 refine (Calls.mono HMN.out ?_);rintro e w4 ⟨m,zm,zc,rfl,hzm,hzc,⟨Y4,hdo,hY4,hYm⟩,hm0,hml,hma,hS4⟩
 have HS4:Hid (Sets X w w4):=hide (HS3.out.trans hS4 (fun i hi e=>xw_old hi (HY3.out.1 i e)))
 have hs34:=hS4.size
 have HLA4:Hid (LogAt w4 g p log1):=hide (HLA3.out.sets hS4 HY3.out.2)
 have HD4:=hide hdo
 have HMA4:=hide hma
 have HY4:Hid ((∀ b,Y4 b→Xw X w w4 b)∧¬ Y4 g∧¬ Y4 m):=hide ⟨fun b e=>by
  rcases hY4 b e with e | e
  ·rcases HY3.out.1 b e with e | e
   ·exact .inl e
   ·exact .inr ⟨e.1,by omega⟩
  ·exact .inr ⟨Nat.le_trans HS3.out.size e.1,e.2⟩,fun e=>by
  rcases hY4 g e with e | e
  ·exact HY3.out.2 e
  ·omega,hYm⟩
 have HNW:Hid (New3 zl zm zc):=hide ⟨HZ1.out,by rw [hzm,frameT_len];have:=bodyE_len (wholeE vw1);omega,by rw [hzc,frameT_len];have:=putT_len 1;omega⟩
 have hgl4:g < w4.heap.size:=by omega
 have hgm:g < m:=by omega
 clear hzm hzc hdo hY4 hYm hm0 hma hS4 HMN HD3 HLA3
 go_wp2_with fail
 refine (Calls.mono (mnew_any w4) ?_);rintro e w5 ⟨b,pm,Hd,rfl,hme,hmo,hb5⟩
 have HB5:=hide hb5
 have HME:=hide hme
 have HMO:=hide hmo
 clear hb5 hme hmo
 go_wp2_with fail
 go_returns
 have hb6:=below_alloc (Below.refl w5.heap.size w5) (.cells (stL ⟨p,m,g,b,pm,[Hd],0,.slice none 0 0,0,Y4⟩).toArray 139)
 have hz6:=heap_alloc_new w5 (.cells (stL ⟨p,m,g,b,pm,[Hd],0,.slice none 0 0,0,Y4⟩).toArray 139)
 have hs56:(w5.alloc (.cells (stL ⟨p,m,g,b,pm,[Hd],0,.slice none 0 0,0,Y4⟩).toArray 139)).heap.size=w5.heap.size+1:=by simp
 obtain ⟨w6,hw6⟩:∃ w6,w5.alloc (.cells (stL ⟨p,m,g,b,pm,[Hd],0,.slice none 0 0,0,Y4⟩).toArray 139)=w6:=⟨_,rfl⟩
 rw [hw6] at hb6 hz6 hs56
 have hb46:=below_step HB5.out hb6
 have hlt5:=HME.out.lt
 have hs45:=HB5.out.size
 have hsx:=HS4.out.size
 have hS6:Sets X w w6:=HS4.out.trans (Sets.of (S:=X) hb46) (fun _ _ e=>e)
 have hst:StoreV w6 base w5.heap.size (Xw X w w6) (sr0 p q zl zm zc) ⟨p,m,g,b,pm,[Hd],0,.slice none 0 0,0,Y4⟩:={
  box:=hz6
  log:=HLA4.out.sets (Sets.of (S:=fun _=>False) hb46) id
  man:=HMA4.out.sets (Sets.of (S:=fun _=>False) hb46) id
  disk:=HD4.out.below hb46
  mem:=HME.out.below hb6
  st:=Sl.nil_ _
  inX:=⟨.inr ⟨by omega,by omega⟩,.inr ⟨HGL.out.1,by show g < _;omega⟩,.inr ⟨by show w.heap.size≤m;have:=HGL.out;omega,by show m < _;omega⟩,fun x e=>by
   rcases HY4.out.1 x e with e | e
   ·exact .inl e
   ·exact .inr ⟨e.1,by omega⟩,fun x e=>.inr ⟨by have:=HMO.out x e;omega,by have:=hlt5 x e;omega⟩,fun x e=>(by cases e)⟩
  bd:=HX.out _ hS6.size
  apd:=fun x e=>by
   have hx4:=(HD4.out.bd x e).2
   refine ⟨by omega,fun e2=>HY4.out.2.1 (by rw [show g=x from e2.symm];exact e),fun e2=>HY4.out.2.2 (by rw [show m=x from e2.symm];exact e),fun e2=>by have:=HMO.out x e2;omega,fun e2=>(by cases e2)⟩
  apm:=fun x e=>by
   have h1:=HMO.out x e
   have h2:=hlt5 x e
   exact ⟨by omega,by show x ≠ g;omega,by show x ≠ m;omega,fun e2=>(by cases e2)⟩
  aps:=⟨fun e2=>(by cases e2),fun e2=>(by cases e2),fun e2=>(by cases e2),by show w5.heap.size ≠ g;omega,by show w5.heap.size ≠ m;omega,by show g ≠ m;omega⟩
  files:=⟨rfl,rfl,rfl,rfl,zl,zm,zc,rfl⟩
  few:=⟨by simp [sr0],by simp [sr0]⟩
  good:=vw1_ok
  dp:=rfl }
 have hfin:StoreO w6 base w5.heap.size (Xw X w w6) (sr0 p q zl zm zc)∧Sets X w w6:=⟨⟨_,hst⟩,hS6⟩
 rw [← hw6] at hfin
 exact ⟨w5.heap.size,zl,zm,zc,rfl,HNW.out,hfin.1,hfin.2⟩
end Go.Proofs.YtgmkckjedngkdaaGreatDoor
namespace Go.Proofs.YtgmkckjedngkdaaGreatDoor
open Go.ChangeShapes Go.WideShapes Go.ChangeAt Go.RowKit
set_option maxRecDepth 100000 in
set_option maxHeartbeats 1600000 in
theorem sopen_st {w:World} {base p:Nat} {X:Nat→Prop} {q:Int} (H:DiskO w base p X (dk0 q)) (he:ErrOk w) (hb2:2≤base) (hq:600≤q) :
 Calls Tryz.prog 22 #[ptv p] w fun e w'=>∃ s zl zm zc,e=.returned (.tuple #[ptv s,.int .i64 0])∧New3 zl zm zc∧StoreO w' base s (Xw X w w') (sr0 p q zl zm zc)∧Sets X w w':=by
 have hbd:=H.bd
 have hbl:base≤w.heap.size:=by obtain ⟨h,H⟩:=H;exact H.base_le
 have HIN:=hide (isnew_yes H)
 have hdd:Calls Tryz.prog 56 #[ptv p] w fun e w'=>e=.returned (.bool false)∧w'=w:=by
  obtain ⟨h,H⟩:=H
  obtain ⟨_,⟨_,_,_,_,_,_,c6,_⟩,_⟩:=H.facts
  exact dead_any p false w c6
 have HDD:=hide hdd
 have HCR:=hide (fun (W:World) (hW:Below w.heap.size w W)=>create_st (H.below hW) (he.below hW (by omega)) hb2 hq)
 have HX:=hide (fun (W:World) (hs:w.heap.size≤W.heap.size)=>Xw.bd hbd hbl hs)
 clear H he hb2 hq hdd hbd
 go_enter Tryz.func22,Tryz.ntmps22
 go_wp2_with (first
  | ((with_reducible refine (HDD.out).mono ?_);rintro e w1 ⟨rfl,rfl⟩)
  | ((with_reducible refine (HIN.out).mono ?_);rintro e w2 ⟨rfl,hg2⟩;have HC2:=hide (HCR.out w2 hg2);have HG2:=hide hg2;clear hg2)
  | ((with_reducible refine (HC2.out).mono ?_);rintro e w3 ⟨s,zl,zm,zc,rfl,hn,hst,hS⟩;have HN:=hide hn;have HST:=hide hst;have HS:=hide hS;clear hn hst hS))
 go_returns
 have hS:=HS.out
 have hs2:=HG2.out.size
 have hS2:Sets X w1 w3:=(Sets.of (S:=X) HG2.out).trans hS (fun _ _ e=>e)
 exact ⟨s,zl,zm,zc,rfl,HN.out,HST.out.wide (Xw.more hs2) (HX.out _ hS2.size),hS2⟩
set_option maxRecDepth 100000 in
set_option maxHeartbeats 800000 in
theorem sown_any (A:Option Addr) (c:Nat) (L:List It) (w:World) (hL:ItemsAt w A L) (hl:L.length≤100000):Calls Tryz.prog 88 #[.slice A L.length c] w (RetOw L w):=by
 have HL:=hide hL
 have HN:=hide hl
 clear hL hl
 go_enter Tryz.func88,Tryz.ntmps88
 go_wp2_with (at_builtin;refine wpList_app_row rfl (.const (.slice none 0 0)) (.tmp 3) 31 54 _ 5 40 rfl Tryz.underlying31 Tryz.infoItem rfl (by omega) It.cells_len It.cells_one (by omega) w.heap.size _ [] rfl (OwnL.nil_ _ _ _ _ _) A c _ L rfl rfl HL.out (by have:=HN.out;simp only [List.length_nil];omega) (Nat.le_refl _) ?_;intro v1 u1 ho1 hg1 hm1;have HO:=hide ho1;have HG:=hide hg1;clear ho1 hg1 hm1)
 go_ret
 have h1:=HO.out
 rw [List.nil_append] at h1
 exact ⟨_,rfl,h1,(Below.refl _ w).grown HG.out (Nat.le_refl _) (fun j hj=>by cases hj)⟩
theorem StoreV.facts {w:World} {base s:Nat} {X:Nat→Prop} {R:Sr} {h:Sh} (H:StoreV w base s X R h):s < w.heap.size∧(w.cell? ⟨s,0,none⟩=some (ptv h.p)∧w.cell? ⟨s,1,none⟩=some (ptv h.m)∧w.cell? ⟨s,2,none⟩=some (ptv h.g)∧w.cell? ⟨s,3,none⟩=some (ptv h.b)∧w.cell? ⟨s,4,none⟩=some (.slice none 0 0)∧w.cell? ⟨s,5,none⟩=some h.vs∧w.cell? ⟨s,6,none⟩=some (.int .i64 h.sz)∧w.cell? ⟨s,10,none⟩=some (.bool false))∧∀ o,w.frozen? ⟨s,o,none⟩=false :=
 ⟨(Array.getElem?_eq_some_iff.1 H.box).1,⟨(cell_of_row w s 0 _ _ _ H.box).trans rfl,(cell_of_row w s 1 _ _ _ H.box).trans rfl,(cell_of_row w s 2 _ _ _ H.box).trans rfl,(cell_of_row w s 3 _ _ _ H.box).trans rfl,(cell_of_row w s 4 _ _ _ H.box).trans rfl,(cell_of_row w s 5 _ _ _ H.box).trans rfl,(cell_of_row w s 6 _ _ _ H.box).trans rfl,(cell_of_row w s 10 _ _ _ H.box).trans rfl⟩,fun o=>by simp [World.frozen?,H.box]⟩
set_option maxRecDepth 100000 in
set_option maxHeartbeats 800000 in
theorem sstate_any {w:World} {base s:Nat} {X:Nat→Prop} {R:Sr} (H:StoreO w base s X R):Calls Tryz.prog 33 #[ptv s] w (RetOw R.S w):=by
 obtain ⟨h,H⟩:=H
 obtain ⟨_,⟨_,_,_,_,_,c5,_⟩,_⟩:=H.facts
 obtain ⟨A,c,hv,hr,_⟩:=H.st
 rw [hv] at c5
 have HO:=hide (sown_any A c R.S w hr (by have:=H.few;omega))
 clear H hv hr
 go_enter Tryz.func33,Tryz.ntmps33
 go_wp2_with ((with_reducible refine (HO.out).mono ?_);rintro e w1 ⟨v,rfl,ho,hg⟩;have HV:=hide ho;have HG:=hide hg;clear ho hg)
 go_ret
 exact ⟨_,rfl,HV.out,HG.out⟩
set_option maxRecDepth 100000 in
set_option maxHeartbeats 800000 in
theorem sseries_any {w:World} {base s:Nat} {X:Nat→Prop} {R:Sr} (H:StoreO w base s X R) (n:Int):Calls Tryz.prog 29 #[ptv s,.int .i64 n] w (RetOf (R.S.filter (serP n)) w):=by
 obtain ⟨h,H⟩:=H
 obtain ⟨_,⟨_,_,_,_,_,c5,_⟩,_⟩:=H.facts
 obtain ⟨A,c,hv,hr,_⟩:=H.st
 rw [hv] at c5
 have HO:=hide (pseries_any A c R.S n w hr (by have:=H.few;omega))
 clear H hv hr
 go_enter Tryz.func29,Tryz.ntmps29
 go_wp2_with ((with_reducible refine (HO.out).mono ?_);rintro e w1 ⟨v,rfl,ho,hg⟩;have HV:=hide ho;have HG:=hide hg;clear ho hg)
 go_ret
 exact ⟨_,rfl,HV.out,HG.out⟩
theorem istoreU_any (b o:Nat) (m:Int) (u:Value) (w:World) (h:w.cell? ⟨b,o,none⟩=some u) (hz:w.frozen? ⟨b,o,none⟩=false) :
 Calls Tryz.prog 133 #[.pointer (some ⟨b,o,none⟩),.int .i64 m] w fun e w'=>e=.returned (.tuple #[])∧w'=w.setCell ⟨b,o,none⟩ (.int .i64 m):=by
 have hst:=run_call_store (P:=Tryz.prog) Tryz.func201 (by kernel_rfl) (by kernel_rfl) (by kernel_rfl) (by kernel_rfl) (k:=.i64) (y:=m) h hz
 go_enter Tryz.func133,Tryz.ntmps133
 go_wp2
 go_end0
 exact ⟨rfl,rfl⟩
theorem st_set {w:World} {s:Nat} {l:List Value} (o:Nat) (v:Value) (H:w.heap[s]? = some (.cells l.toArray 139 (0,0))):(w.setCell ⟨s,o,none⟩ v).heap[s]? = some (.cells (l.set o v).toArray 139 (0,0)):=by
 simp [World.setCell,Array.getElem?_modify,H]
set_option maxRecDepth 100000 in
set_option maxHeartbeats 1600000 in
theorem set_box {w:World} {s:Nat} {h:Sh} (H:w.heap[s]? = some (.cells (stL h).toArray 139 (0,0))) {A0:Option Addr} {n0 cc0:Nat} (hv:h.vs=.slice A0 n0 cc0) (A:Option Addr) (n c:Nat) :
 Calls Tryz.prog 68 #[ptv s,.slice A n c] w fun e w'=>e=.returned (.tuple #[])∧w'.heap[s]? = some (.cells (stL { h with vs:=.slice A n c,sz:=n }).toArray 139 (0,0))∧Sets (fun g=>g=s) w w':=by
 have c5:w.cell? ⟨s,5,none⟩=some (.slice A0 n0 cc0):=by rw [← hv];exact (cell_of_row w s 5 _ _ _ H).trans rfl
 have cz:∀ o,w.frozen? ⟨s,o,none⟩=false:=fun o=>by simp [World.frozen?,H]
 have cz5:=cz 5
 have h1:=st_set 5 (.slice A n c) H
 have hIS:=istoreU_any s 6 n (.int .i64 h.sz) (w.setCell ⟨s,5,none⟩ (.slice A n c)) ((cell_of_row _ s 6 _ _ _ h1).trans rfl) (by simp [World.frozen?,h1])
 have HIS:=hide hIS
 have H2:=hide (st_set 6 (.int .i64 n) h1)
 have HS:Hid (Sets (fun g=>g=s) w ((w.setCell ⟨s,5,none⟩ (.slice A n c)).setCell ⟨s,6,none⟩ (.int .i64 n))):=hide ((sets1 w s 5 _).set (fun _=>rfl) 6 _)
 clear hv H cz h1 hIS
 go_enter Tryz.func68,Tryz.ntmps68
 go_wp2_with ((with_reducible refine (HIS.out).mono ?_);rintro e w1 ⟨rfl,rfl⟩)
 go_end0
 exact ⟨rfl,H2.out,HS.out⟩
end Go.Proofs.YtgmkckjedngkdaaGreatDoor
namespace Go.Proofs.YtgmkckjedngkdaaGreatDoor
open Go.ChangeShapes Go.WideShapes Go.ChangeAt Go.RowKit
theorem StoreV.disked {w w':World} {base s:Nat} {X:Nat→Prop} {R:Sr} {h:Sh} (H:StoreV w base s X R h) {K:Dk} (k:Sets (fun b=>h.Xd b ∨ b=h.g) w w') (hl:LogAt w' h.g h.p log1) (hd:DiskO w' base h.p (Xw h.Xd w w') K)
 (hf:K.D=d4∧K.dead=false∧K.stop=0∧K.calm=true∧∃ zl zm zc,K.Z=[zl,zm,zc]):StoreV w' base s (Xw X w w') { R with K:=K } { h with Xd:=Xw h.Xd w w' }:=by
 have hbl:base≤w.heap.size:=by have:=H.bd s H.inX.1;omega
 have hs:=(H.bd s H.inX.1).2
 have hg:=(H.bd h.g H.inX.2.1).2
 have hm:=(H.bd h.m H.inX.2.2.1).2
 have hnot:∀ x,(h.Xd x ∨ x=h.g)→X x:=fun x e=>by
  rcases e with e | e
  ·exact H.inX.2.2.2.1 x e
  ·rw [e];exact H.inX.2.1
 have hmem:∀ c,MBlk h.b h.pm h.F c→c < w.heap.size:=H.mem.lt
 exact {
  box:=(k.block s hs (fun e=>by
   rcases e with e | e
   ·exact (H.apd s e).1 rfl
   ·exact H.aps.2.2.2.1 e)).trans H.box
  log:=hl
  man:=H.man.sets k (fun e=>by
   rcases e with e | e
   ·exact (H.apd h.m e).2.2.1 rfl
   ·exact H.aps.2.2.2.2.2 e.symm)
  disk:=hd
  mem:=H.mem.sets k (fun c hc e=>by
   rcases e with e | e
   ·exact (H.apd c e).2.2.2.1 hc
   ·exact (H.apm c hc).2.1 e)
  st:=by
   obtain ⟨A,c,e,hr,h1,h2⟩:=H.st
   refine ⟨A,c,e,fun hne=>?_,h1,h2⟩
   obtain ⟨b,off,rfl,hlt,hc⟩:=hr hne
   have hob:h.vs.ownBlock=some b:=by rw [e];rfl
   have hnb:¬ (h.Xd b ∨ b=h.g):=fun e2=>by
    rcases e2 with e2 | e2
    ·exact (H.apd b e2).2.2.2.2 hob
    ·rw [e2] at hob;exact H.aps.2.1 hob
   exact ⟨b,off,rfl,Nat.lt_of_lt_of_le hlt k.size,fun j hj i u hu=>(World.cell?_of_block (k.block b hlt hnb)).trans (hc j hj i u hu)⟩
  inX:=⟨.inl H.inX.1,.inl H.inX.2.1,.inl H.inX.2.2.1,fun x e=>by
   rcases e with e | e
   ·exact .inl (H.inX.2.2.2.1 x e)
   ·exact .inr e,fun c e=>.inl (H.inX.2.2.2.2.1 c e),fun x e=>.inl (H.inX.2.2.2.2.2 x e)⟩
  bd:=Xw.bd H.bd hbl k.size
  apd:=fun x e=>by
   rcases e with e | e
   ·exact H.apd x e
   ·refine ⟨by omega,by show x ≠ h.g;omega,by show x ≠ h.m;omega,fun e2=>by have:=hmem x e2;omega,fun e2=>?_⟩
    have:=(H.bd x (H.inX.2.2.2.2.2 x e2)).2
    omega
  apm:=H.apm
  aps:=H.aps
  files:=hf
  few:=H.few
  good:=H.good
  dp:=H.dp }
structure SameD (K K':Dk):Prop where
 L:K'.Z.map Fz.L=K.Z.map Fz.L
 q:K'.q=K.q
theorem hits {K:Dk} {zl zm zc:Fz} (h:K.Z=[zl,zm,zc]):K.Z[0]? = some zl:=by rw [h];rfl
set_option maxRecDepth 100000 in
set_option maxHeartbeats 1600000 in
theorem ssync_any {w:World} {base s:Nat} {X:Nat→Prop} {R:Sr} (H:StoreO w base s X R):Calls Tryz.prog 83 #[ptv s] w fun e w'=>∃ K',e=.returned (.int .i64 0)∧SameD R.K K'∧StoreO w' base s (Xw X w w') { R with K:=K' }∧Sets X w w':=by
 obtain ⟨h,H⟩:=H
 obtain ⟨_,⟨_,_,c2,_,_,_,_,c10⟩,_⟩:=H.facts
 obtain ⟨hD,hd,hst,hcm,zl,zm,zc,hZ⟩:=H.files
 have hls:=lsync_any (nm:=log1) H.disk H.log ok_log1 (i:=0) (by rw [hD];exact hit_log) (hits hZ)
 have HLS:=hide hls
 have HH:=hide H
 have HF:=hide (And.intro hD (And.intro hd (And.intro hst (And.intro hcm hZ))))
 clear H hD hd hst hcm hZ hls
 go_enter Tryz.func83,Tryz.ntmps83
 go_upto_region 4 with ((with_reducible refine (HLS.out).mono ?_);rintro e w1 ⟨ee,K1,rfl,hto,hdo,hS⟩)
 have hee:ee=0∧K1={ R.K with Z:=[{ zl with last:=zl.L.length },zm,zc] }:=by
  rcases hto with ⟨_,_,hbad⟩ | ⟨rfl,_,hk⟩
  ·rw [HF.out.2.1] at hbad;cases hbad
  ·refine ⟨rfl,?_⟩
   rw [hk,callD_alive HF.out.2.1 HF.out.2.2.1,HF.out.2.2.2.2]
   rfl
 obtain ⟨rfl,hK1⟩:=hee
 have HFIN:Hid (SameD R.K K1∧StoreO w1 base s (Xw X w w1) { R with K:=K1 }∧Sets X w w1):=hide (by
  have hlog:LogAt w1 h.g h.p log1:=HH.out.log.sets hS (fun e=>(HH.out.apd _ e).2.1 rfl)
  have hf:=HF.out
  refine ⟨⟨by rw [hK1];show [zl.L,zm.L,zc.L]=_;rw [hf.2.2.2.2];rfl,by rw [hK1]⟩,⟨_,HH.out.disked (hS.up (fun _ e=>.inl e)) hlog hdo ⟨by rw [hK1];exact hf.1,by rw [hK1];exact hf.2.1,by rw [hK1];exact hf.2.2.1,by rw [hK1];exact hf.2.2.2.1,_,_,_,by rw [hK1]⟩⟩,hS.up (fun g e=>HH.out.inX.2.2.2.1 g e)⟩)
 clear hto hdo hS HLS hK1 HF HH
 go_wp2_with fail
 go_ret
 exact ⟨K1,rfl,HFIN.out.1,HFIN.out.2.1,HFIN.out.2.2⟩
theorem StoreV.moved {w w1 w2:World} {base s:Nat} {X:Nat→Prop} {R:Sr} {h:Sh} (H:StoreV w base s X R h) {F:List Nd} {nm:Int} {A:Option Addr} {n c:Nat} {S2:List It} {mf:Nat}
 (km:Sets (MBlk h.b h.pm h.F) w w1) (hm:MemAt w1 h.b h.pm F false nm) (hmo:∀ x,MBlk h.b h.pm F x→MBlk h.b h.pm h.F x ∨ w.heap.size≤x)
 (ks:Sets (fun g=>g=s) w1 w2) (hbox:w2.heap[s]? = some (.cells (stL { h with vs:=.slice A n c,sz:=n }).toArray 139 (0,0)))
 (hv:Sl w1 (.slice A n c) S2) (hvx:∀ x,(Value.slice A n c).ownBlock=some x→X x∧x ≠ s∧x ≠ h.g∧x ≠ h.m∧¬ h.Xd x∧¬ MBlk h.b h.pm h.F x∧x < w.heap.size) (hS2:S2.length≤1500) (hF:F.length≤mf) :
 StoreV w2 base s (Xw X w w2) { R with S:=S2,mf:=mf } { h with vs:=.slice A n c,sz:=n,F:=F,nm:=nm }:=by
 have hbl:base≤w.heap.size:=by have:=H.bd s H.inX.1;omega
 have hs1:=km.size
 have hs2:=ks.size
 have hsl:=(H.bd s H.inX.1).2
 have hgl:=(H.bd h.g H.inX.2.1).2
 have hml:=(H.bd h.m H.inX.2.2.1).2
 have hlt:∀ x,MBlk h.b h.pm F x→x < w1.heap.size:=hm.lt
 have hms:¬ MBlk h.b h.pm F s:=fun e=>by
  rcases hmo s e with e | e
  ·exact (H.apm s e).1 rfl
  ·omega
 exact {
  box:=hbox
  log:=(H.log.sets km (fun e=>(H.apm _ e).2.1 rfl)).sets ks (fun e=>H.aps.2.2.2.1 e.symm)
  man:=(H.man.sets km (fun e=>(H.apm _ e).2.2.1 rfl)).sets ks (fun e=>H.aps.2.2.2.2.1 e.symm)
  disk:=(H.disk.sets km (fun g hg e=>(H.apd g hg).2.2.2.1 e)).sets ks (fun g hg e=>(H.apd g hg).1 e)
  mem:=hm.sets ks (fun x hx e=>hms (e ▸ hx))
  st:=by
   obtain ⟨A2,c2,e,hr,h1,h2⟩:=hv
   refine ⟨A2,c2,e,fun hne=>?_,h1,h2⟩
   obtain ⟨b,off,rfl,hlt2,hc⟩:=hr hne
   have hob:(Value.slice A n c).ownBlock=some b:=by rw [e];rfl
   exact ⟨b,off,rfl,Nat.lt_of_lt_of_le hlt2 ks.size,fun j hj i u hu=>(World.cell?_of_block (ks.block b hlt2 (hvx b hob).2.1)).trans (hc j hj i u hu)⟩
  inX:=⟨.inl H.inX.1,.inl H.inX.2.1,.inl H.inX.2.2.1,fun x e=>.inl (H.inX.2.2.2.1 x e),fun x e=>by
   rcases hmo x e with e2 | e2
   ·exact .inl (H.inX.2.2.2.2.1 x e2)
   ·exact .inr ⟨e2,by have:=hlt x e;omega⟩,fun x e=>.inl (hvx x e).1⟩
  bd:=Xw.bd H.bd hbl (by omega)
  apd:=fun x e=>by
   have h1:=H.apd x e
   have h2:=(H.disk.bd x e).2
   refine ⟨h1.1,h1.2.1,h1.2.2.1,fun e2=>?_,fun e2=>(hvx x e2).2.2.2.2.1 e⟩
   rcases hmo x e2 with e3 | e3
   ·exact h1.2.2.2.1 e3
   ·omega
  apm:=fun x e=>by
   rcases hmo x e with e2 | e2
   ·have h1:=H.apm x e2
    exact ⟨h1.1,h1.2.1,h1.2.2.1,fun e3=>(hvx x e3).2.2.2.2.2.1 e2⟩
   ·exact ⟨by omega,by show x ≠ h.g;omega,by show x ≠ h.m;omega,fun e3=>by have:=(hvx x e3).2.2.2.2.2.2;omega⟩
  aps:=⟨fun e=>(hvx s e).2.1 rfl,fun e=>(hvx h.g e).2.2.1 rfl,fun e=>(hvx h.m e).2.2.2.1 rfl,H.aps.2.2.2.1,H.aps.2.2.2.2.1,H.aps.2.2.2.2.2⟩
  files:=H.files
  few:=⟨hS2,hF⟩
  good:=H.good
  dp:=H.dp }
end Go.Proofs.YtgmkckjedngkdaaGreatDoor
