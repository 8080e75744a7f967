/- A part of the proof that TopMajorityLaw holds: XZDskN, XZDskS, XZDskL, XZLog. Conditions: as typed. -/
import Derived.Test.YtgmkckjedngkdaaGreatDoorTm13
import Derived.Test.YtgmkckjedngkdaaGreatDoorTm14
import Derived.Test.YtgmkckjedngkdaaGreatDoorTm16
import Derived.Shelf.SlMaps.Clone
set_option linter.unusedVariables false
set_option linter.unusedSimpArgs false
namespace Go.Proofs.YtgmkckjedngkdaaGreatDoor
open Go.ChangeShapes Go.WideShapes Go.ChangeAt Go.RowKit
def dk0 (q:Int):Dk:=⟨q,[],.map [],false,0,0,true⟩
set_option maxRecDepth 100000 in
set_option maxHeartbeats 1600000 in
theorem dnew_any (q:Int) (w:World) (base:Nat) (hb:base≤w.heap.size) (hq:0 < q) (hq2:q≤4611686018427387904) :
 Calls Tryz.prog 5 #[.int .i64 q] w fun e w'=>∃ p,e=.returned (ptv p)∧DiskO w' base p (fun g=>w.heap.size≤g∧g < w'.heap.size) (dk0 q)∧Below w.heap.size w w':=by
 have hmk:=run_makeMap (P:=Tryz.prog) 61 w
 have hmk2:=run_makeMap (P:=Tryz.prog) 61 (w.alloc (.map #[] 0))
 have h1:¬ q < 0:=by omega
 have h2:¬ q=0:=by omega
 have HB:=hide hb
 have HQ:=hide hq2
 have HQ1:=hide hq
 clear hb hq2
 go_enter Tryz.func5,Tryz.ntmps5
 go_wp2_with fail
 go_ret
 have hmq:max q 0=q:=by omega
 try rw [hmq]
 have n1:NamesAt (w.alloc (.map #[] 0)) w.heap.size 0 (.map []):=World.ownsMap_made w _ _ _
 have n2:NamesAt ((w.alloc (.map #[] 0)).alloc (.map #[] 0)) (w.heap.size+1) 0 (.map []):=by
  have:=World.ownsMap_made (H:=Unit) (w.alloc (.map #[] 0)) Tryz.prog 9 (plainElem Tryz.prog 3)
  rwa [World.size_alloc] at this
 have n1':=World.ownsMap.alloc n1 (.map #[] 0)
 have hbx:∀ o,(((w.alloc (.map #[] 0)).alloc (.map #[] 0)).alloc o).heap[w.heap.size+1+1]? = some o:=by
  intro o
  have:=heap_alloc_new ((w.alloc (.map #[] 0)).alloc (.map #[] 0)) o
  simp only [World.size_alloc] at this
  exact this
 have hbl:∀ o,Below w.heap.size w (((w.alloc (.map #[] 0)).alloc (.map #[] 0)).alloc o):=fun o=>below_alloc (below_alloc (below_alloc (Below.refl _ w) _) _) o
 have hBS:=HB.out
 refine ⟨_,rfl,⟨⟨.slice none 0 0,.slice none 0 0,w.heap.size,w.heap.size+1,.map [],[],0⟩,?_⟩,hbl _⟩
 exact {
  box:=hbx _
  low:=by omega
  names:=World.ownsMap.alloc n1' _
  lasted:=World.ownsMap.alloc n2 _
  two:=by show w.heap.size ≠ w.heap.size+1;omega
  files:=OwnL.nil_ _ _ _ _ _
  turns:=OwnL.nil_ _ _ _ _ _
  each:=fun z hz=>by cases hz
  far:=fun i j hi=>by cases hi
  inX:=⟨by simp;omega,by simp;omega,by simp,fun g hg=>(by cases hg),fun g hg=>(by cases hg),fun z hz=>(by cases hz)⟩
  bd:=fun g hg=>⟨by omega,hg.2⟩
  few:=⟨by simp [dk0],by simp,by simp [dk0]⟩
  led:=fun kl y hy=>by
   have h1:=hy (.lit (.int .i64 0))
   have h2:=hy (.lit (.int .i64 1))
   rw [← h1] at h2
   cases h2
  stop0:=⟨by simp [dk0],by simp [dk0]⟩
  quota:=⟨by have:=HQ1.out;simp only [dk0];omega,by have:=HQ.out;simp only [dk0];omega⟩
  calm_:=fun _=>⟨rfl,rfl⟩ }
end Go.Proofs.YtgmkckjedngkdaaGreatDoor
namespace Go.Proofs.YtgmkckjedngkdaaGreatDoor
open Go.ChangeShapes Go.WideShapes Go.ChangeAt Go.RowKit
set_option maxRecDepth 100000 in
theorem mclone_any {w:World} {b n:Nat} {D:DataW Unit} (h:NamesAt w b n D):Calls Tryz.prog 100 #[.map (some b)] w fun e w'=>e=.returned (.map (some w.heap.size))∧NamesAt w' w.heap.size n D∧Below w.heap.size w w':=by
 obtain ⟨es,clock,hb,h2⟩:=h
 have hq:=fun w=>run_eql_map_nil_sl (P:=Tryz.prog) w 61 _ _ (some b) Tryz.underlying61
 go_enter Tryz.func100,Tryz.ntmps100
 go_wp2
 rw [run_callFunc_extern Tryz.func170 (by kernel_rfl) (by kernel_rfl) (by kernel_rfl) (e:=Extern.MapsClone.clone) (by kernel_rfl),run_maps_clone_sl w 61 hb]
 simp only [Result.andThen]
 rw [Oper.upon_value]
 go_wp2
 rw [run_typeAssert_map_sl _ 61 _ _ _ _ Tryz.underlying61]
 simp only [Result.andThen]
 rw [Oper.upon_value]
 go_wp2
 go_ret
 exact ⟨rfl,⟨es,clock,heap_alloc_new _ _,h2⟩,below_alloc (Below.refl _ w) _⟩
theorem call_none_ {w:World} {base p:Nat} {X:Nat→Prop} {K:Dk} {h:Dh} (H:DiskV w base p X K h) :
 Calls Tryz.prog 191 #[ptv p,.slice none 0 0] w fun e w'=>e=.returned (.int .i64 (callE K))∧(∃ n,DiskV w' base p X (callD K) { h with calls:=n })∧Sets (fun g=>g=p) w w' :=
 call_any H none 0 [] RowAt.nil_ (by simp) (by simp)
set_option maxRecDepth 100000 in
set_option maxHeartbeats 1600000 in
theorem syncdir_in {w:World} {base p:Nat} {X:Nat→Prop} {R:Dk} {h:Dh} (H:DiskV w base p X R h) (hd:R.dead=false) (hst:R.stop=0) :
 Calls Tryz.prog 222 #[ptv p] w fun e w'=>e=.returned (.int .i64 0)∧DiskO w' base p (Xw X w w') { R with calm:=true }∧Sets X w w':=by
 have hK:callD R=R:=by unfold callD;rw [hd,hst];rfl
 have hE:callE R=0:=by unfold callE;rw [hd];rfl
 have hcl:=call_none_ H
 rw [hK,hE] at hcl
 have HCL:=hide hcl
 have HBD:=hide (fun (W:World) (hs:w.heap.size≤W.heap.size)=>Xw.bd H.bd H.base_le hs)
 clear H hK hE hcl hd hst
 go_enter Tryz.func222,Tryz.ntmps222
 go_upto_region 2 with ((with_reducible refine (HCL.out).mono ?_);rintro e w1 ⟨rfl,⟨n,h1⟩,hS⟩)
 have HS1:=hide hS
 clear HCL hS
 obtain ⟨h,hh⟩:∃ k,{ h with calls:=n }=k:=⟨_,rfl⟩
 rw [hh] at h1
 clear hh
 have HH1:=hide h1
 obtain ⟨hp1,⟨c0,c1,c2,c3,c4⟩,cz⟩:=dk_box h1.box
 obtain ⟨At,ct,hvt,_⟩:=OwnL.row Tn.len h1.turns
 rw [hvt] at c4
 have HMC:=hide (mclone_any h1.names)
 clear h1 hvt
 go_wp2_with ((with_reducible refine (HMC.out).mono ?_);rintro e w2 ⟨rfl,hn2,hb2⟩;have d3:=(hb2.cell (p:=⟨p,3,none⟩) hp1).trans c3;have d4:=(hb2.cell (p:=⟨p,4,none⟩) hp1).trans c4;have d1:=(hb2.cell (p:=⟨p,1,none⟩) hp1).trans c1;have f3:=(hb2.frozen (p:=⟨p,3,none⟩) hp1).trans (cz 3);have f4:=(hb2.frozen (p:=⟨p,4,none⟩) hp1).trans (cz 4);have HN2:=hide hn2;have HB2:=hide hb2;clear hn2 hb2)
 go_ret
 have hm:=HH1.out.box
 have hSp:Sets (fun g=>g=p) w2 ((w2.setCell ⟨p,3,none⟩ (.map (some w1.heap.size))).setCell ⟨p,4,none⟩ (.slice none 0 0)):=(sets1 w2 p 3 _).set (fun _=>rfl) 4 _
 have hS2:Sets (fun g=>g=p) w1 ((w2.setCell ⟨p,3,none⟩ (.map (some w1.heap.size))).setCell ⟨p,4,none⟩ (.slice none 0 0)):=(Sets.of (S:=fun g=>g=p) HB2.out).trans hSp (fun _ _ e=>e)
 have hb2:=dk_set 4 (.slice none 0 0) (dk_set 3 (.map (some w1.heap.size)) ((HB2.out.block p hp1).trans hm))
 have hnl:=HH1.out.names.lt
 have hnp:w1.heap.size ≠ p:=by omega
 have H:=HH1.out
 have hSX:Sets X w ((w2.setCell ⟨p,3,none⟩ (.map (some w1.heap.size))).setCell ⟨p,4,none⟩ (.slice none 0 0)):=(HS1.out.up (T:=X) (fun g e=>e ▸ H.inX.1)).trans hS2 (fun g _ e=>e ▸ H.inX.1)
 have hsz2:w1.heap.size < w2.heap.size:=World.ownsMap.lt HN2.out
 have hszf:=hSp.size
 have hsz1:=HS1.out.size
 refine ⟨rfl,⟨{ h with vt:=.slice none 0 0,bl:=w1.heap.size,DL:=R.D,T:=[] },?_⟩,hSX⟩
 exact {
  box:=hb2
  low:=H.low
  names:=H.names.sets hS2 (not_map H.box H.names)
  lasted:=HN2.out.sets hSp hnp
  two:=by show h.bn ≠ w1.heap.size;omega
  files:=H.files.sets hS2 (fun g hg e=>own_ne_box H.files H.box (by decide) (e ▸ hg))
  turns:=OwnL.nil_ _ _ _ _ _
  each:=fun z hz=>(H.each z hz).sets hS2 (box_ne (H.each z hz).box H.box (by decide)) (fun g hg e=>own_ne_box (H.each z hz).own H.box (by decide) (e ▸ hg))
  far:=H.far
  inX:=⟨.inl H.inX.1,.inl H.inX.2.1,.inr ⟨hsz1,by show w1.heap.size < _;omega⟩,fun g e=>.inl (H.inX.2.2.2.1 g e),fun g e=>(by cases e),fun y hy=>⟨.inl (H.inX.2.2.2.2.2 y hy).1,fun g e=>.inl ((H.inX.2.2.2.2.2 y hy).2 g e)⟩⟩
  bd:=HBD.out _ hSX.size
  few:=⟨H.few.1,Nat.zero_le _,H.few.2.2⟩
  led:=H.led
  stop0:=H.stop0
  quota:=H.quota
  calm_:=fun _=>⟨rfl,rfl⟩ }
end Go.Proofs.YtgmkckjedngkdaaGreatDoor
namespace Go.Proofs.YtgmkckjedngkdaaGreatDoor
open Go.ChangeShapes Go.WideShapes Go.ChangeAt Go.RowKit Go.Maps Go.Sort
abbrev nmS (l:List UInt8):ByteArray:=⟨l.toArray⟩
theorem size_le_maxLen {w:World} {b n:Nat} {D:DataW Unit} (h:NamesAt w b n D) (hn:Maps.size D≤1000):Maps.size D≤maxLen:=by unfold maxLen;omega
set_option maxRecDepth 100000 in
set_option maxHeartbeats 800000 in
theorem list_any {w:World} {base p:Nat} {X:Nat→Prop} {R:Dk} {h:Dh} (H:DiskV w base p X R h) (hd:R.dead=false) (hs:Maps.size R.D≤1000) :
 Calls Tryz.prog 119 #[ptv p] w fun e w'=>∃ v NL,e=.returned v∧OwnL (one1 strv) 1 9 w.heap.size w' v NL∧(∃ ss:List (List UInt8),NL=ss.map nmS∧ss.Perm (strKeys R.D))∧Below w.heap.size w w':=by
 obtain ⟨_,⟨_,_,c2,_,_,_,c6,_⟩,_⟩:=H.facts
 rw [hd] at c6
 have HD:=hide (dead_any p false w c6)
 have HK:=hide (mkeys_any (some h.bn) w)
 have HSRT:=hide (msorted_any h.bn (Maps.size R.D) R.D _ w H.names (size_le_maxLen H.names hs) (by omega))
 clear c6 hd H hs
 go_enter Tryz.func119,Tryz.ntmps119
 go_wp2_with (first
  | ((with_reducible refine (HD.out).mono ?_);rintro e w1 ⟨rfl,rfl⟩)
  | ((with_reducible refine (HK.out).mono ?_);rintro e w1 ⟨rfl,rfl⟩)
  | ((with_reducible refine (HSRT.out).mono ?_);rintro e w3 ⟨v,ss,rfl,hp,ho,hn,hb⟩;have HP:=hide hp;have HO:=hide ho;have HB:=hide hb;clear hp ho hn hb))
 go_ret
 have hba:=below_alloc (Below.refl w1.heap.size w1) (.cells #[.map (some h.bn)] 61)
 have h1:=HO.out
 have e1:(((ss.mergeSort (fun x y=>decide (x≤y))).map nmS).flatMap (one1 strv))=(ss.mergeSort (fun x y=>decide (x≤y))).map encStr:=by
  induction ss.mergeSort (fun x y=>decide (x≤y)) with
  | nil=>rfl
  | cons a l ih=>rw [List.map_cons,List.flatMap_cons,ih];rfl
 refine ⟨v,(ss.mergeSort (fun x y=>decide (x≤y))).map nmS,rfl,?_,⟨_,rfl,(List.mergeSort_perm _ _).trans HP.out⟩,below_step hba HB.out⟩
 unfold OwnL
 rw [e1,List.length_map,List.length_mergeSort]
 exact ownsRow_base_a h1 (by simp)
end Go.Proofs.YtgmkckjedngkdaaGreatDoor
namespace Go.Proofs.YtgmkckjedngkdaaGreatDoor
open Go.ChangeShapes Go.WideShapes Go.ChangeAt Go.RowKit
theorem itemsT_len (L:List It):(itemsT L).length≤35 * L.length+11:=by
 unfold itemsT
 rw [List.length_append]
 have h1:=putT_len (L.length:Int)
 have h2:=rowT_len L
 omega
def batchT (L:List It):List Int:=frameT 1 (itemsT L)
theorem batchT_len (L:List It):(batchT L).length≤35 * L.length+23:=by
 unfold batchT
 rw [frameT_len]
 have:=itemsT_len L
 omega
set_option maxRecDepth 100000 in
set_option maxHeartbeats 800000 in
theorem batch_any (A:Option Addr) (c:Nat) (L:List It) (w:World) (h0:1≤L.length) (hl:L.length≤1000) (hL:ItemsAt w A L) (hW:∀ x ∈ L,x.wf) (hg:L.all goodB=true) :
 Calls Tryz.prog 227 #[.slice A L.length c] w fun e w'=>∃ v,e=.returned (.tuple #[v,.int .i64 0])∧OwnL (one1 u8v) 1 5 w.heap.size w' v (batchT L)∧Below w.heap.size w w':=by
 have HBY:=hide (bytes_good A c L w (by omega) hL hW hg)
 have HF:=hide (fun (A:Option Addr) (c:Nat) (W:World) (hL:ValsAt u8v W A (itemsT L))=>fput_any 1 A c (itemsT L) W (by omega) (by have:=itemsT_len L;omega) hL (itemsT_b hW))
 have hbl:=itemsT_len L
 have p1:¬ (L.length:Int)=0:=by omega
 have p2:((L.length:Int) == 0)=false:=by rw [beq_eq_false_iff_ne];exact p1
 have p3:¬ L.length=0:=by omega
 have hbt:Hid (batchT L=frameT 1 (itemsT L)):=hide rfl
 have p4:¬ 60000 < ((itemsT L).length:Int):=by omega
 clear hL hW hg hbl h0 hl
 go_enter Tryz.func227,Tryz.ntmps227
 go_wp2_with ((with_reducible refine (HBY.out).mono ?_);rintro e w1 ⟨v1,rfl,ho1,hg1⟩;obtain ⟨A1,c1,rfl,hr1,_,_⟩:=OwnL.vals ho1;have HFW:=hide (HF.out A1 c1 w1 hr1);have HG1:=hide hg1;clear ho1 hr1 hg1)
 refine (Calls.mono HFW.out ?_);rintro e w2 ⟨v2,rfl,ho2,hg2⟩
 have HO2:=hide ho2
 have HG2:=hide hg2
 clear ho2 hg2
 go_wp2_with fail
 go_returns
 exact ⟨v2,rfl,by rw [hbt.out];exact OwnL.base_ HO2.out HG1.out.size,below_step HG1.out HG2.out⟩
def lgL (p:Nat) (nm:ByteArray) (sz cnt:Int):List Value:=[ptv p,.string nm,.int .i64 sz,.int .i64 cnt,.bool false]
def LogAt (w:World) (g p:Nat) (nm:ByteArray):Prop:=∃ sz cnt,w.heap[g]? = some (.cells (lgL p nm sz cnt).toArray 228 (0,0))
theorem lg_cells {w:World} {g p:Nat} {nm:ByteArray} {sz cnt:Int} (h:w.heap[g]? = some (.cells (lgL p nm sz cnt).toArray 228 (0,0))) :
 w.cell? ⟨g,0,none⟩=some (ptv p)∧w.cell? ⟨g,1,none⟩=some (.string nm)∧w.cell? ⟨g,2,none⟩=some (.int .i64 sz)∧w.cell? ⟨g,3,none⟩=some (.int .i64 cnt)∧w.cell? ⟨g,4,none⟩=some (.bool false) :=
 ⟨(cell_of_row w g 0 _ _ _ h).trans rfl,(cell_of_row w g 1 _ _ _ h).trans rfl,(cell_of_row w g 2 _ _ _ h).trans rfl,(cell_of_row w g 3 _ _ _ h).trans rfl,(cell_of_row w g 4 _ _ _ h).trans rfl⟩
theorem lg_set {w:World} {g:Nat} {l:List Value} (o:Nat) (v:Value) (H:w.heap[g]? = some (.cells l.toArray 228 (0,0))):(w.setCell ⟨g,o,none⟩ v).heap[g]? = some (.cells (l.set o v).toArray 228 (0,0)):=by
 simp [World.setCell,Array.getElem?_modify,H]
theorem LogAt.sets {w w':World} {S:Nat→Prop} {g p:Nat} {nm:ByteArray} (h:LogAt w g p nm) (k:Sets S w w') (hS:¬ S g):LogAt w' g p nm:=by
 obtain ⟨sz,cnt,hb⟩:=h
 exact ⟨sz,cnt,(k.block g (Array.getElem?_eq_some_iff.1 hb).1 hS).trans hb⟩
set_option maxRecDepth 100000 in
set_option maxHeartbeats 3200000 in
theorem lput_any {w:World} {base p g:Nat} {X:Nat→Prop} {K:Dk} {nm:ByteArray} (H:DiskO w base p X K) (hg:LogAt w g p nm) (hX:¬ X g) (hn:namedB nm=true) {i:Nat} (hh:hitN K.D nm i) {z:Fz} (hz:K.Z[i]? = some z)
 (A:Option Addr) (c:Nat) (L:List It) (h0:1≤L.length) (hl:L.length≤1000) (hL:ItemsAt w A L) (hW:∀ x ∈ L,x.wf) (hgd:L.all goodB=true) (M:Nat) (hM:∀ z ∈ K.Z,z.L.length≤M) (hMs:Maps.size K.D * M≤1099511627776) :
 Calls Tryz.prog 161 #[ptv g,.slice A L.length c] w fun e w'=>∃ ee K',e=.returned (.int .i64 ee)∧AppTo K i z (batchT L) M ee K'∧DiskO w' base p (Xw X w w') K'∧LogAt w' g p nm∧Sets (fun b=>X b ∨ b=g) w w':=by
 obtain ⟨h,H⟩:=H
 obtain ⟨sz,cnt,hb⟩:=hg
 have hgl:=(Array.getElem?_eq_some_iff.1 hb).1
 have hpl:=(Array.getElem?_eq_some_iff.1 H.box).1
 have hfz:∀ o,w.frozen? ⟨g,o,none⟩=false:=fun o=>by simp [World.frozen?,hb]
 obtain ⟨c0,c1,c2,c3,c4⟩:=lg_cells hb
 have HBA:=hide (batch_any A c L w h0 hl hL hW hgd)
 have HAPP:=hide (fun (W:World) (hW:Below w.heap.size w W) (A:Option Addr) (c:Nat) (hB:ValsAt u8v W A (batchT L)) (hA:∀ a,A=some a→batchT L ≠ []→a.block ≠ p)=>append_v (H.below hW) hn hh hz A c (batchT L) hB hA (by have:=batchT_len L;omega) M hM hMs)
 have HBX:=hide hb
 have HXG:=hide hX
 have HBD:=hide (fun (W:World) (hs:w.heap.size≤W.heap.size)=>Xw.bd H.bd H.base_le hs)
 have HBL:=hide (batchT_len L)
 have HPL:=hide hpl
 clear H hn hh hz hL hW hgd hM hMs h0 hb hX hpl
 go_enter Tryz.func161,Tryz.ntmps161
 go_wp2_with ((with_reducible refine (HBA.out).mono ?_);rintro e w1 ⟨v1,rfl,ho1,hg1⟩;obtain ⟨A1,cc1,rfl,hr1,ha1,_⟩:=OwnL.row (cells:=one1 u8v) (sz:=1) (fun _=>rfl) ho1;have HR1:=hide hr1;have HA1:=hide ha1;have HG1:=hide hg1;clear ho1 hr1 ha1 hg1)
 have hb1:=(HG1.out.block g hgl).trans HBX.out
 have HB1:=hide hb1
 have hgl1:g < w1.heap.size:=Nat.lt_of_lt_of_le hgl HG1.out.size
 have HC:Hid (∀ W,Below w1.drew.heap.size w1.drew W→_):=hide (fun W hW=>lg_cells ((hW.block g hgl1).trans hb1))
 have HAP:=hide (HAPP.out w1.drew (below_step HG1.out (Below.refl _ w1).drew) A1 cc1 (HR1.out.below (Below.refl _ w1).drew) (fun a ha _=>by
  have:=(HA1.out a.block a.off a.spot (by rw [ha])).1
  have:=HPL.out
  omega))
 obtain ⟨n1,hn1⟩:∃ n1,(batchT L).length=n1:=⟨_,rfl⟩
 rw [hn1] at HAP HBL ⊢
 have hn1b:n1≤40000:=by have:=HBL.out;omega
 clear hn1 hb1 c0 c1 c2 c3 c4 HAPP HBA HBL
 obtain ⟨BT,hBT⟩:∃ BT,batchT L=BT:=⟨_,rfl⟩
 rw [hBT] at HAP
 have HBT:=hide hBT
 clear hBT
 refine j_start [9,10] (by kernel_rfl) ?_
 refine' j_t 0 [1,2,3,9,10] rfl (by kernel_rfl) rfl ?y0a ?r0a
 case y0a=>(intro w' hw';go_simp;try with_reducible rfl)
 try go_frame
 refine' j_t 1 [2,3,9,10] rfl (by kernel_rfl) rfl ?y1a ?r1a
 case y1a=>(intro w' hw';go_simp;try with_reducible rfl)
 try go_frame
 refine' j_t 2 [3,9,10] rfl (by kernel_rfl) rfl ?y2a ?r2a
 case y2a=>(intro w' hw';go_simp;try with_reducible rfl)
 try go_frame
 refine' j_t 3 [9,10] rfl (by kernel_rfl) rfl ?y3a ?r3a
 case y3a=>(intro w' hw';obtain ⟨x0,x1,x2,x3,x4⟩:=HC.out _ hw';go_simp;try with_reducible rfl)
 try go_frame
 refine' j_t 4 [5,6,7,9,10] rfl (by kernel_rfl) rfl ?y4a ?r4a
 case y4a=>(intro w' hw';go_simp;try with_reducible rfl)
 try go_frame
 refine' j_t 5 [6,7,9,10] rfl (by kernel_rfl) rfl ?y5a ?r5a
 case y5a=>(intro w' hw';go_simp;try with_reducible rfl)
 try go_frame
 refine' j_t 6 [7,9,10] rfl (by kernel_rfl) rfl ?y6a ?r6a
 case y6a=>(intro w' hw';go_simp;try with_reducible rfl)
 try go_frame
 refine' j_t 7 [9,10] rfl (by kernel_rfl) rfl ?y7a ?r7a
 case y7a=>(intro w' hw';obtain ⟨x0,x1,x2,x3,x4⟩:=HC.out _ hw';go_simp;try with_reducible rfl)
 try go_frame
 refine' j_t 8 [9,10] rfl (by kernel_rfl) rfl ?y8a ?r8a
 case y8a=>(intro w' hw';go_simp;try with_reducible rfl)
 try go_frame
 refine' j_l 9 (by kernel_rfl) rfl (by kernel_rfl) (fun K hK=>?s9a)
 go_simp
 refine (Calls.mono (HAP.out) ?_);rintro e u1a ⟨ee,K2,rfl,hto,hdo,hst⟩
 have HTO:=hide hto;have HDO:=hide hdo;have HST:=hide hst
 clear hto hdo hst
 refine hK.out _ _ ?_
 clear hK K
 try go_frame
 refine' j_l 10 (by kernel_rfl) rfl (by kernel_rfl) (fun K hK=>?s10a)
 go_simp
 refine hK.out _ _ ?_
 clear hK K
 try go_frame
 refine wpAnyJ_done (by kernel_rfl) ?_ _
 refine NoPanic.normal ?_
 have hS1:Sets (fun b=>X b ∨ b=g) w u1a:=((Sets.of (S:=fun b=>X b ∨ b=g) (below_step HG1.out (Below.refl _ w1).drew)).trans (HST.out.up (T:=fun b=>X b ∨ b=g) (fun _ e=>.inl e)) (fun _ _ e=>e))
 have hbu:=(HST.out.block g (by simpa using hgl1) HXG.out).trans HB1.out
 have HDW:Hid (DiskO u1a base p (Xw X w u1a) K2):=hide (HDO.out.wide (Xw.more HG1.out.size) (HBD.out _ hS1.size))
 have HS1:=hide hS1
 have HBU:=hide hbu
 have hglu:g < u1a.heap.size:=(Array.getElem?_eq_some_iff.1 hbu).1
 clear hS1 HST HDO HC HAP hbu
 by_cases hee:ee=0
 ·have HTO0:=HTO.out
  subst hee
  obtain ⟨d0,d1,d2,d3,d4⟩:=lg_cells HBU.out
  have df:∀ o,u1a.frozen? ⟨g,o,none⟩=false:=fun o=>by have h:=HBU.out;simp [World.frozen?,h]
  have df2:=df 2
  obtain ⟨sz2,hsz2⟩:∃ s,wrap64 (sz+(n1:Int))=s:=⟨_,rfl⟩
  have hb3:=lg_set 2 (.int .i64 sz2) HBU.out
  have hw3:=sets1 u1a g 2 (.int .i64 sz2)
  obtain ⟨cn,hcn⟩:∃ c,IntKind.i64.wrap (cnt+1)=c:=⟨_,rfl⟩
  have had:Calls Tryz.prog 229 #[.pointer (some ⟨g,3,none⟩),.int .i64 1] (u1a.setCell ⟨g,2,none⟩ (.int .i64 sz2)) fun e w'=>e=.returned (.int .i64 cn)∧w'=(u1a.setCell ⟨g,2,none⟩ (.int .i64 sz2)).setCell ⟨g,3,none⟩ (.int .i64 cn) :=
   iaddw_any g 3 cnt 1 cn _ ((cell_of_row _ g 3 _ _ _ hb3).trans rfl) (by simp [World.frozen?,hb3]) hcn
  have HAD:=hide had
  have HB3:=hide hb3
  have HW3:=hide hw3
  have HTO1:=hide HTO0
  clear had hb3 hw3 hcn HTO0 HTO d0 d1 d3 d4
  go_wp2_with ((with_reducible refine (HAD.out).mono ?_);rintro e w3 ⟨rfl,rfl⟩)
  go_ret
  have hb4:=lg_set 3 (.int .i64 cn) HB3.out
  have hS4:Sets (fun b=>X b ∨ b=g) w ((u1a.setCell ⟨g,2,none⟩ (.int .i64 sz2)).setCell ⟨g,3,none⟩ (.int .i64 cn)):=(HS1.out.set (g:=g) (fun _=>.inr rfl) 2 _).set (g:=g) (fun _=>.inr rfl) 3 _
  have hSg:Sets (fun b=>b=g) u1a ((u1a.setCell ⟨g,2,none⟩ (.int .i64 sz2)).setCell ⟨g,3,none⟩ (.int .i64 cn)):=HW3.out.set (fun _=>rfl) 3 _
  have hD4:=HDW.out.sets hSg (fun b hb e=>by
   subst e
   rcases hb with hb | hb
   ·exact HXG.out hb
   ·omega)
  refine ⟨0,K2,rfl,by rw [← HBT.out] at HTO1;exact HTO1.out,?_,⟨sz2,cn,hb4⟩,hS4⟩
  exact hD4.wide (fun b hb=>by rcases hb with hb | hb;exact .inl hb;exact .inr ⟨hb.1,by have:=hSg.size;omega⟩) (HBD.out _ hS4.size)
 ·have heb:(ee == 0)=false:=by rw [beq_eq_false_iff_ne];exact hee
  have HEE:=hide hee
  go_wp2_with fail
  go_ret
  exact ⟨ee,K2,rfl,by rw [← HBT.out] at HTO;exact HTO.out,HDW.out,⟨sz,cnt,HBU.out⟩,HS1.out⟩
set_option maxRecDepth 100000 in
set_option maxHeartbeats 1600000 in
theorem lsync_any {w:World} {base p g:Nat} {X:Nat→Prop} {K:Dk} {nm:ByteArray} (H:DiskO w base p X K) (hg:LogAt w g p nm) (hn:namedB nm=true) {i:Nat} (hh:hitN K.D nm i) {z:Fz} (hz:K.Z[i]? = some z) :
 Calls Tryz.prog 125 #[ptv g] w fun e w'=>∃ ee K',e=.returned (.int .i64 ee)∧SyncTo K i z ee K'∧DiskO w' base p (Xw X w w') K'∧Sets X w w':=by
 obtain ⟨h,H⟩:=H
 obtain ⟨sz,cnt,hb⟩:=hg
 have hgl:=(Array.getElem?_eq_some_iff.1 hb).1
 obtain ⟨c0,c1,c2,c3,c4⟩:=lg_cells hb
 have HC:Hid (∀ W,Below w.drew.heap.size w.drew W→_):=hide (fun W hW=>lg_cells ((hW.block g hgl).trans hb))
 have HAP:=hide (sync_v (H.below (Below.refl _ w).drew) hn hh hz)
 have HBD:=hide (fun (W:World) (hs:w.heap.size≤W.heap.size)=>Xw.bd H.bd H.base_le hs)
 clear H hn hh hz hb
 go_enter Tryz.func125,Tryz.ntmps125
 go_upto_region 3 with fail
 refine j_start [8,9] (by kernel_rfl) ?_
 refine' j_t 0 [1,2,3,8,9] rfl (by kernel_rfl) rfl ?y0b ?r0b
 case y0b=>(intro w' hw';go_simp;try with_reducible rfl)
 try go_frame
 refine' j_t 1 [2,3,8,9] rfl (by kernel_rfl) rfl ?y1b ?r1b
 case y1b=>(intro w' hw';go_simp;try with_reducible rfl)
 try go_frame
 refine' j_t 2 [3,8,9] rfl (by kernel_rfl) rfl ?y2b ?r2b
 case y2b=>(intro w' hw';go_simp;try with_reducible rfl)
 try go_frame
 refine' j_t 3 [8,9] rfl (by kernel_rfl) rfl ?y3b ?r3b
 case y3b=>(intro w' hw';obtain ⟨x0,x1,x2,x3,x4⟩:=HC.out _ hw';go_simp;try with_reducible rfl)
 try go_frame
 refine' j_t 4 [5,6,7,8,9] rfl (by kernel_rfl) rfl ?y4b ?r4b
 case y4b=>(intro w' hw';go_simp;try with_reducible rfl)
 try go_frame
 refine' j_t 5 [6,7,8,9] rfl (by kernel_rfl) rfl ?y5b ?r5b
 case y5b=>(intro w' hw';go_simp;try with_reducible rfl)
 try go_frame
 refine' j_t 6 [7,8,9] rfl (by kernel_rfl) rfl ?y6b ?r6b
 case y6b=>(intro w' hw';go_simp;try with_reducible rfl)
 try go_frame
 refine' j_t 7 [8,9] rfl (by kernel_rfl) rfl ?y7b ?r7b
 case y7b=>(intro w' hw';obtain ⟨x0,x1,x2,x3,x4⟩:=HC.out _ hw';go_simp;try with_reducible rfl)
 try go_frame
 refine' j_l 8 (by kernel_rfl) rfl (by kernel_rfl) (fun K hK=>?s8b)
 go_simp
 refine (Calls.mono (HAP.out) ?_);rintro e u1b ⟨ee,K2,rfl,hto,hdo,hst⟩
 have HTO:=hide hto;have HDO:=hide hdo;have HST:=hide hst
 clear hto hdo hst
 refine hK.out _ _ ?_
 clear hK K
 try go_frame
 refine' j_l 9 (by kernel_rfl) rfl (by kernel_rfl) (fun K hK=>?s9b)
 go_simp
 refine hK.out _ _ ?_
 clear hK K
 try go_frame
 refine wpAnyJ_done (by kernel_rfl) ?_ _
 refine NoPanic.normal ?_
 have hS:Sets X w u1b:=⟨HST.out.os,HST.out.tape,HST.out.output,HST.out.size,HST.out.block⟩
 have hf:DiskO u1b base p (Xw X w u1b) K2:=HDO.out
 have HS:=hide hS
 have HF:=hide hf
 clear hS hf HDO HST HC HAP
 go_wp2_with fail
 go_ret
 exact ⟨ee,K2,rfl,HTO.out,HF.out,HS.out⟩
set_option maxRecDepth 100000 in
set_option maxHeartbeats 1600000 in
theorem lnew_any {w:World} {base p:Nat} {X:Nat→Prop} {K:Dk} {nm:ByteArray} (H:DiskO w base p X K) (hn:namedB nm=true) (hh:missN K.D nm) (hd:K.dead=false) (hst:K.stop=0) (hsz:Maps.size K.D < 64) (hzl:K.Z.length < 1000) (htl:K.tn < 900000) :
 Calls Tryz.prog 124 #[ptv p,.string nm] w fun e w'=>∃ g z Y,e=.returned (.tuple #[ptv g,.int .i64 0])∧LogAt w' g p nm∧w.heap.size≤g∧z.L=[]∧z.last=0∧DiskO w' base p Y (crD K nm z)∧(∀ b,Y b→Xw X w w' b)∧¬ Y g∧g < w'.heap.size∧Sets X w w':=by
 obtain ⟨h,H⟩:=H
 have HCR:=hide (create_in H hn hh hd hst hsz hzl htl)
 clear H hn hh hd hst hsz hzl htl
 go_enter Tryz.func124,Tryz.ntmps124
 go_wp2_with ((with_reducible refine (HCR.out).mono ?_);rintro e w1 ⟨rfl,⟨z,hz1,hz2,hdo⟩,hS⟩;have HDO:=hide hdo;have HS:=hide hS;have HZ:=hide (And.intro hz1 hz2);clear hdo hS hz1 hz2)
 go_returns
 have hb:=below_alloc (Below.refl w1.heap.size w1) (.cells #[ptv p,.string nm,.int .i64 0,.int .i64 0,.bool false] 228)
 have hz:=heap_alloc_new w1 (.cells #[ptv p,.string nm,.int .i64 0,.int .i64 0,.bool false] 228)
 have hs:=HS.out.size
 refine ⟨w1.heap.size,z,Xw X w w1,rfl,⟨0,0,hz⟩,hs,HZ.out.1,HZ.out.2,HDO.out.below hb,fun b hb2=>?_,fun hb2=>?_,by simp,HS.out.trans (Sets.of (S:=X) hb) (fun _ _ e=>e)⟩
 ·rcases hb2 with e | e
  ·exact .inl e
  ·exact .inr ⟨e.1,Nat.lt_of_lt_of_le e.2 hb.size⟩
 ·have:=HDO.out.bd _ hb2
  omega
end Go.Proofs.YtgmkckjedngkdaaGreatDoor
