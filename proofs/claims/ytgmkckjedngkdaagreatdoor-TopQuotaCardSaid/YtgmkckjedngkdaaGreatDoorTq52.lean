/- A part of the proof that TopQuota holds: its walk. Conditions: as typed. -/
import Derived.Test.YtgmkckjedngkdaaGreatDoorTq09
import Derived.Test.YtgmkckjedngkdaaGreatDoorTq29
import Derived.Test.YtgmkckjedngkdaaGreatDoorTq50
import Derived.Test.YtgmkckjedngkdaaGreatDoorTq51
set_option linter.unusedVariables false
set_option linter.unusedSimpArgs false
namespace Go.Proofs.YtgmkckjedngkdaaGreatDoor.topQuota
open Go.ChangeShapes Go.WideShapes Go.ChangeAt Go.RowKit
set_option maxRecDepth 100000 in
set_option maxHeartbeats 6400000 in
theorem walk {w:World} (he:ErrOk w) (hb2:2≤w.heap.size) (a0:Int) (w0:(Lit.int .i64 a0).wf=true) (A1:Option Addr) (c1:Nat) (L1:List (Sv It)) (lc1:L1.length≤c1) (cm1:c1≤maxLen) (r1:RowAt (fun s=>[s.val]) 1 w A1 L1) (g1:∀ s ∈ L1,Sv.good It.cells 5 It.wf w s) :
   Calls Tryz.prog 3 #[.int .i64 a0,.slice A1 L1.length c1] w fun e w'=>e=.returned (.bool true)∧Below w.heap.size w w':=by
 obtain ⟨F,hF⟩:∃ F,bits .and .i64 a0 4095=F:=⟨_,rfl⟩
 have hF0:0≤F:=by rw [← hF,and_mask_i64 a0 12 4095 (by omega) (by decide)];omega
 have hF1:F≤4095:=by rw [← hF,and_mask_i64 a0 12 4095 (by omega) (by decide)];omega
 have hml:L1.length≤9223372036854775807:=by simp only [maxLen] at cm1;omega
 have HR:=hide r1
 have HG:=hide g1
 have HE:=hide he
 have HB2:=hide hb2
 have HDN:=hide (dnew_any (F+600) w w.heap.size (Nat.le_refl _) (by omega) (by omega))
 have HAWK:=hide (fun (W:World) (h:Below w.heap.size w W)=>tawake_any W (HE.out.below h (by have:=HB2.out;omega)) (by have:=HB2.out;have:=h.size;omega))
 have HFB:Hid (600≤F+600):=hide (by omega)
 clear r1 g1 he hb2 lc1 cm1 w0
 go_enter Tryz.func3,Tryz.ntmps3
 go_upto_block 0 with (first
   | ((with_reducible refine (HDN.out).mono ?_);rintro e w1 ⟨d,rfl,hd,hg1⟩;have HNO:Hid (Calls Tryz.prog 6 #[.int .i64 0,ptv d,.int .u64 4] w1 fun e w'=>∃ n zl zm zc,e=.returned (.tuple #[ptv n,.int .i64 0])∧New3 zl zm zc∧NodeO w' w.heap.size n (Xw (fun g=>w.heap.size≤g∧g < w1.heap.size) w1 w') (nr0 0 (F+600) 4 zl zm zc)∧Sets (fun g=>w.heap.size≤g∧g < w1.heap.size) w1 w'):=hide (nopen_any hd (HE.out.below hg1 (by have:=HB2.out;omega)) HB2.out HFB.out 0 4 (by decide) (by decide) (by decide));have HG1:=hide hg1;clear hd hg1)
   | ((with_reducible refine (HNO.out).mono ?_);rintro e w2 ⟨n,zl,zm,zc,rfl,hn3,hno,hs2⟩;have HN3:=hide hn3;have HNN:=hide hno;have HS2:=hide hs2;clear hn3 hno hs2))
 have HSR:Hid (∃ X N,NodeO w2 w.heap.size n X N∧N.id=0∧QuR N.R 0 []):=hide (by
   refine ⟨_,_,HNN.out,rfl,rfl,IsState.nil_,rfl,fun z hz=>?_,Nat.le_refl 1,Nat.le_refl 0⟩
   have hz':z ∈ [zl,zm,zc]:=hz
   have h1:=HN3.out.m
   have h2:=HN3.out.c
   have h3:=HN3.out.l
   simp only [List.mem_cons,List.not_mem_nil,or_false] at hz'
   rcases hz' with rfl | rfl | rfl
   · rw [h3];exact Nat.zero_le _
   · omega
   · omega)
 have HW2:=hide (Sets.below HG1.out HS2.out (fun g h=>h.1) HG1.out.size)
 clear HNN HN3 HS2 HG1 HDN HNO hF HFB
 go_cut [8] (fun va W=>∃ k L X N,k≤40∧NodeO W w.heap.size n X N∧N.id=0∧QuR N.R k L∧Slx (fun g=>¬ X g) W va L∧Below w.heap.size w W)
 case first =>
   go_wp2_with fail
   go_loopw [8,9] (fun va i wr=>∃ (k:Nat) (L:List It) (X:Nat→Prop) (N:Nr),k≤40∧k≤L1.length∧i=.int .i64 k∧NodeO wr w.heap.size n X N∧N.id=0∧QuR N.R k L∧Slx (fun g=>¬ X g) wr va L∧Below w.heap.size w wr) (fun _ i _=>40 - (intOf i).toNat)
   case atStart =>
     obtain ⟨X,N,h1,h2,h3⟩:=HSR.out
     exact ⟨0,[],X,N,by omega,by omega,rfl,h1,h2,h3,⟨none,0,rfl,RowAt.nil_,by simp,by simp,fun ad e=>by cases e⟩,HW2.out⟩
   case round =>
     obtain ⟨k,L,X,N,hk40,hkl,rfl,hno,hid,hq,hsl,hb⟩:=hrel
     have HNN:=hide hno
     have HID:=hide hid
     have HQR:=hide hq
     have HSL:=hide hsl
     have HB:=hide hb
     have HK40:=hide hk40
     have HKL:=hide hkl
     clear hno hid hq hsl hb hk40 hkl
     have hk0:(0:Int)≤(k:Int):=by omega
     by_cases hlt:k < L1.length
     · by_cases hlt4:k < 40
       · have hkI:(k:Int) < (L1.length:Int):=by omega
         have hk4:(k:Int) < 40:=by omega
         obtain ⟨b,off,rfl,hbb,q00⟩:=RowAt.one HR.out (Below.refl _ _) hlt
         have hbw:b < wr.heap.size:=Nat.lt_of_lt_of_le hbb HB.out.size
         have hgs:=HG.out _ (List.getElem_mem hlt)
         generalize L1[k]=s at q00 hgs
         have q0:wr.cell? ⟨b,off+k,none⟩=some (.slice s.A s.L.length s.c):=(HB.out.cell (p:=⟨b,off+k,none⟩) hbb).trans q00
         have HQ0:Hid (∀ W,Below w.heap.size w W→W.cell? ⟨b,off+k,none⟩=some (.slice s.A s.L.length s.c)):=hide (fun W h=>(h.cell (p:=⟨b,off+k,none⟩) hbb).trans q00)
         have HLT:=hide hlt
         have HLT4:=hide hlt4
         have HGS:=hide hgs
         have HBW:=hide hbw
         have HBBW:=hide hbb
         clear hlt hlt4 hgs hbb q00
         by_cases h40:s.L.length≤40
         · have h40I:¬ (40:Int) < (s.L.length:Int):=by omega
           have HS40:=hide h40
           clear h40
           go_upto_region 12 with fail
           have hz3:=heap_alloc_new wr (.cells #[.int .i64 1,.int .i64 1,.int .i64 0,.int .u64 ((k:Int)+1),.int .u64 0,.slice s.A s.L.length s.c] 33)
           have hb3:=below_alloc (Below.refl wr.heap.size wr) (.cells #[.int .i64 1,.int .i64 1,.int .i64 0,.int .u64 ((k:Int)+1),.int .u64 0,.slice s.A s.L.length s.c] 33)
           obtain ⟨w3,hw3⟩:∃ w3,wr.alloc (.cells #[.int .i64 1,.int .i64 1,.int .i64 0,.int .u64 ((k:Int)+1),.int .u64 0,.slice s.A s.L.length s.c] 33)=w3:=⟨_,rfl⟩
           rw [hw3] at hz3 hb3 ⊢
           obtain ⟨gm,hgm⟩:∃ gm,wr.heap.size=gm:=⟨_,rfl⟩
           rw [hgm] at hz3 ⊢
           have hl3:=(Array.getElem?_eq_some_iff.1 hz3).1
           obtain ⟨m0,m1,m2,m3,m4,m5⟩:=six_cells hz3
           have HZ3:=hide hz3
           have HB3:=hide hb3
           have HGM:=hide hgm
           have HL3:=hide hl3
           have HBB3:=hide (HB.out.trans (hb3.mono HB.out.size))
           obtain ⟨m,hm⟩:∃ m:Mg,m=⟨1,1,0,(k:Int)+1,0,s.A,s.c,s.L⟩:=⟨_,rfl⟩
           have hmv:m.val=(.agg #[.int .i64 1,.int .i64 1,.int .i64 0,.int .u64 ((k:Int)+1),.int .u64 0,.slice s.A s.L.length s.c]):=by rw [hm]
           have hml5:m.L=s.L:=by rw [hm]
           have hmA5:m.A=s.A:=by rw [hm]
           have hit:ItemsAt w3 m.A m.L:=by rw [hml5,hmA5];exact HGS.out.row.below HBB3.out
           have hmk:=rmok_any m w3 hit
           have HM:=hide hm
           have HIT:=hide hit
           clear hw3 hz3 hb3 hgm hm hit
           cases hok:mokB m
           · rw [hok,hmv] at hmk
             have HMK:=hide hmk
             clear hmk hmv hml5 hmA5 hok
             go_wp2_with ((with_reducible refine (HMK.out).mono ?_);rintro e w4 ⟨rfl,hg4⟩;have HG4:=hide hg4;clear hg4)
             have hb4:=HB3.out.trans (HG4.out.mono HB3.out.size)
             have hk4':=HLT4.out
             have hkl':=HLT.out
             exact ⟨⟨k+1,L,X,N,by omega,by omega,by simp,HNN.out.below hb4,HID.out,HQR.out.up,HSL.out.below hb4,HB.out.trans (hb4.mono HB.out.size)⟩,by simp only [intOf];omega⟩
           · rw [hok,hmv] at hmk
             have HMK:=hide hmk
             have HOK:=hide hok
             have hmr:m.rd w3:=⟨HIT.out,by rw [hml5,HM.out];exact ⟨HGS.out.lc,HGS.out.cm⟩⟩
             have hgd:m.L.all goodB=true:=by
               unfold mokB at hok
               simp only [Bool.and_eq_true,decide_eq_true_eq] at hok
               exact hok.1.2
             have HGD:=hide hgd
             have HHP:Hid (∀ W,Below w3.heap.size w3 W→Calls Tryz.prog 9 #[ptv n,(.agg #[.int .i64 1,.int .i64 1,.int .i64 0,.int .u64 ((k:Int)+1),.int .u64 0,.slice s.A s.L.length s.c])] W (HanP W w.heap.size n X N (HPutTo N m (100+1500 * k)))):=hide (fun W hW=>by
               have hbW:=HB3.out.trans (hW.mono HB3.out.size)
               have hmfk:=HQR.out.mf
               have hkk:=HLT4.out
               have h40':=HS40.out
               have hh:=nhandle_put (HNN.out.below hbW) m ⟨HIT.out.below hW,hmr.2⟩ HOK.out (by rw [HID.out,HM.out]) (fun a ha hn hX=>by
                 rw [hmA5] at ha
                 rw [hml5] at hn
                 obtain ⟨b2,o2,e2,hlt2,_⟩:=HGS.out.row hn
                 rw [e2] at ha
                 cases ha
                 have:=(HNN.out.bd _ hX).1
                 simp only at this
                 omega) (by rw [HM.out]) (by rw [hml5];exact HGS.out.ok) (fun hne=>by
                   by_cases hz:m.L.length=0
                   · exfalso
                     have hn2:m.L=[]:=List.eq_nil_of_length_eq_zero hz
                     rw [hn2] at hne
                     apply hne
                     rw [HQR.out.S,joinL_of HQR.out.st]
                     rfl
                   · omega) (by rw [hml5];omega) (100+1500 * k) HQR.out.z (by omega) (by rw [hml5];omega)
               rw [hmv] at hh
               exact hh)
             clear hmk hmv hok hgd hmr
             go_upto_region 14 with (first
               | ((with_reducible refine (HMK.out).mono ?_);rintro e w4 ⟨rfl,hg4⟩;obtain ⟨m0,m1,m2,m3,m4,m5⟩:=six_cells ((hg4.block gm HL3.out).trans HZ3.out);have HL4:=hide (Nat.lt_of_lt_of_le HL3.out hg4.size);have HH4:=hide (HHP.out _ hg4);have HG4:=hide hg4;clear hg4)
               | ((with_reducible refine (HH4.out).mono ?_);rintro e w5 ⟨v5,Nn,R5,X5,hb5,rfl,hT5,hno5,hX5,hh1,hh2,hms5,hs5⟩;have HT5:=hide hT5;have HN5:=hide hno5;have HX5:=hide hX5;have HH1:=hide (And.intro hh1 hh2);have HMS:=hide hms5;have HS5:=hide hs5;clear hT5 hno5 hX5 hh1 hh2 hms5 hs5))
             have hs4:=HB3.out.trans (HG4.out.mono HB3.out.size)
             have hb4:=HB.out.trans (hs4.mono HB.out.size)
             have hsx:∀ g,X g→w.heap.size≤g∧g < wr.heap.size:=HNN.out.bd
             have HB5:=hide (Sets.below hb4 HS5.out (fun g hg=>(hsx g hg).1) hb4.size)
             have HSL5:=hide (slx_node (HSL.out.below hs4) HS5.out (fun g hg=>by
               rcases HX5.out g hg with h | h
               · exact .inl h
               · exact .inr h.1))
             have hstep:=quo_step HQR.out HID.out (by rw [HM.out]) HGD.out (by rw [hml5];exact HS40.out) HT5.out
             have hz5:w5.heap[gm]? = some (.cells #[.int .i64 1,.int .i64 1,.int .i64 0,.int .u64 ((k:Int)+1),.int .u64 0,.slice s.A s.L.length s.c] 33 (0,0)):=(HS5.out.block gm HL4.out (fun h=>by have:=hsx gm h;have:=HGM.out;omega)).trans ((HG4.out.block gm HL3.out).trans HZ3.out)
             have hl5:=Nat.lt_of_lt_of_le HL4.out HS5.out.size
             have hmid:m.id=(k:Int)+1:=by rw [HM.out]
             rw [hml5,hmid] at hstep
             obtain ⟨Aa,ca,hva,hra,hla,hca,hpa⟩:=HSL5.out
             have hL5:L.length≤1600:=by have:=HQR.out.len;have:=HLT4.out;omega
             have hNS:∀ (T:List It) (W:World),R5.S=T→Below w5.heap.size w5 W→Calls Tryz.prog 12 #[ptv n] W (RetOw T W):=fun T W hT hW=>by
               have h:=nstate_any (HN5.out.below hW)
               have e:({ N with R:=R5 }:Nr).R.S=T:=hT
               rw [e] at h
               exact h
             obtain ⟨m0,m1,m2,m3,m4,m5⟩:=six_cells hz5
             have HZ5:=hide hz5
             have HL5:=hide hL5
             have HLM5:=hide hl5
             have HNS:=hide hNS
             have HRA:=hide hra
             have HRC:=hide (And.intro hla hca)
             have HXX:=hide hsx
             have HSLV:=hide hva
             subst hva
             clear hs4 hb4 hsx hz5 hL5 hNS hra hla hca hpa hmid
             rcases hstep with ⟨hr5,hq5⟩ | ⟨hr5,hq5⟩
             · obtain ⟨Ar,cr,rfl⟩:=no_msg HMS.out hr5
               have HQ5:=hide hq5
               clear hr5 hq5 hml5 hmA5
               have HST:Hid (∀ W,Below w5.heap.size w5 W→Calls Tryz.prog 12 #[ptv n] W (RetOw L W)):=hide (fun W hW=>HNS.out L W HQ5.out.S hW)
               have HEQ:Hid (∀ (W:World) (B:Option Addr) (cb:Nat),Below w5.heap.size w5 W→ItemsAt W B L→Calls Tryz.prog 11 #[.slice B L.length cb,.slice Aa L.length ca] W fun e w'=>e=.returned (.bool true)∧Below W.heap.size W w'):=hide (fun W B cb hW hB=>by
                 have h:=requal_any B Aa cb ca L L W hB (HRA.out.below hW) (by have:=HL5.out;omega) (by have:=HL5.out;omega)
                 rw [eqL_self] at h
                 exact h)
               go_upto_region 14 with fail
               go_quiet (fail)
               have hqd:=below_drewN (Below.refl w5.heap.size w5) nq
               obtain ⟨w6,hw6⟩:∃ w6,w5.drewN nq=w6:=⟨_,rfl⟩
               rw [hw6] at hqd ⊢
               have HQD:=hide hqd
               have HST6:=hide (HST.out w6 hqd)
               clear hqd hw6
               go_wp2_with (first
                 | ((with_reducible refine (HST6.out).mono ?_);rintro e w7 ⟨vs7,rfl,ho7,hg7⟩;obtain ⟨As7,cs7,rfl,hr7,_,_,_⟩:=OwnL.row It.cells_len ho7;have HG7:=hide (HQD.out.trans (hg7.mono HQD.out.size));have HE7:=hide (HEQ.out w7 As7 cs7 HG7.out hr7);clear ho7 hg7 hr7)
                 | ((with_reducible refine (HE7.out).mono ?_);rintro e w8 ⟨rfl,hg8⟩;have HG8:=hide (HG7.out.trans (hg8.mono HG7.out.size));clear hg8))
               have hk4':=HLT4.out
               have hkl':=HLT.out
               have hsv:=HSL5.out
               exact ⟨⟨k+1,L,X5,{ N with R:=R5 },by omega,by omega,by simp,HN5.out.below HG8.out,HID.out,HQ5.out,hsv.below HG8.out,HB5.out.trans (HG8.out.mono HB5.out.size)⟩,by simp only [intOf];omega⟩
             · obtain ⟨gr,offr,cr,Ar,crr,rfl,hgr,q2,q3,q5,_⟩:=one_msg HMS.out hr5
               have HQ5:=hide hq5
               have q2':w5.cell? ⟨gr,offr,none⟩=some (.int .i64 2):=q2
               have q3':w5.cell? ⟨gr,offr+3,none⟩=some (.int .u64 ((k:Int)+1)):=q3
               clear hr5 hq5 hml5 hmA5 q2 q3 q5
               have HST:Hid (∀ W,Below w5.heap.size w5 W→Calls Tryz.prog 12 #[ptv n] W (RetOw (joinL L s.L) W)):=hide (fun W hW=>HNS.out _ W HQ5.out.S hW)
               have hjl:(joinL L s.L).length≤1640:=by
                 have h1:=joinL_len L s.L
                 have h2:=HL5.out
                 have h3:=HS40.out
                 omega
               have HEQ:Hid (∀ (W:World) (B Aa:Option Addr) (cb ca:Nat),ItemsAt W B (joinL L s.L)→ItemsAt W Aa (joinL L s.L)→Calls Tryz.prog 11 #[.slice B (joinL L s.L).length cb,.slice Aa (joinL L s.L).length ca] W fun e w'=>e=.returned (.bool true)∧Below W.heap.size W w'):=hide (fun W B Aa cb ca hB hA=>by
                 have h:=requal_any B Aa cb ca _ _ W hB hA (by omega) (by omega)
                 rw [eqL_self] at h
                 exact h)
               have HJN:Hid (∀ (W:World),Below w5.heap.size w5 W→Calls Tryz.prog 10 #[.slice Aa L.length ca,.slice s.A s.L.length s.c] W (RetSx (fun g=>¬ X5 g) (joinL L s.L) W)):=hide (fun W hW=>rjoin_x (fun g=>¬ X5 g) _ L s.A s.c s.L W (Slx.below HSL5.out hW) (HGS.out.row.below (HB5.out.trans (hW.mono HB5.out.size))) (by have:=HL5.out;omega) (by have:=HS40.out;omega) (stateB_true HQR.out.st) (fun g hg hx=>by have:=(HN5.out.bd g hx).2;have:=hW.size;omega))
               have HJLN:=hide hjl
               generalize joinL L s.L=J at *
               clear hjl
               go_upto_region 14 with fail
               go_quiet (fail)
               have hqd:=below_drewN (Below.refl w5.heap.size w5) nq
               obtain ⟨w6,hw6⟩:∃ w6,w5.drewN nq=w6:=⟨_,rfl⟩
               rw [hw6] at hqd ⊢
               have HQD:=hide hqd
               have HJ6:=hide (HJN.out w6 hqd)
               have q0:=HQ0.out w6 (HB5.out.trans (hqd.mono HB5.out.size))
               have hbw6:b < w6.heap.size:=by have:=HB5.out.size;have:=hqd.size;have:=HBBW.out;omega
               clear hqd hw6
               go_wp2_with (first
                 | ((with_reducible refine (HJ6.out).mono ?_);rintro e w7 ⟨vj,rfl,hj7,hg7⟩;obtain ⟨Aj,cj,rfl,hrj,hcj,hmj,hxj⟩:=hj7;have HG7:=hide (HQD.out.trans (hg7.mono HQD.out.size));have HST7:=hide (HST.out w7 HG7.out);have HRJ:=hide hrj;have HCJ:=hide (And.intro hcj hmj);have HXJ:=hide hxj;clear hrj hcj hmj hxj hg7)
                 | ((with_reducible refine (HST7.out).mono ?_);rintro e w8 ⟨vs8,rfl,ho8,hg8⟩;obtain ⟨As8,cs8,rfl,hr8,_,_,_⟩:=OwnL.row It.cells_len ho8;have HG8:=hide (HG7.out.trans (hg8.mono HG7.out.size));have HB78:=hide hg8;have HE8:=hide (HEQ.out w8 As8 Aj cs8 cj hr8 (HRJ.out.below hg8));clear ho8 hg8 hr8)
                 | ((with_reducible refine (HE8.out).mono ?_);rintro e w9 ⟨rfl,hg9⟩;have HG9:=hide (HG8.out.trans (hg9.mono HG8.out.size));have HB89:=hide hg9;clear hg9))
               have hk4':=HLT4.out
               have hkl':=HLT.out
               have hsv:Slx (fun g=>¬ X5 g) w7 (.slice Aj J.length cj) J:=⟨Aj,cj,rfl,HRJ.out,HCJ.out.1,HCJ.out.2,HXJ.out⟩
               exact ⟨⟨k+1,J,X5,{ N with R:=R5 },by omega,by omega,by simp,HN5.out.below HG9.out,HID.out,HQ5.out,(hsv.below HB78.out).below HB89.out,HB5.out.trans (HG9.out.mono HB5.out.size)⟩,by simp only [intOf];omega⟩
         · have h40I:(40:Int) < (s.L.length:Int):=by omega
           clear h40
           go_wp2_with (refine (HAWK.out _ HB.out).mono ?_;rintro e w3 ⟨rfl,hg3⟩;have HG3:=hide hg3;clear hg3)
           go_ret
           exact ⟨rfl,HB.out.trans (HG3.out.mono HB.out.size)⟩
       · have hk4:¬ (k:Int) < 40:=by omega
         have hkI:(k:Int) < (L1.length:Int):=by omega
         clear hlt hlt4
         go_wp2_with fail
         go_meet
         exact ⟨k,L,X,N,HK40.out,HNN.out,HID.out,HQR.out,HSL.out,HB.out⟩
     · have hkI:¬ (k:Int) < (L1.length:Int):=by omega
       clear hlt
       go_wp2_with fail
       go_meet
       exact ⟨k,L,X,N,HK40.out,HNN.out,HID.out,HQR.out,HSL.out,HB.out⟩
 case rest =>
   obtain ⟨k,L,X,N,hk40,hno,hid,hq,hsl,hb⟩:=hcut
   have HB:=hide hb
   have HNN:=hide hno
   have HSL:=hide hsl
   have HQR:=hide hq
   have hL:L.length≤1600:=by have:=hq.len;omega
   have HL:=hide hL
   have HAK:Hid (Calls Tryz.prog 9 #[ptv n,.agg #[.int .i64 4,.int .i64 1,.int .i64 0,.int .u64 7,.int .u64 3,.slice none 0 0]] wc (HanP wc w.heap.size n X N (fun rep R'=>rep=[⟨5,0,1,7,N.R.v.ce,none,0,L.filter (serP 3)⟩]))):=hide (by
     have h:=nhandle_ask hno ⟨4,1,0,7,3,none,0,[]⟩ ⟨RowAt.nil_,by simp⟩ (by decide) hid.symm rfl ⟨by decide,by decide⟩
     refine h.mono ?_
     intro e w' h2
     refine h2.imp ?_
     rintro r R' ⟨rfl,_⟩
     rw [hid,hq.S])
   clear hno hid hq hsl hb hk40 hL
   go_upto_region 21 with ((with_reducible refine (HAK.out).mono ?_);rintro e w5 ⟨v5,Nn,R5,X5,hb5,rfl,hT5,_,hX5,hh1,hh2,hms5,hs5⟩;have HT5:=hide hT5;have HX5:=hide hX5;have HMS:=hide hms5;have HS5:=hide hs5;clear hT5 hX5 hh1 hh2 hms5 hs5)
   obtain ⟨gr,offr,cr,Ar,crr,rfl,hgr,q2,_,q5,hir,_,_⟩:=one_msg HMS.out HT5.out
   have q2':w5.cell? ⟨gr,offr,none⟩=some (.int .i64 5):=q2
   have q5':w5.cell? ⟨gr,offr+5,none⟩=some (.slice Ar (L.filter (serP 3)).length crr):=q5
   have hir':ItemsAt w5 Ar (L.filter (serP 3)):=hir
   have HSL5:=hide (slx_node HSL.out HS5.out (fun g hg=>by
     rcases HX5.out g hg with h | h
     · exact .inl h
     · exact .inr h.1))
   have HB5:=hide (Sets.below HB.out HS5.out (fun g hg=>(HNN.out.bd g hg).1) HB.out.size)
   have hfl:(L.filter (serP 3)).length≤1600:=Nat.le_trans (List.length_filter_le _ _) HL.out
   obtain ⟨Aa,ca,hva,hra,_⟩:=HSL5.out
   subst hva
   obtain ⟨ud,hud⟩:∃ ud,w5.drew=ud:=⟨_,rfl⟩
   have hdr:Below w5.heap.size w5 ud:=by rw [← hud];exact (Below.refl _ _).drew
   have HSE:=hide (rseries_any Aa ca L 3 ud (hra.below hdr) (by have:=HL.out;omega))
   have HC0:Hid (∀ W,Below ud.heap.size ud W→W.cell? ⟨gr,offr,none⟩=some (.int .i64 5)):=hide (fun W h=>keep_cell (below_step hdr h) q2' hgr)
   have HC5:Hid (∀ W,Below ud.heap.size ud W→W.cell? ⟨gr,offr+5,none⟩=some (.slice Ar (L.filter (serP 3)).length crr)):=hide (fun W h=>keep_cell (below_step hdr h) q5' hgr)
   have HQ:Hid (∀ (B:Option Addr) (cb:Nat) (W:World),Below ud.heap.size ud W→ItemsAt W B (L.filter (serP 3))→Calls Tryz.prog 11 #[.slice Ar (L.filter (serP 3)).length crr,.slice B (L.filter (serP 3)).length cb] W fun e w'=>e=.returned (.bool true)∧Below W.heap.size W w'):=hide (fun B cb W hW hB=>by
     have h:=requal_any Ar B crr cb _ _ W (hir'.below (below_step hdr hW)) hB (by omega) (by omega)
     rw [eqL_self] at h
     exact h)
   have HA:Hid (∀ W,Below ud.heap.size ud W→Calls Tryz.prog 7 #[] W fun e w'=>e=.returned (.bool true)∧Below W.heap.size W w'):=hide (fun W hW=>HAWK.out W (HB5.out.trans ((below_step hdr hW).mono HB5.out.size)))
   have HBU:=hide (HB5.out.trans (hdr.mono HB5.out.size))
   have HGL:Hid (gr < ud.heap.size):=hide (Nat.lt_of_lt_of_le hgr hdr.size)
   clear q2 q5 hir q2' q5' hir' hra hdr hfl hgr
   generalize L.filter (serP 3)=T at *
   refine j_start [] (by kernel_rfl) ?_
   rw [hud]
   clear hud
   refine' j_t 0 [] rfl (by kernel_rfl) rfl ?y0z ?r0z
   case y0z=>(intro w' hw';go_simp;try with_reducible rfl)
   try go_frame
   refine' j_t 1 [] rfl (by kernel_rfl) rfl ?y1z ?r1z
   case y1z=>(intro w' hw';go_simp;try with_reducible rfl)
   try go_frame
   refine' j_t 2 [] rfl (by kernel_rfl) rfl ?y2z ?r2z
   case y2z=>(intro w' hw';go_simp;try with_reducible rfl)
   try go_frame
   refine' j_t 3 [] rfl (by kernel_rfl) rfl ?y3z ?r3z
   case y3z=>(intro w' hw';go_simp;try with_reducible rfl)
   try go_frame
   refine' j_t 4 [] rfl (by kernel_rfl) rfl ?y4z ?r4z
   case y4z=>(intro w' hw';go_simp;try with_reducible rfl)
   try go_frame
   refine' j_t 5 [] rfl (by kernel_rfl) rfl ?y5z ?r5z
   case y5z=>(intro w' hw';go_simp;try with_reducible rfl)
   try go_frame
   refine' j_t 6 [] rfl (by kernel_rfl) rfl ?y6z ?r6z
   case y6z=>(intro w' hw';go_simp;try with_reducible rfl)
   try go_frame
   refine' j_t 7 [] rfl (by kernel_rfl) rfl ?y7z ?r7z
   case y7z=>(intro w' hw';have q0:=HC0.out _ hw';have q1:=HC5.out _ hw';go_simp;try with_reducible rfl)
   try go_frame
   refine' j_t 8 [] rfl (by kernel_rfl) rfl ?y8z ?r8z
   case y8z=>(intro w' hw';go_simp;try with_reducible rfl)
   try go_frame
   refine' j_t 9 [] rfl (by kernel_rfl) rfl ?y9z ?r9z
   case y9z=>(intro w' hw';go_simp;try with_reducible rfl)
   try go_frame
   refine' j_t 10 [] rfl (by kernel_rfl) rfl ?y10z ?r10z
   case y10z=>(intro w' hw';go_simp;try with_reducible rfl)
   try go_frame
   refine' j_t 11 [] rfl (by kernel_rfl) rfl ?y11z ?r11z
   case y11z=>(intro w' hw';go_simp;try with_reducible rfl)
   try go_frame
   refine' j_t 12 [] rfl (by kernel_rfl) rfl ?y12z ?r12z
   case y12z=>(intro w' hw';go_simp;try with_reducible rfl)
   try go_frame
   refine' j_t 13 [] rfl (by kernel_rfl) rfl ?y13z ?r13z
   case y13z=>(intro w' hw';go_simp;try with_reducible rfl)
   try go_frame
   refine' j_t 14 [] rfl (by kernel_rfl) rfl ?y14z ?r14z
   case y14z=>(intro w' hw';have q0:=HC0.out _ hw';have q1:=HC5.out _ hw';go_simp;try with_reducible rfl)
   try go_frame
   refine' j_t 15 [] rfl (by kernel_rfl) rfl ?y15z ?r15z
   case y15z=>(intro w' hw';go_simp;try with_reducible rfl)
   try go_frame
   refine' wpAnyJ_step (i:=16) (o:=_) (by kernel_rfl) ?ho16z (fun KK hK=>?step16z)
   case ho16z=>(simp only [List.getElem?_toArray,List.getElem?_cons_succ,List.getElem?_cons_zero];rfl)
   go_simp
   refine (Calls.mono (HSE.out) ?_);rintro e u1z ⟨vs,rfl,hs3,gg⟩
   obtain ⟨A9,c9,rfl,hr9,_,hc9,hcm9⟩:=OwnL.row It.cells_len hs3
   have HEQ:=hide (HQ.out A9 c9 _ gg hr9)
   have HG9:=hide gg
   clear hs3 hr9 hc9 hcm9
   refine hK.out _ _ gg (j_switch gg ?_)
   clear hK KK gg
   try go_frame
   refine' wpAnyJ_step (i:=17) (o:=_) (by kernel_rfl) ?ho17z (fun KK hK=>?step17z)
   case ho17z=>(simp only [List.getElem?_toArray,List.getElem?_cons_succ,List.getElem?_cons_zero];rfl)
   go_simp
   refine (Calls.mono (HEQ.out) ?_);rintro e u2z ⟨rfl,gg⟩
   have HAW:=hide (HA.out _ (below_step HG9.out gg))
   have HG10:=hide (below_step HG9.out gg)
   refine hK.out _ _ gg (j_switch gg ?_)
   clear hK KK gg
   try go_frame
   refine' j_t 18 [] rfl (by kernel_rfl) rfl ?y18z ?r18z
   case y18z=>(intro w' hw';go_simp;try with_reducible rfl)
   try go_frame
   refine' j_t 19 [] rfl (by kernel_rfl) rfl ?y19z ?r19z
   case y19z=>(intro w' hw';go_simp;try with_reducible rfl)
   try go_frame
   refine' wpAnyJ_step (i:=20) (o:=_) (by kernel_rfl) ?ho20z (fun KK hK=>?step20z)
   case ho20z=>(simp only [List.getElem?_toArray,List.getElem?_cons_succ,List.getElem?_cons_zero];rfl)
   go_simp
   refine (Calls.mono (HAW.out) ?_);rintro e u3z ⟨rfl,gg⟩
   have HG11:=hide (below_step HG10.out gg)
   refine hK.out _ _ gg (j_switch gg ?_)
   clear hK KK gg
   try go_frame
   refine' j_t 21 [] rfl (by kernel_rfl) rfl ?y21z ?r21z
   case y21z=>(intro w' hw';go_simp;try with_reducible rfl)
   try go_frame
   refine' j_t 22 [] rfl (by kernel_rfl) rfl ?y22z ?r22z
   case y22z=>(intro w' hw';go_simp;try with_reducible rfl)
   try go_frame
   refine wpAnyJ_done (by kernel_rfl) ?_ _
   refine NoPanic.normal ?_
   go_wp2_with fail
   go_ret
   exact ⟨rfl,HBU.out.trans (HG11.out.mono HBU.out.size)⟩
end Go.Proofs.YtgmkckjedngkdaaGreatDoor.topQuota
