/- A part of the proof that TopQuotaLaw holds: XZCal. Conditions: as typed. -/
import Derived.Test.YtgmkckjedngkdaaGreatDoorTq47
import Derived.Test.YtgmkckjedngkdaaGreatDoorTq48
set_option linter.unusedVariables false
set_option linter.unusedSimpArgs false
namespace Go.Proofs.YtgmkckjedngkdaaGreatDoor
open Go.ChangeShapes Go.WideShapes Go.ChangeAt Go.RowKit
theorem csendLe_ (R:Co) (k:Nat):(csendTo R k).length≤k:=by
 unfold csendTo
 rw [List.length_map]
 exact Nat.le_trans (List.length_filter_le _ _) (by simp)
set_option maxRecDepth 100000 in
set_option maxHeartbeats 6400000 in
theorem ccall_get {w:World} {base c i p:Nat} {col:Nat→Nat} {a:Cl} {P:Pl} (H:CluV w base c col a) (hp:a.ps[i]? = some p) (hP:a.P[i]? = some P) (hj:P.job=none) (s:Int) (hcl:clientB 3 s 0 0=true) (hids:0≤a.ids∧a.ids≤549755813888)
   (hB:newB a.ps.length i (a.ids+1) 3 s 0 0 0=true) (hps7:a.ps.length≤7) (hs:0≤s∧s≤255) (hmk:∀ r ∈ csendTo (co0 a.ps.length i (a.ids+1) 3 s 0 0 0) a.ps.length,mokB r=true) (hcap:a.C.length+7≤300) (hse:0≤a.se∧a.se≤549755813888) :
   Calls Tryz.prog 19 #[ptv c,.int .i64 i,client4 3 s 0 0] w fun e w'=>e=.returned (.tuple #[.int .u64 (a.ids+1),.int .i64 0])∧∃ b rb' vj' col',CluV w' base c col' { a with ids:=a.ids+1,C:=a.C ++ csendTo (co0 a.ps.length i (a.ids+1) 3 s 0 0 0) a.ps.length,se:=a.se+(csendTo (co0 a.ps.length i (a.ids+1) 3 s 0 0 0) a.ps.length).length,rb:=rb',P:=a.P.set i { P with vj:=vj',job:=some (b,(co0 a.ps.length i (a.ids+1) 3 s 0 0 0)) } }∧Below base w w':=by
 have hps:i < a.ps.length:=by
   rw [List.getElem?_eq_some_iff] at hp
   exact hp.1
 have hz5:=heap_alloc_new w (.cells #[.int .i64 3,.int .i64 s,.int .u64 0,.int .i64 0] 48)
 have hb5:=below_alloc (Below.refl w.heap.size w) (.cells #[.int .i64 3,.int .i64 s,.int .u64 0,.int .i64 0] 48)
 obtain ⟨w1,hw1⟩:∃ w1,w.alloc (.cells #[.int .i64 3,.int .i64 s,.int .u64 0,.int .i64 0] 48)=w1:=⟨_,rfl⟩
 rw [hw1] at hz5 hb5
 obtain ⟨g5,hg5⟩:∃ g,w.heap.size=g:=⟨_,rfl⟩
 rw [hg5] at hz5
 have lg5:=(Array.getElem?_eq_some_iff.1 hz5).1
 have HH1:=hide (H.below hb5)
 have HB1:=hide (hb5.mono H.bl)
 have hg50:col g5=0:=by
   by_cases h:col g5=0
   · exact h
   · have:=(H.ok g5 h).2;omega
 have HIS:=hide (cis_any HH1.out hp)
 have hck:=cok_any 3 s 0 0 w1
 rw [hcl] at hck
 have HCK:=hide hck
 obtain ⟨y0,y1,y2,y3⟩:=four_cells hz5
 have HP:=hide hp
 have HPP:=hide hP
 have HPS:=hide hps
 have HJ:=hide hj
 have HZ5:=hide hz5
 have HID:=hide hids
 have HNB:=hide hB
 have HP7:=hide hps7
 have HSS:=hide hs
 have HMK:=hide hmk
 have HCC:=hide (And.intro hcap hse)
 have HW1:=hide hw1
 have HG5:=hide hg5
 have HG50:=hide hg50
 clear H hp hP hps hj hids hB hps7 hs hmk hcap hse hz5 hb5 hw1 hg5 hg50 hck hcl
 go_enter Tryz.func19,Tryz.ntmps19
 go_upto_region 1 with fail
 rw [HW1.out,HG5.out]
 go_upto_region 7 with (first
   | ((with_reducible refine (HIS.out).mono ?_);rintro e w2 ⟨rfl,rfl⟩)
   | ((with_reducible refine (HCK.out).mono ?_);rintro e w2 ⟨rfl,hg2⟩;have HH2:=hide (HH1.out.below hg2);have HB2:=hide (HB1.out.trans (hg2.mono HH1.out.bl));have HZ2:=hide ((hg2.block g5 lg5).trans HZ5.out);have hl52:=Nat.lt_of_lt_of_le lg5 hg2.size;have HMY:=hide (cmay_any HH2.out HP.out HPP.out);clear hg2)
   | ((with_reducible refine (HMY.out).mono ?_);rintro e w3 ⟨rfl,hq⟩;obtain rfl:w2=w3:=hq.symm;clear hq))
 have hcells:=HH2.out.cells
 have hzc:∀ o,w2.frozen? ⟨c,o,none⟩=false:=fun o=>by have h:=HH2.out.box;simp [World.frozen?,h]
 have HUA:=hide (uadd_any c 3 a.ids 1 w2 hcells.2.2.2.2.1 (hzc 3) (by rw [IntKind.wrap_u64];have:=HID.out;omega))
 obtain ⟨z0,z1,z2,z3⟩:=four_cells HZ2.out
 clear hcells hzc y0 y1 y2 y3
 go_upto_region 13 with ((with_reducible refine (HUA.out).mono ?_);rintro e w3 ⟨rfl,hq⟩;have HQ:=hide hq;clear hq)
 have hs3:Sets (fun g=>g=c) w2 w3:=by rw [HQ.out];exact sets1 w2 c 3 _
 have H3:=HH2.out.counted (n':=a.ids+1) hs3 (by rw [HQ.out];have h:=HH2.out.box;simp [World.setCell,Array.getElem?_modify,h])
 have hcb:base≤c:=(HH2.out.ok c (by rw [HH2.out.cc];omega)).1
 have HB3:=hide (Sets.below HB2.out hs3 (fun g e=>by rw [e];exact hcb) HH2.out.bl)
 have hg5c:g5 ≠ c:=fun e=>by have:=HG50.out;rw [e,HH2.out.cc] at this;omega
 have hz3:=(hs3.block g5 hl52 hg5c).trans HZ2.out
 have lg3:=(Array.getElem?_eq_some_iff.1 hz3).1
 have HH3:=hide H3
 obtain ⟨Av,cv,hvp,_⟩:=H3.row
 have c0:=H3.cells.2.1
 rw [show a.vp=_ from hvp] at c0
 have HC:Hid (∀ W:World,Below w3.heap.size w3 W→W.cell? ⟨c,0,none⟩=some (.slice Av a.ps.length cv)∧W.cell? ⟨g5,0,none⟩=some (.int .i64 3)∧W.cell? ⟨g5,1,none⟩=some (.int .i64 s)∧W.cell? ⟨g5,2,none⟩=some (.int .u64 0)∧W.cell? ⟨g5,3,none⟩=some (.int .i64 0)∧True):=hide (fun W hW=>by
   obtain ⟨x0,x1,x2,x3⟩:=four_cells ((hW.block g5 lg3).trans hz3)
   exact ⟨keep_cell hW c0 H3.cells.1,x0,x1,x2,x3,trivial⟩)
 obtain ⟨ud,hud⟩:∃ ud,w3.drew=ud:=⟨_,rfl⟩
 have HUD:Hid (Below w3.heap.size w3 ud):=hide (by rw [← hud];exact (Below.refl _ _).drew)
 have HNEW:=hide (cnew_co a.ps.length i (a.ids+1) 3 s 0 0 0 ud HNB.out)
 clear hs3 H3 hcb hg5c hz3 lg3 hvp c0 z0 z1 z2 z3 HQ HUA
 refine j_start [] (by kernel_rfl) ?_
 rw [hud]
 clear hud
 refine' j_t 0 [] rfl (by kernel_rfl) rfl ?y0n3 ?r0n3
 case y0n3=>(intro w' hw';go_simp;try with_reducible rfl)
 try go_frame
 refine' j_t 1 [] rfl (by kernel_rfl) rfl ?y1n3 ?r1n3
 case y1n3=>(intro w' hw';go_simp;try with_reducible rfl)
 try go_frame
 refine' j_t 2 [] rfl (by kernel_rfl) rfl ?y2n3 ?r2n3
 case y2n3=>(intro w' hw';go_simp;try with_reducible rfl)
 try go_frame
 refine' j_t 3 [] rfl (by kernel_rfl) rfl ?y3n3 ?r3n3
 case y3n3=>(intro w' hw';obtain ⟨q0,y0,y1,y2,y3,q5⟩:=HC.out _ (below_step HUD.out hw');go_simp;try with_reducible rfl)
 try go_frame
 refine' j_t 4 [] rfl (by kernel_rfl) rfl ?y4n3 ?r4n3
 case y4n3=>(intro w' hw';go_simp;try with_reducible rfl)
 try go_frame
 refine' j_t 5 [] rfl (by kernel_rfl) rfl ?y5n3 ?r5n3
 case y5n3=>(intro w' hw';go_simp;try with_reducible rfl)
 try go_frame
 refine' j_t 6 [] rfl (by kernel_rfl) rfl ?y6n3 ?r6n3
 case y6n3=>(intro w' hw';go_simp;try with_reducible rfl)
 try go_frame
 refine' j_t 7 [] rfl (by kernel_rfl) rfl ?y7n3 ?r7n3
 case y7n3=>(intro w' hw';obtain ⟨q0,y0,y1,y2,y3,q5⟩:=HC.out _ (below_step HUD.out hw');go_simp;try with_reducible rfl)
 try go_frame
 refine' j_t 8 [] rfl (by kernel_rfl) rfl ?y8n3 ?r8n3
 case y8n3=>(intro w' hw';go_simp;try with_reducible rfl)
 try go_frame
 refine' wpAnyJ_step (i:=9) (o:=_) (by kernel_rfl) ?ho9n3 (fun KK hK=>?step9n3)
 case ho9n3=>(simp only [List.getElem?_toArray,List.getElem?_cons_succ,List.getElem?_cons_zero];rfl)
 go_simp
 refine (Calls.mono (HNEW.out) ?_);rintro e u1n3 ⟨b,rfl,hco⟩
 have gg:=hco.low
 have HCO:=hide hco
 clear hco
 refine hK.out _ _ gg (j_switch gg ?_)
 clear hK KK gg
 try go_frame
 refine' j_t 10 [] rfl (by kernel_rfl) rfl ?y10n3 ?r10n3
 case y10n3=>(intro w' hw';go_simp;try with_reducible rfl)
 try go_frame
 refine' j_t 11 [] rfl (by kernel_rfl) rfl ?y11n3 ?r11n3
 case y11n3=>(intro w' hw';go_simp;try with_reducible rfl)
 try go_frame
 refine' j_t 12 [] rfl (by kernel_rfl) rfl ?y12n3 ?r12n3
 case y12n3=>(intro w' hw';go_simp;try with_reducible rfl)
 try go_frame
 refine' j_t 13 [] rfl (by kernel_rfl) rfl ?y13n3 ?r13n3
 case y13n3=>(intro w' hw';go_simp;try with_reducible rfl)
 try go_frame
 refine' j_t 14 [] rfl (by kernel_rfl) rfl ?y14n3 ?r14n3
 case y14n3=>(intro w' hw';go_simp;try with_reducible rfl)
 try go_frame
 refine wpAnyJ_done (by kernel_rfl) ?_ _
 refine NoPanic.normal ?_
 have hlow:=HCO.out.low
 have hb4:=below_step HUD.out hlow
 have H4:=HH3.out.fresh HP.out HPP.out HJ.out hb4
 have hcob:CoB u1n3 base b (fun g=>colN col w3.heap.size u1n3.heap.size (14+5 * i) g=14+5 * i) (co0 a.ps.length i (a.ids+1) 3 s 0 0 0):=(HCO.out.b (Nat.le_trans HH3.out.bl HUD.out.size)).wide (fun g e=>(colN_self HH3.out.ok (by omega) g).2 (.inr (by
   have h1:=HCO.out.xs b rfl
   have h2:=HUD.out.size
   rw [e]
   omega))) (fun g e=>H4.ok g (by rw [e];omega))
 have HB4:=hide (HB3.out.trans (hb4.mono HH3.out.bl))
 have HSN:=hide (csends_new HCO.out ⟨by show (1:Int)≤(a.ps.length:Int);have:=HPS.out;omega,by show (a.ps.length:Int)≤7;have:=HP7.out;omega⟩ HSS.out)
 have HH4:=hide H4
 have HCB:=hide hcob
 clear hlow hb4 H4 hcob HCO HC HUD HH3 HB3
 have HCE:=hide (fun (g:Nat) (hg:u1n3.heap.size≤g)=>show colN col w3.heap.size u1n3.heap.size (14+5 * i) g=0 from by
   by_cases h:colN col w3.heap.size u1n3.heap.size (14+5 * i) g=0
   · exact h
   · have:=(HH4.out.ok g h).2;omega)
 go_wp2_with (first
   | ((with_reducible refine (HSN.out).mono ?_);rintro e w6 ⟨v6,N6,rfl,hms,hN,hb6⟩;have hN2:N6.map Mg.bare=csendTo (co0 a.ps.length i (a.ids+1) 3 s 0 0 0) a.ps.length:=(by rw [hN];show csendTo (co0 a.ps.length i (a.ids+1) 3 s 0 0 0) ((a.ps.length:Int)).toNat=_;rw [Int.toNat_natCast]);have hmr:=hms.r.mono HCE.out;obtain ⟨A6,c6,rfl,_⟩:=hmr.row;have hlN:N6.length≤7:=(by have h1:=congrArg List.length hN2;rw [List.length_map] at h1;have h2:=csendLe_ (co0 a.ps.length i (a.ids+1) 3 s 0 0 0) a.ps.length;have h3:=HP7.out;omega);have hbg:=cbeg_any (HH4.out.below hb6) HP.out HPP.out HJ.out (HCB.out.sets (S:=fun _=>False) (Sets.of hb6) (fun _ _=>id)) _ N6 hmr (fun x hx=>by rw [mokB_same (bare_same x)];exact HMK.out _ (by rw [← hN2];exact List.mem_map_of_mem hx)) (by show a.C.length+N6.length≤300;have:=HCC.out.1;omega) HCC.out.2;unfold jobV at hbg;have HBG:=hide hbg;have HN2:=hide hN2;have HB6:=hide (HB4.out.trans (hb6.mono HH4.out.bl));clear hbg hN2 hmr hms hN hb6 hlN)
   | ((with_reducible refine (HBG.out).mono ?_);rintro e w9 ⟨rfl,col9,rb9,vj9,h9,hb9⟩;have HH9:=hide h9;have HB9:=hide (HB6.out.trans hb9);clear h9 hb9))
 go_returns
 have h9:=HH9.out
 have hl9:N6.length=(csendTo (co0 a.ps.length i (a.ids+1) 3 s 0 0 0) a.ps.length).length:=by rw [← HN2.out,List.length_map]
 rw [HN2.out,hl9] at h9
 exact ⟨rfl,b,rb9,vj9,col9,h9,HB9.out⟩
set_option maxRecDepth 100000 in
set_option maxHeartbeats 6400000 in
theorem ccall_put {w:World} {base c i p:Nat} {col:Nat→Nat} {a:Cl} {P:Pl} (H:CluV w base c col a) (hp:a.ps[i]? = some p) (hP:a.P[i]? = some P) (hj:P.job=none) (s t x:Int) (hl:P.lease≤P.now) (hn:P.now+16≤1099511627776) (M:Nat) (hM:∀ z ∈ P.N.R.K.Z,z.L.length≤M) (hM2:M≤249900) (hq:((3 * M+100:Nat):Int)≤P.N.R.K.q) (hIL:a.IL.length≤1000) (hcl:clientB 1 s t x=true) (hids:0≤a.ids∧a.ids≤549755813888)
   (hB:newB a.ps.length i (a.ids+1) 1 s t x ((P.now+1) * 8+i)=true) (hps7:a.ps.length≤7) (hs:0≤s∧s≤255) (hmk:∀ r ∈ csendTo (co0 a.ps.length i (a.ids+1) 1 s t x ((P.now+1) * 8+i)) a.ps.length,mokB r=true) (hcap:a.C.length+7≤300) (hse:0≤a.se∧a.se≤549755813888) :
   Calls Tryz.prog 19 #[ptv c,.int .i64 i,client4 1 s t x] w fun e w'=>e=.returned (.tuple #[.int .u64 (a.ids+1),.int .i64 0])∧∃ b rb' vj' R' vi',SavTo P.N.R P.N.R.v.fl P.N.R.v.ce P.N.R.v.at_ (P.now+16) R'∧∃ col',CluV w' base c col' { a with ids:=a.ids+1,C:=a.C ++ csendTo (co0 a.ps.length i (a.ids+1) 1 s t x ((P.now+1) * 8+i)) a.ps.length,se:=a.se+(csendTo (co0 a.ps.length i (a.ids+1) 1 s t x ((P.now+1) * 8+i)) a.ps.length).length,rb:=rb',vi:=vi',IL:=a.IL ++ [⟨a.ids+1,1,s,t,x,0,((P.now+1) * 8+i),none,0,0⟩],P:=a.P.set i { P with N:={ P.N with R:=R' },now:=P.now+1,lease:=P.now+16,vj:=vj',job:=some (b,(co0 a.ps.length i (a.ids+1) 1 s t x ((P.now+1) * 8+i))) } }∧Below base w w':=by
 obtain ⟨vv,hvr⟩:∃ vv,(P.now+1) * 8+(i:Int)=vv:=⟨_,rfl⟩
 rw [hvr] at hB hmk ⊢
 have HVR:=hide hvr
 have hps:i < a.ps.length:=by
   rw [List.getElem?_eq_some_iff] at hp
   exact hp.1
 have hz5:=heap_alloc_new w (.cells #[.int .i64 1,.int .i64 s,.int .u64 t,.int .i64 x] 48)
 have hb5:=below_alloc (Below.refl w.heap.size w) (.cells #[.int .i64 1,.int .i64 s,.int .u64 t,.int .i64 x] 48)
 obtain ⟨w1,hw1⟩:∃ w1,w.alloc (.cells #[.int .i64 1,.int .i64 s,.int .u64 t,.int .i64 x] 48)=w1:=⟨_,rfl⟩
 rw [hw1] at hz5 hb5
 obtain ⟨g5,hg5⟩:∃ g,w.heap.size=g:=⟨_,rfl⟩
 rw [hg5] at hz5
 have lg5:=(Array.getElem?_eq_some_iff.1 hz5).1
 have HH1:=hide (H.below hb5)
 have HB1:=hide (hb5.mono H.bl)
 have hg50:col g5=0:=by
   by_cases h:col g5=0
   · exact h
   · have:=(H.ok g5 h).2;omega
 have HIS:=hide (cis_any HH1.out hp)
 have hck:=cok_any 1 s t x w1
 rw [hcl] at hck
 have HCK:=hide hck
 obtain ⟨y0,y1,y2,y3⟩:=four_cells hz5
 have HP:=hide hp
 have HPP:=hide hP
 have HPS:=hide hps
 have HJ:=hide hj
 have HZ5:=hide hz5
 have HID:=hide hids
 have HNB:=hide hB
 have HP7:=hide hps7
 have HSS:=hide hs
 have HMK:=hide hmk
 have HCC:=hide (And.intro hcap hse)
 have HW1:=hide hw1
 have HG5:=hide hg5
 have HG50:=hide hg50
 have hvp0:0 < vv:=by have:=(H.pl i p P hp hP).clk.2.2.1;omega
 have HVP0:=hide hvp0
 have HVV:=hide (And.intro hl (And.intro hn (And.intro hM (And.intro hM2 hq))))
 have HIL:=hide hIL
 have hnw0:0≤P.now:=(H.pl i p P hp hP).clk.2.2.1
 have HN0:=hide hnw0
 clear hl hn hM hM2 hq hIL hnw0 hvr hvp0
 clear H hp hP hps hj hids hB hps7 hs hmk hcap hse hz5 hb5 hw1 hg5 hg50 hck hcl
 go_enter Tryz.func19,Tryz.ntmps19
 go_upto_region 1 with fail
 rw [HW1.out,HG5.out]
 go_upto_region 7 with (first
   | ((with_reducible refine (HIS.out).mono ?_);rintro e w2 ⟨rfl,rfl⟩)
   | ((with_reducible refine (HCK.out).mono ?_);rintro e w2 ⟨rfl,hg2⟩;have HH2:=hide (HH1.out.below hg2);have HB2:=hide (HB1.out.trans (hg2.mono HH1.out.bl));have HZ2:=hide ((hg2.block g5 lg5).trans HZ5.out);have hl52:=Nat.lt_of_lt_of_le lg5 hg2.size;have HMY:=hide (cmay_any HH2.out HP.out HPP.out);clear hg2)
   | ((with_reducible refine (HMY.out).mono ?_);rintro e w3 ⟨rfl,hq⟩;obtain rfl:w2=w3:=hq.symm;clear hq))
 have hve:=cver_any HH2.out HP.out HPP.out HVV.out.1 HVV.out.2.1 M HVV.out.2.2.1 HVV.out.2.2.2.1 HVV.out.2.2.2.2
 rw [HVR.out] at hve
 have HVE:=hide hve
 clear hve
 obtain ⟨gp,offp,cpp,hvp,hgp,hpc⟩:=HH2.out.at_ (Below.refl _ _) HP.out
 have c0:=HH2.out.cells.2.1
 rw [show a.vp=_ from hvp] at c0
 have hiI:(i:Int) < (a.ps.length:Int):=by have:=HPS.out;omega
 have hi0:(0:Int)≤(i:Int):=by omega
 obtain ⟨z0,z1,z2,z3⟩:=four_cells HZ2.out
 clear hvp
 go_upto_region 12 with ((with_reducible refine (HVE.out).mono ?_);rintro e w5 ⟨rfl,R',hto,col5,h5,hb5,hsx5⟩;have HTO:=hide hto;have HH5:=hide h5;have HB5:=hide (HB2.out.trans hb5);have HSX5:=hide hsx5;clear hto h5 hb5 hsx5)
 have hz2:=(HSX5.out.block g5 hl52 (fun e=>e HG50.out)).trans HZ2.out
 have hcells:=HH5.out.cells
 have hzc:∀ o,w5.frozen? ⟨c,o,none⟩=false:=fun o=>by have h:=HH5.out.box;simp [World.frozen?,h]
 have HUA:=hide (uadd_any c 3 a.ids 1 w5 hcells.2.2.2.2.1 (hzc 3) (by rw [IntKind.wrap_u64];have:=HID.out;omega))
 have HZ5b:=hide hz2
 clear hcells hzc y0 y1 y2 y3 z0 z1 z2 z3 hz2 c0 hpc hgp hiI hi0
 go_upto_region 13 with ((with_reducible refine (HUA.out).mono ?_);rintro e w3 ⟨rfl,hq⟩;have HQ:=hide hq;clear hq)
 have hs3:Sets (fun g=>g=c) w5 w3:=by rw [HQ.out];exact sets1 w5 c 3 _
 have H3:=HH5.out.counted (n':=a.ids+1) hs3 (by rw [HQ.out];have h:=HH5.out.box;simp [World.setCell,Array.getElem?_modify,h])
 have hcb:base≤c:=(HH5.out.ok c (by rw [HH5.out.cc];omega)).1
 have HB3:=hide (Sets.below HB5.out hs3 (fun g e=>by rw [e];exact hcb) HH5.out.bl)
 have hg5c:g5 ≠ c:=fun e=>by have:=HG50.out;rw [e,HH2.out.cc] at this;omega
 have lg5b:=(Array.getElem?_eq_some_iff.1 HZ5b.out).1
 have hz3:=(hs3.block g5 lg5b hg5c).trans HZ5b.out
 have lg3:=(Array.getElem?_eq_some_iff.1 hz3).1
 have HH3:=hide H3
 obtain ⟨Av,cv,hvp,_⟩:=H3.row
 have c0:=H3.cells.2.1
 rw [show a.vp=_ from hvp] at c0
 have HZ3:=hide hz3
 have HG5C:=hide hg5c
 have HC:Hid (∀ W:World,Below w3.heap.size w3 W→W.cell? ⟨c,0,none⟩=some (.slice Av a.ps.length cv)∧W.cell? ⟨g5,0,none⟩=some (.int .i64 1)∧W.cell? ⟨g5,1,none⟩=some (.int .i64 s)∧W.cell? ⟨g5,2,none⟩=some (.int .u64 t)∧W.cell? ⟨g5,3,none⟩=some (.int .i64 x)∧True):=hide (fun W hW=>by
   obtain ⟨x0,x1,x2,x3⟩:=four_cells ((hW.block g5 lg3).trans hz3)
   exact ⟨keep_cell hW c0 H3.cells.1,x0,x1,x2,x3,trivial⟩)
 obtain ⟨ud,hud⟩:∃ ud,w3.drew=ud:=⟨_,rfl⟩
 have HUD:Hid (Below w3.heap.size w3 ud):=hide (by rw [← hud];exact (Below.refl _ _).drew)
 have HNEW:=hide (cnew_co a.ps.length i (a.ids+1) 1 s t x vv ud HNB.out)
 clear hs3 H3 hcb hg5c hz3 hvp c0 HQ HUA lg5b
 refine j_start [] (by kernel_rfl) ?_
 rw [hud]
 clear hud
 refine' j_t 0 [] rfl (by kernel_rfl) rfl ?y0n1 ?r0n1
 case y0n1=>(intro w' hw';go_simp;try with_reducible rfl)
 try go_frame
 refine' j_t 1 [] rfl (by kernel_rfl) rfl ?y1n1 ?r1n1
 case y1n1=>(intro w' hw';go_simp;try with_reducible rfl)
 try go_frame
 refine' j_t 2 [] rfl (by kernel_rfl) rfl ?y2n1 ?r2n1
 case y2n1=>(intro w' hw';go_simp;try with_reducible rfl)
 try go_frame
 refine' j_t 3 [] rfl (by kernel_rfl) rfl ?y3n1 ?r3n1
 case y3n1=>(intro w' hw';obtain ⟨q0,y0,y1,y2,y3,q5⟩:=HC.out _ (below_step HUD.out hw');go_simp;try with_reducible rfl)
 try go_frame
 refine' j_t 4 [] rfl (by kernel_rfl) rfl ?y4n1 ?r4n1
 case y4n1=>(intro w' hw';go_simp;try with_reducible rfl)
 try go_frame
 refine' j_t 5 [] rfl (by kernel_rfl) rfl ?y5n1 ?r5n1
 case y5n1=>(intro w' hw';go_simp;try with_reducible rfl)
 try go_frame
 refine' j_t 6 [] rfl (by kernel_rfl) rfl ?y6n1 ?r6n1
 case y6n1=>(intro w' hw';go_simp;try with_reducible rfl)
 try go_frame
 refine' j_t 7 [] rfl (by kernel_rfl) rfl ?y7n1 ?r7n1
 case y7n1=>(intro w' hw';obtain ⟨q0,y0,y1,y2,y3,q5⟩:=HC.out _ (below_step HUD.out hw');go_simp;try with_reducible rfl)
 try go_frame
 refine' j_t 8 [] rfl (by kernel_rfl) rfl ?y8n1 ?r8n1
 case y8n1=>(intro w' hw';go_simp;try with_reducible rfl)
 try go_frame
 refine' wpAnyJ_step (i:=9) (o:=_) (by kernel_rfl) ?ho9n1 (fun KK hK=>?step9n1)
 case ho9n1=>(simp only [List.getElem?_toArray,List.getElem?_cons_succ,List.getElem?_cons_zero];rfl)
 go_simp
 refine (Calls.mono (HNEW.out) ?_);rintro e u1n1 ⟨b,rfl,hco⟩
 have gg:=hco.low
 have HCO:=hide hco
 clear hco
 refine hK.out _ _ gg (j_switch gg ?_)
 clear hK KK gg
 try go_frame
 refine' j_t 10 [] rfl (by kernel_rfl) rfl ?y10n1 ?r10n1
 case y10n1=>(intro w' hw';go_simp;try with_reducible rfl)
 try go_frame
 refine' j_t 11 [] rfl (by kernel_rfl) rfl ?y11n1 ?r11n1
 case y11n1=>(intro w' hw';go_simp;try with_reducible rfl)
 try go_frame
 refine' j_t 12 [] rfl (by kernel_rfl) rfl ?y12n1 ?r12n1
 case y12n1=>(intro w' hw';go_simp;try with_reducible rfl)
 try go_frame
 refine' j_t 13 [] rfl (by kernel_rfl) rfl ?y13n1 ?r13n1
 case y13n1=>(intro w' hw';go_simp;try with_reducible rfl)
 try go_frame
 refine' j_t 14 [] rfl (by kernel_rfl) rfl ?y14n1 ?r14n1
 case y14n1=>(intro w' hw';go_simp;try with_reducible rfl)
 try go_frame
 refine wpAnyJ_done (by kernel_rfl) ?_ _
 refine NoPanic.normal ?_
 have hlow:=HCO.out.low
 have hb4:=below_step HUD.out hlow
 have H4:=HH3.out.fresh HP.out (set_at HPP.out) HJ.out hb4
 have hcob:CoB u1n1 base b (fun g=>colN col5 w3.heap.size u1n1.heap.size (14+5 * i) g=14+5 * i) (co0 a.ps.length i (a.ids+1) 1 s t x vv):=(HCO.out.b (Nat.le_trans HH3.out.bl HUD.out.size)).wide (fun g e=>(colN_self HH3.out.ok (by omega) g).2 (.inr (by
   have h1:=HCO.out.xs b rfl
   have h2:=HUD.out.size
   rw [e]
   omega))) (fun g e=>H4.ok g (by rw [e];omega))
 have HB4:=hide (HB3.out.trans (hb4.mono HH3.out.bl))
 have HZ4:=hide ((hb4.block g5 lg3).trans HZ3.out)
 have HHk:=hide H4
 have HCB:=hide hcob
 have hdv:decide (0 < vv)=true:=decide_eq_true HVP0.out
 have hdv2:0 < vv:=HVP0.out
 clear hlow hb4 H4 hcob HCO HC HUD HH3 HB3 lg3
 obtain ⟨wk,hwk⟩:∃ wk,u1n1=wk:=⟨_,rfl⟩
 rw [hwk] at HB4 HZ4 HHk HCB ⊢
 clear hwk u1n1
 obtain ⟨colk,hcolk⟩:∃ k,colN col5 w3.heap.size wk.heap.size (14+5 * i)=k:=⟨_,rfl⟩
 rw [hcolk] at HHk HCB
 clear hcolk
 go_upto_region 17 with fail
 obtain ⟨Av,cv,hva,_,_,_,_⟩:=OwnL.row An.cells_len HHk.out.iss
 obtain ⟨nv,hnv⟩:∃ n,a.IL.length=n:=⟨_,rfl⟩
 have hva2:a.vi=.slice Av nv cv:=by rw [← hnv];exact hva
 have HVA:=hide hva2
 have HNV:=hide hnv
 have HOV:Hid (OwnL An.cells 8 50 base wk (.slice Av nv cv) a.IL):=hide (by rw [← hva2];exact HHk.out.iss)
 have HCL:=hide HHk.out.cells.1
 have HVC:Hid ((Value.slice Av nv cv).ownBlock ≠ some c):=hide (fun e=>by
   rw [← hva2] at e
   have h1:=HHk.out.ci c e
   have h2:=HHk.out.cc
   omega)
 have lgk:=(Array.getElem?_eq_some_iff.1 HZ4.out).1
 have HC7:Hid (∀ W:World,Below wk.heap.size wk W→W.cell? ⟨c,5,none⟩=some (.slice Av nv cv)∧W.cell? ⟨g5,0,none⟩=some (.int .i64 1)∧W.cell? ⟨g5,1,none⟩=some (.int .i64 s)∧W.cell? ⟨g5,2,none⟩=some (.int .u64 t)∧W.cell? ⟨g5,3,none⟩=some (.int .i64 x)∧True):=hide (fun W hW=>by
   obtain ⟨x0,x1,x2,x3⟩:=four_cells ((hW.block g5 lgk).trans HZ4.out)
   exact ⟨(keep_cell hW HHk.out.cells.2.2.2.2.2.2 HHk.out.cells.1).trans (by show some a.vi=_;rw [hva2]),x0,x1,x2,x3,trivial⟩)
 obtain ⟨ug,hug⟩:∃ ug,wk.drew=ug:=⟨_,rfl⟩
 have HUG:Hid (Below wk.heap.size wk ug):=hide (by rw [← hug];exact (Below.refl _ _).drew)
 clear hva hva2 hnv lgk hdv hdv2
 refine j_start [10,11,12,13,0] (by kernel_rfl) ?_
 rw [hug]
 clear hug
 refine' j_tw 0 rfl (by kernel_rfl) rfl ?y0i ?r0i
 case y0i=>(intro w' hw';go_simp;try with_reducible rfl)
 try go_frame
 refine' j_t 1 [2,3,4,10,11,12,13] rfl (by kernel_rfl) rfl ?y1i ?r1i
 case y1i=>(intro w' hw';go_simp;try with_reducible rfl)
 try go_frame
 refine' j_t 2 [3,4,10,11,12,13] rfl (by kernel_rfl) rfl ?y2i ?r2i
 case y2i=>(intro w' hw';go_simp;try with_reducible rfl)
 try go_frame
 refine' j_t 3 [4,10,11,12,13] rfl (by kernel_rfl) rfl ?y3i ?r3i
 case y3i=>(intro w' hw';go_simp;try with_reducible rfl)
 try go_frame
 refine' j_t 4 [10,11,12,13] rfl (by kernel_rfl) rfl ?y4i ?r4i
 case y4i=>(intro w' hw';obtain ⟨q0,y0,y1,y2,y3,q5⟩:=HC7.out _ (below_step HUG.out hw');go_simp;try with_reducible rfl)
 try go_frame
 refine' j_t 5 [8,9,10,11,12,13] rfl (by kernel_rfl) rfl ?y5i ?r5i
 case y5i=>(intro w' hw';go_simp;try with_reducible rfl)
 try go_frame
 refine' j_t 6 [8,9,10,11,12,13] rfl (by kernel_rfl) rfl ?y6i ?r6i
 case y6i=>(intro w' hw';obtain ⟨q0,y0,y1,y2,y3,q5⟩:=HC7.out _ (below_step HUG.out hw');go_simp;try with_reducible rfl)
 try go_frame
 refine' j_t 7 [8,9,10,11,12,13] rfl (by kernel_rfl) rfl ?y7i ?r7i
 case y7i=>(intro w' hw';go_simp;try with_reducible rfl)
 try go_frame
 refine' j_t 8 [9,10,11,12,13] rfl (by kernel_rfl) rfl ?y8i ?r8i
 case y8i=>(intro w' hw';go_simp;try with_reducible rfl)
 try go_frame
 refine' wpAnyJ_step (i:=9) (o:=_) (by kernel_rfl) ?ho9i (fun KK hK=>?step9i)
 case ho9i=>(simp only [List.getElem?_toArray,List.getElem?_cons_succ,List.getElem?_cons_zero];rfl)
 go_simp
 have ha:=below_alloc (Below.refl ug.heap.size ug) (.cells #[.int .u64 (a.ids+1),.int .i64 1,.int .i64 s,.int .u64 t,.int .i64 x,.int .i64 0,.int .u64 vv,.slice none 0 0] 50)
 have HN:=hide (RowAt.new_one (cells:=An.cells) (sz:=8) (y:=⟨a.ids+1,1,s,t,x,0,vv,none,0,0⟩) (heap_alloc_new ug (.cells #[.int .u64 (a.ids+1),.int .i64 1,.int .i64 s,.int .u64 t,.int .i64 x,.int .i64 0,.int .u64 vv,.slice none 0 0] 50)))
 have HGA:Hid (Below wk.heap.size wk (ug.alloc (.cells #[.int .u64 (a.ids+1),.int .i64 1,.int .i64 s,.int .u64 t,.int .i64 x,.int .i64 0,.int .u64 vv,.slice none 0 0] 50))):=hide (below_step HUG.out ha)
 refine hK.out _ _ ha (j_switch ha ?_)
 clear hK KK ha
 try go_frame
 refine' wpAnyJ_last (i:=10) (o:=_) (by kernel_rfl) ?ho10i (by kernel_rfl) (fun KK hK=>?step10i)
 case ho10i=>(simp only [List.getElem?_toArray,List.getElem?_cons_succ,List.getElem?_cons_zero];rfl)
 have hua:=HGA.out.size
 refine step_app_row rfl (.tmp 72) (.tmp 77) 58 50 _ 8 80 rfl Tryz.underlying58 Tryz.infoAnsw rfl (by omega) An.cells_len An.cells_one (by omega) base (.slice Av nv cv) a.IL rfl (OwnL.below HOV.out HGA.out) (some ⟨ug.heap.size,0,none⟩) 1 1 [⟨a.ids+1,1,s,t,x,0,vv,none,0,0⟩] rfl rfl HN.out (by have:=HIL.out;omega) (Nat.le_trans HHk.out.bl hua) ?_
 intro v7 w7 ho7 hg7 hm7
 obtain ⟨A7,c7,rfl,hr7,_,hc7,hcm7⟩:=OwnL.row An.cells_len ho7
 have hbx7:=(hg7.block c (Nat.lt_of_lt_of_le HCL.out hua) (fun e=>HVC.out e.symm)).trans ((HGA.out.block c HCL.out).trans HHk.out.box)
 have k5:w7.cell? ⟨c,5,none⟩=some (.slice Av nv cv):=(cell_of_row w7 c 5 _ _ _ hbx7).trans (by show some a.vi=_;rw [HVA.out])
 have z5:w7.frozen? ⟨c,5,none⟩=false:=by simp [World.frozen?,hbx7]
 have HBX7:=hide hbx7;have HO7:=hide ho7;have HG7:=hide hg7;have HM7:=hide hm7
 clear hbx7 ho7 hg7 hm7 hr7 hua
 refine hK.out _ _ ?_
 clear hK KK
 try go_frame
 refine' wpAnyJ_last (i:=11) (o:=_) (by kernel_rfl) ?ho11i (by kernel_rfl) (fun KK hK=>?step11i)
 case ho11i=>(simp only [List.getElem?_toArray,List.getElem?_cons_succ,List.getElem?_cons_zero];rfl)
 go_simp
 refine hK.out _ _ ?_
 clear hK KK
 try go_frame
 refine' wpAnyJ_last (i:=12) (o:=_) (by kernel_rfl) ?ho12i (by kernel_rfl) (fun KK hK=>?step12i)
 case ho12i=>(simp only [List.getElem?_toArray,List.getElem?_cons_succ,List.getElem?_cons_zero];rfl)
 go_simp
 refine hK.out _ _ ?_
 clear hK KK
 try go_frame
 refine' wpAnyJ_last (i:=13) (o:=_) (by kernel_rfl) ?ho13i (by kernel_rfl) (fun KK hK=>?step13i)
 case ho13i=>(simp only [List.getElem?_toArray,List.getElem?_cons_succ,List.getElem?_cons_zero];rfl)
 go_simp
 refine hK.out _ _ ?_
 clear hK KK
 try go_frame
 refine wpAnyJ_done (by kernel_rfl) ?_ _
 refine NoPanic.normal ?_
 have hl7:(a.IL ++ [(⟨a.ids+1,1,s,t,x,0,vv,none,0,0⟩:An)]).length=a.IL.length+1:=by simp
 have hbx7:=HBX7.out
 have ho7:=HO7.out
 have hm7:=HM7.out
 rw [hl7] at ho7 hm7
 have hs8:Sets (fun g=>g=c ∨ a.vi.ownBlock=some g) wk (w7.setCell ⟨c,5,none⟩ (.slice A7 (a.IL.length+1) c7)):=((Sets.of (S:=fun g=>g=c ∨ a.vi.ownBlock=some g) HGA.out).trans (Sets.grown HG7.out) (fun g _ e=>.inr (by rw [HVA.out];exact e))).set (fun _=>.inl rfl) 5 _
 have hne7:(Value.slice A7 (a.IL.length+1) c7).ownBlock ≠ some c:=fun e=>by
   rcases hm7 with h | h
   · rw [e] at h;exact HVC.out h.symm
   · rw [e] at h
     have h2:=Option.some.inj h
     have h3:=HCL.out
     have h4:=HGA.out.size
     omega
 have hA:=HHk.out.issued (vi':=.slice A7 (a.IL.length+1) c7) (IL':=a.IL ++ [⟨a.ids+1,1,s,t,x,0,vv,none,0,0⟩]) hs8 (by simp [World.setCell,Array.getElem?_modify,hbx7]) (OwnL.setFar ho7 hne7 _) (fun g hg=>by
   rcases hm7 with h | h
   · exact .inl (by show a.vi.ownBlock=some g;rw [HVA.out,← h];exact hg)
   · rw [hg] at h
     have h2:=Option.some.inj h
     have h4:=HGA.out.size
     exact .inr (by omega))
 have hB8:Below base w (w7.setCell ⟨c,5,none⟩ (.slice A7 (a.IL.length+1) c7)):=Sets.below HB4.out hs8 (fun g e=>by
   rcases e with e | e
   · exact (HHk.out.ok g (by rw [e,HHk.out.cc];omega)).1
   · exact (HHk.out.ok g (by rw [HHk.out.ci g e];omega)).1) HHk.out.bl
 have hcb8:=(HCB.out.sets hs8 (fun g hg e=>by
   rcases e with e | e
   · have:=HHk.out.cc;rw [e] at hg;omega
   · have:=HHk.out.ci g e;omega)).wide (Y:=fun g=>colN colk wk.heap.size (w7.setCell ⟨c,5,none⟩ (.slice A7 (a.IL.length+1) c7)).heap.size 5 g=14+5 * i) (fun g hg=>(colN_other HHk.out.ok (by omega) (by omega) g).2 hg) (fun g hg=>hA.ok g (by rw [hg];omega))
 clear HCB
 have HCB:=hide hcb8
 have HH8:=hide hA
 have HB8:=hide hB8
 obtain ⟨w8,hw8⟩:∃ w8,w7.setCell ⟨c,5,none⟩ (.slice A7 (a.IL.length+1) c7)=w8:=⟨_,rfl⟩
 rw [hw8] at HCB HH8 HB8 ⊢
 obtain ⟨col8,hcol8⟩:∃ k,colN colk wk.heap.size w8.heap.size 5=k:=⟨_,rfl⟩
 rw [hcol8] at HCB HH8
 have HSN:=hide (csends_new HCB.out.o ⟨by show (1:Int)≤(a.ps.length:Int);have:=HPS.out;omega,by show (a.ps.length:Int)≤7;have:=HP7.out;omega⟩ HSS.out)
 clear hl7 hbx7 ho7 hm7 hs8 hne7 hA hB8 hcb8 hw8 hcol8 k5 z5 HBX7 HO7 HG7 HM7 HB4
 have HCE:=hide (fun (g:Nat) (hg:w8.heap.size≤g)=>show col8 g=0 from by
   by_cases h:col8 g=0
   · exact h
   · have:=(HH8.out.ok g h).2;omega)
 go_wp2_with (first
   | ((with_reducible refine (HSN.out).mono ?_);rintro e w6 ⟨v6,N6,rfl,hms,hN,hb6⟩;have hN2:N6.map Mg.bare=csendTo (co0 a.ps.length i (a.ids+1) 1 s t x vv) a.ps.length:=(by rw [hN];show csendTo (co0 a.ps.length i (a.ids+1) 1 s t x vv) ((a.ps.length:Int)).toNat=_;rw [Int.toNat_natCast]);have hmr:=hms.r.mono HCE.out;obtain ⟨A6,c6,rfl,_⟩:=hmr.row;have hlN:N6.length≤7:=(by have h1:=congrArg List.length hN2;rw [List.length_map] at h1;have h2:=csendLe_ (co0 a.ps.length i (a.ids+1) 1 s t x vv) a.ps.length;have h3:=HP7.out;omega);have hbg:=cbeg_any (HH8.out.below hb6) HP.out (set_at HPP.out) HJ.out (HCB.out.sets (S:=fun _=>False) (Sets.of hb6) (fun _ _=>id)) _ N6 hmr (fun x hx=>by rw [mokB_same (bare_same x)];exact HMK.out _ (by rw [← hN2];exact List.mem_map_of_mem hx)) (by show a.C.length+N6.length≤300;have:=HCC.out.1;omega) HCC.out.2;unfold jobV at hbg;have HBG:=hide hbg;have HN2:=hide hN2;have HB6:=hide (HB8.out.trans (hb6.mono HH8.out.bl));clear hbg hN2 hmr hms hN hb6 hlN)
   | ((with_reducible refine (HBG.out).mono ?_);rintro e w9 ⟨rfl,col9,rb9,vj9,h9,hb9⟩;have HH9:=hide h9;have HB9:=hide (HB6.out.trans hb9);clear h9 hb9))
 go_returns
 have h9:=HH9.out
 have hl9:N6.length=(csendTo (co0 a.ps.length i (a.ids+1) 1 s t x vv) a.ps.length).length:=by rw [← HN2.out,List.length_map]
 rw [HN2.out,hl9] at h9
 simp only [List.set_set] at h9
 exact ⟨rfl,b,rb9,vj9,R',_,HTO.out,col9,h9,HB9.out⟩
end Go.Proofs.YtgmkckjedngkdaaGreatDoor
