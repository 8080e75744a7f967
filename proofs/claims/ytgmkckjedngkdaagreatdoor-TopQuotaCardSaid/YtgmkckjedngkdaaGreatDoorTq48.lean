/- A part of the proof that TopQuotaLaw holds: XZBeg. Conditions: as typed. -/
import Derived.Test.YtgmkckjedngkdaaGreatDoorTq02
import Derived.Test.YtgmkckjedngkdaaGreatDoorTq43
set_option linter.unusedVariables false
set_option linter.unusedSimpArgs false
namespace Go.Proofs.YtgmkckjedngkdaaGreatDoor
open Go.ChangeShapes Go.WideShapes Go.ChangeAt Go.RowKit
theorem infoJob:(Tryz.prog.info? 192).map (fun i=>(i.zero,i.size,i.bytes))=some (some .nilIface,1,16):=by kernel_rfl
set_option maxRecDepth 100000 in
set_option maxHeartbeats 6400000 in
theorem cbeg_any {w:World} {base c i p b:Nat} {col:Nat→Nat} {a:Cl} {P:Pl} {R:Co} (H:CluV w base c col a) (hp:a.ps[i]? = some p) (hP:a.P[i]? = some P) (hj:P.job=none) (hcb:CoB w base b (fun g=>col g=14+5 * i) R) (v:Value) (Ms:List Mg) (hM:MsR w (fun g=>col g=0) v Ms)
   (hok:∀ x ∈ Ms,mokB x=true) (hcap:a.C.length+Ms.length≤300) (hse:0≤a.se∧a.se≤549755813888) :
   Calls Tryz.prog 49 #[ptv c,.int .i64 i,jobV b,v] w fun e w'=>e=.returned (.tuple #[])∧∃ col' rb' vj',CluV w' base c col' { a with C:=a.C ++ Ms.map Mg.bare,se:=a.se+Ms.length,rb:=rb',P:=a.P.set i { P with vj:=vj',job:=some (b,R) } }∧Below base w w':=by
 have hv:=H.pl i p P hp hP
 have hjb:=hv.jobs
 rw [hj] at hjb
 obtain ⟨Aj,cj,hvj⟩:=jobs_none hjb
 obtain ⟨gp,offp,cpp,hvp,hgp,hpc⟩:=H.at_ (Below.refl _ _) hp
 have hps:i < a.ps.length:=by
   rw [List.getElem?_eq_some_iff] at hp
   exact hp.1
 have c0:=H.cells.2.1
 rw [hvp] at c0
 have p3:=hv.cells.2.2.2
 rw [hvj] at p3
 have hpl:p < w.heap.size:=(H.ok p (by rw [hv.cp];omega)).2
 have HII:Hid ((0:Int)≤(i:Int)∧(i:Int) < (a.ps.length:Int)):=hide ⟨by omega,by omega⟩
 have hiI:(i:Int) < (a.ps.length:Int):=by omega
 have hi0:(0:Int)≤(i:Int):=by omega
 rw [hvj] at hjb
 have HJO:Hid (OwnL (one1 jobV) 1 192 base w (.slice Aj 0 cj) []):=hide hjb
 have HPL:=hide hpl
 have hbx:=hv.box
 rw [hvj] at hbx
 have HPB:=hide hbx
 have HVP:Hid ((Value.slice Aj 0 cj).ownBlock ≠ some p):=hide (fun e=>by
   rw [← hvj] at e
   have h1:=hv.cj p e
   have h2:=hv.cp
   omega)
 have hown:∀ g k,(Value.slice Aj 0 cj).ownBlock=some g→col g=k→k=13+5 * i:=fun g k e h=>by
   rw [← hvj] at e
   have h1:=hv.cj g e
   omega
 have HC0:=hide (And.intro (And.intro H.cells.1 (show (Value.slice Aj 0 cj).ownBlock ≠ some c from fun e=>by have:=hown c _ e H.cc;omega)) (And.intro c0 (And.intro hpc p3)))
 have HGP:Hid (gp < w.heap.size∧(Value.slice Aj 0 cj).ownBlock ≠ some gp):=hide ⟨hgp,fun e=>by
   obtain ⟨A,cp,h1,h2,h3⟩:=H.row
   have hA:A=some ⟨gp,offp,none⟩:=by
     rw [hvp] at h1
     injection h1 with e1
     exact e1.symm
   have:=hown gp _ e (h3 _ hA (fun e2=>by rw [e2] at hps;simp at hps))
   omega⟩
 have HVJ:=hide hvj
 have HH:=hide H
 have HP:=hide hp
 have HPP:=hide hP
 have HCB:=hide hcb
 have HMS:=hide hM
 have HOK:=hide hok
 have HCC:=hide (And.intro hcap hse)
 obtain ⟨Am,cm,hvm,_⟩:=hM.row
 have HV0:=hide hv
 have HVM:=hide hvm
 rw [hvm]
 clear hown H hv hjb hvj hvp hgp hpc hps c0 p3 hpl hbx hp hP hj hcb hM hok hcap hse hvm
 obtain ⟨ud,hud⟩:∃ ud,w.drew=ud:=⟨_,rfl⟩
 have HUD:Hid (Below w.heap.size w ud):=hide (by rw [← hud];exact (Below.refl _ _).drew)
 have HC:Hid (∀ W:World,Sets (fun g=>(Value.slice Aj 0 cj).ownBlock=some g) ud W→W.cell? ⟨c,0,none⟩=some (.slice (some ⟨gp,offp,none⟩) a.ps.length cpp)∧W.cell? ⟨gp,offp+i,none⟩=some (ptv p)∧W.cell? ⟨p,3,none⟩=some (.slice Aj 0 cj)):=hide (fun W hW=>by
   have hb:=HUD.out
   have key:∀ g,g < w.heap.size→(Value.slice Aj 0 cj).ownBlock ≠ some g→W.heap[g]? = w.heap[g]?:=fun g hg hn=>(hW.block g (Nat.lt_of_lt_of_le hg hb.size) hn).trans (hb.block g hg)
   exact ⟨(World.cell?_of_block (key c HC0.out.1.1 HC0.out.1.2)).trans HC0.out.2.1,(World.cell?_of_block (key gp HGP.out.1 HGP.out.2)).trans HC0.out.2.2.1,(World.cell?_of_block (key p HPL.out HVP.out)).trans HC0.out.2.2.2⟩)
 go_enter Tryz.func49,Tryz.ntmps49
 go_upto_region 0 with fail
 refine j_startS [22] (S:=fun W=>Sets (fun g=>(Value.slice Aj 0 cj).ownBlock=some g) ud W) (by kernel_rfl) ?_
 rw [hud]
 have HS:Hid (Sets (fun g=>(Value.slice Aj 0 cj).ownBlock=some g) ud ud):=hide (Sets.refl _)
 refine' j_th 0 [1,2,3,5,6,20,21,22] rfl (by kernel_rfl) rfl ?y0n1 HS.out ?r0n1
 case y0n1=>(intro w' hw';go_simp;try with_reducible rfl)
 try go_frame
 refine' j_th 1 [2,3,5,6,20,21,22] rfl (by kernel_rfl) rfl ?y1n2 HS.out ?r1n2
 case y1n2=>(intro w' hw';go_simp;try with_reducible rfl)
 try go_frame
 refine' j_th 2 [3,5,6,20,21,22] rfl (by kernel_rfl) rfl ?y2n3 HS.out ?r2n3
 case y2n3=>(intro w' hw';go_simp;try with_reducible rfl)
 try go_frame
 refine' j_th 3 [5,6,20,21,22] rfl (by kernel_rfl) rfl ?y3n4 HS.out ?r3n4
 case y3n4=>(intro w' hw';obtain ⟨q0,q1,q3⟩:=HC.out _ hw';go_simp;try with_reducible rfl)
 try go_frame
 refine' j_th 4 [5,6,20,21,22] rfl (by kernel_rfl) rfl ?y4n5 HS.out ?r4n5
 case y4n5=>(intro w' hw';go_simp;try with_reducible rfl)
 try go_frame
 refine' j_th 5 [6,20,21,22] rfl (by kernel_rfl) rfl ?y5n6 HS.out ?r5n6
 case y5n6=>(intro w' hw';have ji:=HII.out;go_simp;try with_reducible rfl)
 try go_frame
 refine' j_th 6 [20,21,22] rfl (by kernel_rfl) rfl ?y6n7 HS.out ?r6n7
 case y6n7=>(intro w' hw';obtain ⟨q0,q1,q3⟩:=HC.out _ hw';go_simp;try with_reducible rfl)
 try go_frame
 refine' j_th 7 [8,9,10,12,13,14,15,16,19,20,21,22] rfl (by kernel_rfl) rfl ?y7n8 HS.out ?r7n8
 case y7n8=>(intro w' hw';go_simp;try with_reducible rfl)
 try go_frame
 refine' j_th 8 [9,10,12,13,14,15,16,19,20,21,22] rfl (by kernel_rfl) rfl ?y8n9 HS.out ?r8n9
 case y8n9=>(intro w' hw';go_simp;try with_reducible rfl)
 try go_frame
 refine' j_th 9 [10,12,13,14,15,16,19,20,21,22] rfl (by kernel_rfl) rfl ?y9n10 HS.out ?r9n10
 case y9n10=>(intro w' hw';go_simp;try with_reducible rfl)
 try go_frame
 refine' j_th 10 [12,13,14,15,16,19,20,21,22] rfl (by kernel_rfl) rfl ?y10n11 HS.out ?r10n11
 case y10n11=>(intro w' hw';obtain ⟨q0,q1,q3⟩:=HC.out _ hw';go_simp;try with_reducible rfl)
 try go_frame
 refine' j_th 11 [12,13,14,15,16,19,20,21,22] rfl (by kernel_rfl) rfl ?y11n12 HS.out ?r11n12
 case y11n12=>(intro w' hw';go_simp;try with_reducible rfl)
 try go_frame
 refine' j_th 12 [13,14,15,16,19,20,21,22] rfl (by kernel_rfl) rfl ?y12n13 HS.out ?r12n13
 case y12n13=>(intro w' hw';have ji:=HII.out;go_simp;try with_reducible rfl)
 try go_frame
 refine' j_th 13 [14,15,16,19,20,21,22] rfl (by kernel_rfl) rfl ?y13n14 HS.out ?r13n14
 case y13n14=>(intro w' hw';obtain ⟨q0,q1,q3⟩:=HC.out _ hw';go_simp;try with_reducible rfl)
 try go_frame
 refine' j_th 14 [15,16,19,20,21,22] rfl (by kernel_rfl) rfl ?y14n15 HS.out ?r14n15
 case y14n15=>(intro w' hw';go_simp;try with_reducible rfl)
 try go_frame
 refine' j_th 15 [16,19,20,21,22] rfl (by kernel_rfl) rfl ?y15n16 HS.out ?r15n16
 case y15n16=>(intro w' hw';go_simp;try with_reducible rfl)
 try go_frame
 refine' j_th 16 [19,20,21,22] rfl (by kernel_rfl) rfl ?y16n17 HS.out ?r16n17
 case y16n17=>(intro w' hw';obtain ⟨q0,q1,q3⟩:=HC.out _ hw';go_simp;try with_reducible rfl)
 try go_frame
 refine' j_th 17 [18,19,20,21,22] rfl (by kernel_rfl) rfl ?y17n18 HS.out ?r17n18
 case y17n18=>(intro w' hw';go_simp;try with_reducible rfl)
 try go_frame
 refine' wpAnyJ_step (i:=18) (o:=_) (by kernel_rfl) ?ho18n19 (fun KK hK=>?step18n19)
 case ho18n19=>(simp only [List.getElem?_toArray,List.getElem?_cons_succ,List.getElem?_cons_zero];rfl)
 go_simp
 have ha:=below_alloc (Below.refl ud.heap.size ud) (.cells #[jobV b] 192)
 have HN:=hide (RowAt.new_one (cells:=one1 jobV) (sz:=1) (y:=b) (heap_alloc_new ud (.cells #[jobV b] 192)))
 have HGA:Hid (Below w.heap.size w (ud.alloc (.cells #[jobV b] 192))):=hide (below_step HUD.out ha)
 have HS:=hide (Sets.of (S:=fun g=>(Value.slice Aj 0 cj).ownBlock=some g) ha)
 refine hK.out _ _ HS.out ?_
 clear hK KK ha
 try go_frame
 refine' wpAnyJ_step (i:=19) (o:=_) (by kernel_rfl) ?ho19n20 (fun KK hK=>?step19n20)
 case ho19n20=>(simp only [List.getElem?_toArray,List.getElem?_cons_succ,List.getElem?_cons_zero];rfl)
 have hua:=HGA.out.size
 refine step_app_row (α:=Nat) (cells:=one1 jobV) rfl (.tmp 24) (.tmp 26) 102 192 .nilIface 1 16 rfl Tryz.underlying102 infoJob rfl (by omega) (fun _=>rfl) (fun a u hu=>by simp only [one1,List.mem_singleton] at hu;subst hu;rfl) (by omega) base (.slice Aj 0 cj) [] rfl (OwnL.below HJO.out HGA.out) (some ⟨ud.heap.size,0,none⟩) 1 1 [b] rfl rfl HN.out (by simp) (Nat.le_trans HH.out.bl hua) ?_
 intro v7 w7 ho7 hg7 hm7
 obtain ⟨A7,c7,rfl,hr7,_,hc7,hcm7⟩:=OwnL.row (cells:=one1 jobV) (sz:=1) (fun _=>rfl) ho7
 have hbx7:=(hg7.block p (Nat.lt_of_lt_of_le HPL.out hua) (fun e=>HVP.out e.symm)).trans ((HGA.out.block p HPL.out).trans HPB.out)
 obtain ⟨_,_,_,k3⟩:=four_cells hbx7
 have z3:w7.frozen? ⟨p,3,none⟩=false:=by simp [World.frozen?,hbx7]
 have HS7:=hide (HS.out.trans (Sets.grown hg7) (fun g _ e=>e))
 have HBX7:=hide hbx7;have HO7:=hide ho7;have HG7:=hide hg7;have HM7:=hide hm7
 clear hbx7 ho7 hg7 hm7 hr7 hua HS
 have HS:=HS7
 refine hK.out _ _ HS.out ?_
 clear hK KK
 try go_frame
 refine' j_th 20 [21,22] rfl (by kernel_rfl) rfl ?y20n21 HS.out ?r20n21
 case y20n21=>(intro w' hw';go_simp;try with_reducible rfl)
 try go_frame
 refine' j_th 21 [22] rfl (by kernel_rfl) rfl ?y21n22 HS.out ?r21n22
 case y21n22=>(intro w' hw';go_simp;try with_reducible rfl)
 try go_frame
 refine' wpAnyJ_last (i:=22) (o:=_) (by kernel_rfl) ?ho22n23 (by kernel_rfl) (fun KK hK=>?step22n23)
 case ho22n23=>(simp only [List.getElem?_toArray,List.getElem?_cons_succ,List.getElem?_cons_zero];rfl)
 go_simp
 refine hK.out _ _ ?_
 clear hK KK
 try go_frame
 refine wpAnyJ_done (by kernel_rfl) ?_ _
 refine NoPanic.normal ?_
 clear HS HC
 have ho7:=HO7.out
 have hm7:=HM7.out
 have hbx7:=HBX7.out
 have hs7:=HS7.out
 have hne7:(Value.slice A7 1 c7).ownBlock ≠ some p:=fun e=>by
   rcases hm7 with h | h
   · exact HVP.out (by rw [← h];exact e)
   · have h1:some p=some (ud.alloc (.cells #[jobV b] 192)).heap.size:=e.symm.trans h
     have h2:=Option.some.inj h1
     have h3:=HPL.out
     have h4:=HGA.out.size
     omega
 have hs8:Sets (fun g=>g=p ∨ P.vj.ownBlock=some g) w (w7.setCell ⟨p,3,none⟩ (.slice A7 1 c7)):=((Sets.of (S:=fun g=>g=p ∨ P.vj.ownBlock=some g) HUD.out).trans hs7 (fun g _ e=>.inr (by rw [HVJ.out];exact e))).set (fun _=>.inl rfl) 3 _
 have hJ:=HH.out.jobs (vj':=.slice A7 1 c7) (job':=some (b,R)) HP.out HPP.out hs8 (place_put hbx7 _) (show OwnL (one1 (fun v:Value=>v)) 1 192 base _ (.slice A7 1 c7) [jobV b] from OwnL.setFar (cells:=one1 jobV) (L:=[b]) ho7 hne7 _) (fun g hg=>by
   rcases hm7 with h | h
   · exact .inl (by rw [HVJ.out,← h];exact hg)
   · have h1:some g=some (ud.alloc (.cells #[jobV b] 192)).heap.size:=hg.symm.trans h
     have h2:=Option.some.inj h1
     have h4:=HGA.out.size
     exact .inr (by omega)) (fun x hx=>by cases hx;exact HCB.out)
 have hbp:base≤p:=(HH.out.ok p (by rw [HV0.out.cp];omega)).1
 have hB8:Below base w (w7.setCell ⟨p,3,none⟩ (.slice A7 1 c7)):=Sets.below (Below.refl base w) hs8 (fun g e=>by
   rcases e with e | e
   · rw [e];exact hbp
   · exact (HH.out.ok g (by rw [HV0.out.cj g e];omega)).1) HH.out.bl
 have hms:=HMS.out.sets hs8 (fun g h0 _ e=>by
   rcases e with e | e
   · have:=HV0.out.cp;rw [e] at h0;omega
   · have:=HV0.out.cj g e;omega)
 rw [HVM.out] at hms
 have HSND:=hide (csnd_any hJ.cells.2.2.2.1 hJ.cells.1 (fun e=>by have h1:=hJ.cn c e;have h2:=hJ.cc;omega) hJ.net _ Ms hms (fun g h0 _ e=>by
   have h1:=(colN_other HH.out.ok (by omega) (by omega) g).1 (hJ.cn g e)
   omega) HOK.out HCC.out.1 (by omega) HCC.out.2)
 have HJ8:=hide hJ
 have HB8:=hide hB8
 clear ho7 hm7 hbx7 hs7 hne7 hs8 hJ hbp hB8 hms k3 z3
 go_wp2_with ((with_reducible refine (HSND.out).mono ?_);rintro e w9 ⟨rfl,rb9,hn9,hs9,hm9⟩;have HN9:=hide hn9;have HS9:=hide hs9;have HM9:=hide hm9;clear hn9 hs9 hm9)
 go_end0
 have h9:=HJ8.out.netted HS9.out HM9.out HN9.out
 exact ⟨rfl,_,rb9,_,h9,Sets.below HB8.out HS9.out (fun g e=>(HJ8.out.ok g (by rw [HJ8.out.cn g e];omega)).1) HJ8.out.bl⟩
end Go.Proofs.YtgmkckjedngkdaaGreatDoor
