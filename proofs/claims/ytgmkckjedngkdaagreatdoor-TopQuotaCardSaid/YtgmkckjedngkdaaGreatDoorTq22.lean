/- A part of the proof that TopQuotaLaw holds: XMemF, XPAdd, XPSt, XPFil, XMDel, XNet. Conditions: as typed. -/
import Derived.Test.YtgmkckjedngkdaaGreatDoorTq05
import Derived.Test.YtgmkckjedngkdaaGreatDoorTq09
import Derived.Test.YtgmkckjedngkdaaGreatDoorTq17
import Derived.Test.YtgmkckjedngkdaaGreatDoorTq19
import Derived.Test.YtgmkckjedngkdaaGreatDoorTq21
import Derived.Deep.RegionLaw
import Derived.BigQuiet
set_option linter.unusedVariables false
set_option linter.unusedSimpArgs false
namespace Go.Proofs.YtgmkckjedngkdaaGreatDoor
open Go.ChangeShapes Go.WideShapes Go.ChangeAt Go.RowKit
def memC (p:Nat) (d:Int) (f:Bool) (n:Int):Array Value:=#[.pointer (some ⟨p,0,none⟩),.int .u32 d,.int .i32 0,.int .u32 0,.bool f,.int .i64 n]
theorem mem_box {w:World} {b p:Nat} {d:Int} {f:Bool} {n:Int} {t:TypeId} (h:w.heap[b]? = some (.cells (memC p d f n) t (0,0))):b < w.heap.size ∧
   (w.cell? ⟨b,0,none⟩=some (.pointer (some ⟨p,0,none⟩))∧w.cell? ⟨b,1,none⟩=some (.int .u32 d)∧w.cell? ⟨b,2,none⟩=some (.int .i32 0)∧w.cell? ⟨b,3,none⟩=some (.int .u32 0)∧w.cell? ⟨b,4,none⟩=some (.bool f)∧w.cell? ⟨b,5,none⟩=some (.int .i64 n)) ∧
   ∀ o,w.frozen? ⟨b,o,none⟩=false:=by
 exact ⟨(Array.getElem?_eq_some_iff.1 h).1,six_cells h,fun o=>by simp [World.frozen?,h]⟩
end Go.Proofs.YtgmkckjedngkdaaGreatDoor
namespace Go.Proofs.YtgmkckjedngkdaaGreatDoor
open Go.ChangeShapes Go.WideShapes Go.ChangeAt Go.RowKit
theorem Wrote.trans {a b c:World} {v v1 v2:Value} (h:Wrote a b v v1) (k:Wrote b c v1 v2):Wrote a c v v2:=by
 refine ⟨⟨k.grown.os.trans h.grown.os,k.grown.tape.trans h.grown.tape,k.grown.output.trans h.grown.output,Nat.le_trans h.grown.size k.grown.size,fun i hi hne=>?_⟩,?_⟩
 · refine (k.grown.block i (Nat.lt_of_lt_of_le hi h.grown.size) (fun e=>?_)).trans (h.grown.block i hi hne)
   rcases h.lies with h1 | ⟨g,h1,h2⟩
   · rw [h1] at e;exact hne e
   · rw [h1] at e;injection e with e;omega
 · rcases k.lies with h1 | ⟨g,h1,h2⟩
   · rcases h.lies with h3 | ⟨g,h3,h4⟩
     · exact .inl (h1.trans h3)
     · exact .inr ⟨g,h1.trans h3,h4⟩
   · exact .inr ⟨g,h1,Nat.le_trans h.grown.size h2⟩
theorem Wrote.below {a b c:World} {v v':Value} (h:Below a.heap.size a b) (k:Wrote b c v v'):Wrote a c v v':=Wrote.trans ⟨grownBy_below h,.inl rfl⟩ k
theorem Wrote.same {a b:World} {v:Value} (h:Below a.heap.size a b):Wrote a b v v:=⟨grownBy_below h,.inl rfl⟩
theorem Wrote.far {a b:World} {v v':Value} (h:Wrote a b v v') {g:Nat} {o:Obj} (hg:a.heap[g]? = some o) (hne:v.ownBlock ≠ some g):b.heap[g]? = some o :=
 (h.grown.block g (Array.getElem?_eq_some_iff.1 hg).1 (fun e=>hne e.symm)).trans hg
theorem grown_far {a b:World} {row:Option Nat} (h:a.grownBy b row) {g:Nat} {o:Obj} (hg:a.heap[g]? = some o) (hne:row ≠ some g):b.heap[g]? = some o :=
 (h.block g (Array.getElem?_eq_some_iff.1 hg).1 (fun e=>hne e.symm)).trans hg
set_option maxHeartbeats 400000 in
theorem addc_any (y x:It) (b:Nat) (w:World) (h:w.heap[b]? = some (.cells x.cells.toArray 54 (0,0))) :
   Calls Tryz.prog 215 #[y.val,.pointer (some ⟨b,0,none⟩)] w fun e w'=>e=.returned (.bool (hidesB x y))∧Below w.heap.size w w':=by
 obtain ⟨x0,x1,x2,x3,x4⟩:=box_item h
 have hb:b < w.heap.size:=(Array.getElem?_eq_some_iff.1 h).1
 have hne:¬ (b=w.heap.size):=by omega
 have H:=hide h
 clear h
 go_enter Tryz.func215,Tryz.ntmps215
 go_wp2_with fail
 refine (Calls.mono (phides_any x y _) ?_);rintro e w1 ⟨rfl,hg1⟩
 go_wp2_with fail
 go_ret
 exact ⟨rfl,below_step (below_alloc (Below.refl _ _) _) hg1⟩
theorem addc_tells (x:It) (b:Nat) (L:List It) (row:Option Nat) (w:World) (h:w.heap[b]? = some (.cells x.cells.toArray 54 (0,0))) (hne:row ≠ some b):TellsG 215 #[.pointer (some ⟨b,0,none⟩)] (hidesB x) L row w :=
 fun y _ w1 hg=>addc_any y x b w1 (grown_far hg h hne)
set_option maxHeartbeats 3200000 in
set_option maxRecDepth 100000 in
theorem add_any (base:Nat) (v:Value) (L:List It) (x:It) (w:World) (h:Og base w v L) (hbase:base≤w.heap.size) (hst:IsState L) (hn:L.length≤1099511627776) :
   Calls Tryz.prog 149 #[v,x.val] w (RetOg base (addL L x) v w):=by
 obtain ⟨A,c,rfl,hrow,h1,h2⟩:=h.sl
 have hcf:Enters Tryz.prog 215:=fun args W=>by kernel_rfl
 have HC:=hide hcf
 have HO:=hide h
 have HR:=hide hrow
 have HS:=hide hst
 clear h hrow hst hcf
 have HP:=hide (fun W hW=>place_any x A c L W (RowAt.below HR.out hW) (by omega) HS.out.2.1)
 have HH:=hide (fun W hW=>hidden_any A c L x W (RowAt.below HR.out hW) (by omega) HS.out.2.1 HS.out.1)
 cases hgd:goodB x
 · have HA:=hide (addL_bad (l:=L) (x:=x) (by simpa only [goodB,decide_eq_false_iff_not] using hgd))
   go_enter Tryz.func149,Tryz.ntmps149
   go_wp2_with fail
   refine (Calls.mono (pgood_any x _) ?_);rintro e w1 ⟨rfl,hg1⟩
   rw [hgd]
   have hb1:Below w.heap.size w w1:=below_step (below_alloc (Below.refl _ _) _) hg1
   go_wp2_with fail
   go_ret
   exact ⟨_,rfl,by rw [HA.out];exact HO.out.below hb1,Wrote.same hb1⟩
 have hgx:It.good x:=by simpa only [goodB,decide_eq_true_eq] using hgd
 have HGX:=hide hgx
 clear hgx
 cases hhd:hidB L x
 case true =>
   have HA:=hide (addL_hid HGX.out hhd)
   go_enter Tryz.func149,Tryz.ntmps149
   go_wp2_with fail
   refine (Calls.mono (pgood_any x _) ?_);rintro e w1 ⟨rfl,hg1⟩
   rw [hgd]
   have hb1:Below w.heap.size w w1:=below_step (below_alloc (Below.refl _ _) _) hg1
   obtain ⟨hc1,hf1⟩:=bcell hg1
   go_wp2_with fail
   refine (Calls.mono (HH.out _ hb1) ?_);rintro e w2 ⟨rfl,hg2⟩
   rw [hhd]
   have hb2:Below w.heap.size w w2:=below_step hb1 hg2
   go_wp2_with fail
   go_ret
   exact ⟨_,rfl,by rw [HA.out];exact HO.out.below hb2,Wrote.same hb2⟩
 cases hsa:sameAt x L
 · have HA:=hide (addL_insert HS.out.2.1 HGX.out hhd hsa)
   have hll:=low_le x L
   go_enter Tryz.func149,Tryz.ntmps149
   go_wp2_with fail
   refine (Calls.mono (pgood_any x _) ?_);rintro e w1 ⟨rfl,hg1⟩
   rw [hgd]
   have hb1:Below w.heap.size w w1:=below_step (below_alloc (Below.refl _ _) _) hg1
   have HX1:=hide ((hg1.block w.heap.size (by simp)).trans (heap_alloc_new w (.cells x.cells.toArray 54)))
   obtain ⟨x0,x1,x2,x3,x4⟩:=box_item HX1.out
   have hz1:w.heap.size < w1.heap.size:=(Array.getElem?_eq_some_iff.1 HX1.out).1
   go_wp2_with fail
   refine (Calls.mono (HH.out _ hb1) ?_);rintro e w2 ⟨rfl,hg2⟩
   rw [hhd]
   have hb2:Below w.heap.size w w2:=below_step hb1 hg2
   have HX2:=hide ((hg2.block w.heap.size hz1).trans HX1.out)
   clear hg2 x0 x1 x2 x3 x4
   obtain ⟨x0,x1,x2,x3,x4⟩:=box_item HX2.out
   have hz2:w.heap.size < w2.heap.size:=(Array.getElem?_eq_some_iff.1 HX2.out).1
   go_wp2_with fail
   refine (Calls.mono (HP.out _ hb2) ?_);rintro e w3 ⟨rfl,hg3⟩
   rw [hsa]
   have hb3:Below w.heap.size w w3:=below_step hb2 hg3
   have HX3:=hide ((hg3.block w.heap.size hz2).trans HX2.out)
   clear hg3 x0 x1 x2 x3 x4
   obtain ⟨x0,x1,x2,x3,x4⟩:=box_item HX3.out
   have hz3:w.heap.size < w3.heap.size:=(Array.getElem?_eq_some_iff.1 HX3.out).1
   generalize hq:lowI x L=q at *
   have HQ:=hide hq
   clear hq
   go_wp2_with fail
   refine wp_region_near (by kernel_rfl) (by kernel_rfl) ?_
   repeat (go_big_quiet_step (fail))
   refine wpQuiet_nil ?_
   intro _ hw'
   obtain ⟨s1,rfl⟩:=hw'
   have hb4:Below w.heap.size w s1.at_:=below_step hb3 s1.is
   have HX4:=hide ((s1.is.block w.heap.size hz3).trans HX3.out)
   clear x0 x1 x2 x3 x4
   obtain ⟨x0,x1,x2,x3,x4⟩:=box_item HX4.out
   have hz4:w.heap.size < s1.at_.heap.size:=(Array.getElem?_eq_some_iff.1 HX4.out).1
   have hgo:=HO.out.lt
   have hnx:(Value.slice A L.length c).ownBlock ≠ some w.heap.size:=fun e=>by have:=(hgo _ e).2;omega
   have hny:(Value.slice A L.length c).ownBlock ≠ some s1.at_.heap.size:=fun e=>by have:=(hgo _ e).2;omega
   have hb5:=below_alloc hb4 (.cells x.cells.toArray 54)
   go_wp2_with fail
   refine (Calls.mono (ins_any s1.at_.heap.size base _ L x q _ (HO.out.below hb5) (Nat.le_trans hbase hb5.size) (heap_alloc_new s1.at_ _) hny (by omega) (by omega)) ?_);rintro e w5 ⟨v5,rfl,ho5,hw5⟩
   have HX5:=hide (hw5.far ((Below.heap_alloc s1.at_ _ _ hz4).trans HX4.out) hnx)
   have hn5:v5.ownBlock ≠ some w.heap.size:=fun e=>by
     rcases hw5.lies with h | ⟨g,h,hg⟩
     · rw [h] at e;exact hnx e
     · rw [h] at e;injection e with e;simp at hg;omega
   go_wp2_with fail
   refine (Calls.mono (del_any 215 #[.pointer (some ⟨w.heap.size,0,none⟩)] HC.out (hidesB x) base v5 _ w5 ho5 (addc_tells x w.heap.size _ _ w5 HX5.out hn5)) ?_);rintro e w6 ⟨v6,rfl,ho6,hw6⟩
   go_wp2_with fail
   go_ret
   exact ⟨_,rfl,by rw [HA.out];exact ho6,Wrote.below hb5 (hw5.trans hw6)⟩
 · obtain ⟨hlt,hse⟩:=sameAt_true hsa
   have hAw:=fun hw=>addL_store HS.out.2.1 HGX.out hhd hsa hlt hw
   have hAb:=fun hw=>addL_beaten HS.out.2.1 HGX.out hhd hsa hlt hw
   obtain ⟨bl,off,rfl,hbb,y0,y1,y2,y3,y4⟩:=ItemsAt.item HR.out (Below.refl _ _) hlt
   have HAW:=hide hAw
   have HAB:=hide hAb
   clear hse hAw hAb
   have hhL:(lowI x L:Int) < (L.length:Int):=by omega
   generalize L[lowI x L]=y at *
   generalize hq:lowI x L=q at *
   have HQ:=hide hq
   clear hq
   go_enter Tryz.func149,Tryz.ntmps149
   go_wp2_with fail
   refine (Calls.mono (pgood_any x _) ?_);rintro e w1 ⟨rfl,hg1⟩
   rw [hgd]
   have hb1:Below w.heap.size w w1:=below_step (below_alloc (Below.refl _ _) _) hg1
   have HX1:=hide ((hg1.block w.heap.size (by simp)).trans (heap_alloc_new w (.cells x.cells.toArray 54)))
   obtain ⟨x0,x1,x2,x3,x4⟩:=box_item HX1.out
   have hz1:w.heap.size < w1.heap.size:=(Array.getElem?_eq_some_iff.1 HX1.out).1
   go_wp2_with fail
   refine (Calls.mono (HH.out _ hb1) ?_);rintro e w2 ⟨rfl,hg2⟩
   rw [hhd]
   have hb2:Below w.heap.size w w2:=below_step hb1 hg2
   have HX2:=hide ((hg2.block w.heap.size hz1).trans HX1.out)
   clear hg2 x0 x1 x2 x3 x4
   obtain ⟨x0,x1,x2,x3,x4⟩:=box_item HX2.out
   have hz2:w.heap.size < w2.heap.size:=(Array.getElem?_eq_some_iff.1 HX2.out).1
   go_wp2_with fail
   refine (Calls.mono (HP.out _ hb2) ?_);rintro e w3 ⟨rfl,hg3⟩
   rw [hsa]
   have hb3:Below w.heap.size w w3:=below_step hb2 hg3
   have HX3:=hide ((hg3.block w.heap.size hz2).trans HX2.out)
   clear hg3 x0 x1 x2 x3 x4
   obtain ⟨x0,x1,x2,x3,x4⟩:=box_item HX3.out
   have hz3:w.heap.size < w3.heap.size:=(Array.getElem?_eq_some_iff.1 HX3.out).1
   have hnc:=near_cells w3
   have hbl3:bl < w3.heap.size:=Nat.lt_of_lt_of_le hbb hb3.size
   have y0:=(hb3.cell (p:=⟨bl,_,none⟩) hbb).trans y0
   have y1:=(hb3.cell (p:=⟨bl,_,none⟩) hbb).trans y1
   have y2:=(hb3.cell (p:=⟨bl,_,none⟩) hbb).trans y2
   have y3:=(hb3.cell (p:=⟨bl,_,none⟩) hbb).trans y3
   have y4:=(hb3.cell (p:=⟨bl,_,none⟩) hbb).trans y4
   cases hwi:winsB x y
   all_goals
     go_wp2_with fail
     refine wp_region_near (by kernel_rfl) (by kernel_rfl) ?_
     repeat (go_big_quiet_step (exact near_of (pwins_any x y _)))
     refine wpQuiet_nil ?_
     intro _ hw'
     obtain ⟨s1,rfl⟩:=hw'
     rw [hwi]
     have hb4:Below w.heap.size w s1.at_:=below_step hb3 s1.is
   · have HA:=hide (HAB.out hwi)
     go_wp2_with fail
     go_ret
     exact ⟨_,rfl,by rw [HA.out];exact HO.out.below hb4,Wrote.same hb4⟩
   · have HA:=hide (HAW.out hwi)
     have HX4:=hide ((s1.is.block w.heap.size hz3).trans HX3.out)
     clear x0 x1 x2 x3 x4 y0 y1 y2 y3 y4
     obtain ⟨x0,x1,x2,x3,x4⟩:=box_item HX4.out
     have hz4:w.heap.size < s1.at_.heap.size:=(Array.getElem?_eq_some_iff.1 HX4.out).1
     have ho4:=HO.out.below hb4
     rcases ho4 with ⟨_,h0⟩ | ⟨g,cap,R,hv,hbg,hgr,hnc',hcm,hfit⟩
     · subst h0;simp at hlt
     · injection hv with hv1 hv2 hv3
       injection hv1 with hv1
       injection hv1 with hv4 hv5 _
       subst hv3 hv4 hv5
       have HGR:=hide hgr
       obtain ⟨z0,z1,z2,z3,z4⟩:=row_item5 hgr (k:=q) hlt
       have hfz:=row_free hgr
       clear hgr hnc
       have hne:¬ (w.heap.size=bl):=by omega
       have hne2:¬ (bl=w.heap.size):=by omega
       have hls:(L.set q x).length=L.length:=List.length_set
       have hog:Og base (put5 s1.at_ bl (q * 5) x) (.slice (some ⟨bl,0,none⟩) L.length c) (L.set q x) :=
         .inr ⟨bl,c,R,by rw [hls],hbg,put5_row HGR.out hlt,by rw [hls];exact hnc',hcm,by rw [hls];exact hfit⟩
       have hnx:(Value.slice (some ⟨bl,0,none⟩) L.length c).ownBlock ≠ some w.heap.size:=fun e=>hne2 (by injection e)
       have hnx2:(some bl:Option Nat) ≠ some w.heap.size:=fun e=>hne2 (by injection e)
       have HOG:=hide hog
       have HT:=hide (addc_tells x w.heap.size (L.set q x) (Value.slice (some ⟨bl,0,none⟩) L.length c).ownBlock (put5 s1.at_ bl (q * 5) x) (grown_far (put5_grown _ bl _ x) HX4.out hnx2) hnx)
       clear hls hog hnx hnx2
       go_wp2_with fail
       refine (Calls.mono (del_any 215 #[.pointer (some ⟨w.heap.size,0,none⟩)] HC.out (hidesB x) base _ (L.set q x) (put5 s1.at_ bl (q * 5) x) HOG.out HT.out) ?_);rintro e w6 ⟨v6,rfl,ho6,hw6⟩
       go_wp2_with fail
       go_ret
       exact ⟨_,rfl,by rw [HA.out];exact ho6,Wrote.below hb4 (Wrote.trans ⟨put5_grown _ bl (q * 5) x,.inl rfl⟩ hw6)⟩
end Go.Proofs.YtgmkckjedngkdaaGreatDoor
namespace Go.Proofs.YtgmkckjedngkdaaGreatDoor
open Go.ChangeShapes Go.WideShapes Go.ChangeAt Go.RowKit
def RetOf (L:List It) (w:World) (e:Ending) (w':World):Prop:=∃ v,e=.returned v∧Og w.heap.size w' v L∧Below w.heap.size w w'
theorem pok_sl {v:Value} {L:List It} {w:World} (h:Sl w v L) (hn:L.length≤4611686018427387904):Calls Tryz.prog 148 #[v] w fun e w'=>e=.returned (.bool (stateB L))∧Below w.heap.size w w':=by
 obtain ⟨A,c,rfl,hL,h1,h2⟩:=h
 exact pok_any A c L w hL h1 hn
theorem own_sl {v:Value} {L:List It} {w:World} (h:Sl w v L) (hn:L.length≤2199023255552):Calls Tryz.prog 147 #[v] w (RetOw L w):=by
 obtain ⟨A,c,rfl,hL,h1,h2⟩:=h
 exact own_any A c L w hL hn
theorem clip_og {base:Nat} {v:Value} {L:List It} {w:World} (h:Og base w v L):Calls Tryz.prog 138 #[v] w fun e w'=>(∃ v',e=.returned v'∧Og base w v' L)∧w=w':=by
 rcases h with ⟨rfl,rfl⟩ | ⟨g,cap,R,rfl,hb,hg,hnc,hcm,hfit⟩
 · refine (clip_any none 0 0 w (by omega) (by simp)).mono ?_
   rintro e w' ⟨rfl,rfl⟩
   exact ⟨⟨_,rfl,Og.nil_ _ _⟩,rfl⟩
 · refine (clip_any _ L.length cap w hnc hcm).mono ?_
   rintro e w' ⟨rfl,rfl⟩
   exact ⟨⟨_,rfl,.inr ⟨g,L.length,R,rfl,hb,hg,Nat.le_refl _,Nat.le_trans hnc hcm,by omega⟩⟩,rfl⟩
theorem below_wrote {B base:Nat} {w0 w w':World} {v v':Value} {L:List It} (h:Below B w0 w) (ho:Og base w v L) (k:Wrote w w' v v') (hB:B≤base) (hs:B≤w.heap.size):Below B w0 w':=below_grown h ho k.grown hB hs
set_option maxHeartbeats 3200000 in
theorem pjoin_state (va:Value) (La:List It) (A:Option Addr) (c:Nat) (L:List It) (w:World) (ha:Sl w va La) (hL:ItemsAt w A L) (hst:IsState La) (hna:La.length≤274877906944) (hn:L.length≤274877906944) :
   Calls Tryz.prog 69 #[va,.slice A L.length c] w (RetOf (L.foldl addL La) w):=by
 have HL:=hide hL
 have HA:=hide ha
 have HS:=hide hst
 have hsb:=stateB_true hst
 clear hL ha hst
 go_enter Tryz.func69,Tryz.ntmps69
 go_wp2_with fail
 refine (Calls.mono (own_sl HA.out (by omega)) ?_);rintro e w1 ⟨v1,rfl,ho1,hg1⟩
 go_wp2_with fail
 refine (Calls.mono (pok_sl (HA.out.below hg1) (by omega)) ?_);rintro e w2 ⟨rfl,hg2⟩
 rw [hsb]
 have HB2:=hide (below_step hg1 hg2)
 have HO2:=hide ((ho1.below hg2).og)
 clear hg1 hg2 ho1
 go_wp2_with fail
 go_loopw [5,17] (fun v i wr=>∃ k:Nat,i=.int .i64 k∧k≤L.length∧Below w.heap.size w wr∧Og w.heap.size wr v ((L.take k).foldl addL La)) (fun _ i _=>L.length - (intOf i).toNat)
 case atStart=>exact ⟨0,rfl,by omega,HB2.out,HO2.out⟩
 case round =>
   obtain ⟨k,rfl,hk,hb,ho⟩:=hrel
   have HB:=hide hb
   have HO:=hide ho
   clear hb ho
   by_cases hlt:k < L.length
   · obtain ⟨bl,off,rfl,hbb,y0,y1,y2,y3,y4⟩:=ItemsAt.item HL.out HB.out hlt
     have hbl:bl < wr.heap.size:=Nat.lt_of_lt_of_le hbb HB.out.size
     have HF:Hid ((L.take (k+1)).foldl addL La=addL ((L.take k).foldl addL La) L[k]):=hide (by rw [List.take_succ_eq_append_getElem hlt,List.foldl_append];rfl)
     have HN:=hide (foldl_state (L.take k) HS.out)
     have hNl:((L.take k).foldl addL La).length≤La.length+k:=Nat.le_trans (foldl_len _ _) (by have:=List.length_take_le k L;omega)
     generalize (L.take k).foldl addL La=N at *
     generalize L[k]=y at *
     go_wp2_with fail
     refine (Calls.mono (add_any w.heap.size _ N y _ (HO.out.below (below_alloc (Below.refl _ _) _)) (Nat.le_trans HB.out.size (by simp)) HN.out (by omega)) ?_);rintro e w3 ⟨v3,rfl,ho3,hw3⟩
     have hb3:Below w.heap.size w w3:=below_wrote (below_alloc HB.out _) (HO.out.below (below_alloc (Below.refl _ _) _)) hw3 (Nat.le_refl _) (Nat.le_trans HB.out.size (by simp))
     go_wp2_with fail
     go_roundw
     case rel=>exact ⟨k+1,by go_num,by omega,hb3,by rw [HF.out];exact ho3⟩
     case measure=>simp [intOf];omega
   · obtain rfl:k=L.length:=by omega
     have HO2:=HO.out
     rw [List.take_length] at HO2
     go_wp2_with fail
     refine (Calls.mono (clip_og HO2) ?_);rintro e w3 ⟨⟨v3,rfl,ho3⟩,rfl⟩
     go_wp2_with fail
     go_ret
     exact ⟨_,rfl,ho3,HB.out⟩
theorem pof_any (A:Option Addr) (c:Nat) (L:List It) (w:World) (hL:ItemsAt w A L) (hn:L.length≤274877906944):Calls Tryz.prog 70 #[.slice A L.length c] w (RetOf (ofL L) w):=by
 have H:=hide (pjoin_state (.slice none 0 0) [] A c L w (Sl.nil_ w) hL IsState.nil_ (by simp) hn)
 clear hL
 go_enter Tryz.func70,Tryz.ntmps70
 go_wp2_with fail
 refine (Calls.mono H.out ?_);rintro e w1 ⟨v1,rfl,ho1,hg1⟩
 go_wp2_with fail
 go_ret
 exact ⟨_,rfl,ho1,hg1⟩
theorem pof_sl {v:Value} {L:List It} {w:World} (h:Sl w v L) (hn:L.length≤274877906944):Calls Tryz.prog 70 #[v] w (RetOf (ofL L) w):=by
 obtain ⟨A,c,rfl,hL,h1,h2⟩:=h
 exact pof_any A c L w hL hn
set_option maxHeartbeats 3200000 in
theorem pjoin_not (va:Value) (La:List It) (A:Option Addr) (c:Nat) (L:List It) (w:World) (ha:Sl w va La) (hL:ItemsAt w A L) (hsb:stateB La=false) (hna:La.length≤274877906944) (hn:L.length≤274877906944) :
   Calls Tryz.prog 69 #[va,.slice A L.length c] w (RetOf (L.foldl addL (ofL La)) w):=by
 have HL:=hide hL
 have HA:=hide ha
 have hol:=ofL_len La
 clear hL ha
 go_enter Tryz.func69,Tryz.ntmps69
 go_wp2_with fail
 refine (Calls.mono (own_sl HA.out (by omega)) ?_);rintro e w1 ⟨v1,rfl,ho1,hg1⟩
 go_wp2_with fail
 refine (Calls.mono (pok_sl (HA.out.below hg1) (by omega)) ?_);rintro e w2 ⟨rfl,hg2⟩
 rw [hsb]
 have HB2:=hide (below_step hg1 hg2)
 clear hg1 hg2 ho1
 go_wp2_with fail
 refine (Calls.mono (pof_sl (HA.out.below HB2.out) hna) ?_);rintro e w3 ⟨v3,rfl,ho3,hg3⟩
 have HB3:=hide (below_step HB2.out hg3)
 have HO3:=hide (ho3.base_ HB2.out.size)
 clear hg3 ho3
 go_wp2_with fail
 go_loopw [5,17] (fun v i wr=>∃ k:Nat,i=.int .i64 k∧k≤L.length∧Below w.heap.size w wr∧Og w.heap.size wr v ((L.take k).foldl addL (ofL La))) (fun _ i _=>L.length - (intOf i).toNat)
 case atStart=>exact ⟨0,rfl,by omega,HB3.out,HO3.out⟩
 case round =>
   obtain ⟨k,rfl,hk,hb,ho⟩:=hrel
   have HB:=hide hb
   have HO:=hide ho
   clear hb ho
   by_cases hlt:k < L.length
   · obtain ⟨bl,off,rfl,hbb,y0,y1,y2,y3,y4⟩:=ItemsAt.item HL.out HB.out hlt
     have hbl:bl < wr.heap.size:=Nat.lt_of_lt_of_le hbb HB.out.size
     have HF:Hid ((L.take (k+1)).foldl addL (ofL La)=addL ((L.take k).foldl addL (ofL La)) L[k]):=hide (by rw [List.take_succ_eq_append_getElem hlt,List.foldl_append];rfl)
     have HN:=hide (foldl_state (L.take k) (ofL_state La))
     have hNl:((L.take k).foldl addL (ofL La)).length≤(ofL La).length+k:=Nat.le_trans (foldl_len _ _) (by have:=List.length_take_le k L;omega)
     generalize (L.take k).foldl addL (ofL La)=N at *
     generalize L[k]=y at *
     go_wp2_with fail
     refine (Calls.mono (add_any w.heap.size _ N y _ (HO.out.below (below_alloc (Below.refl _ _) _)) (Nat.le_trans HB.out.size (by simp)) HN.out (by omega)) ?_);rintro e w4 ⟨v4,rfl,ho3,hw3⟩
     have hb3:Below w.heap.size w w4:=below_wrote (below_alloc HB.out _) (HO.out.below (below_alloc (Below.refl _ _) _)) hw3 (Nat.le_refl _) (Nat.le_trans HB.out.size (by simp))
     go_wp2_with fail
     go_roundw
     case rel=>exact ⟨k+1,by go_num,by omega,hb3,by rw [HF.out];exact ho3⟩
     case measure=>simp [intOf];omega
   · obtain rfl:k=L.length:=by omega
     have HO2:=HO.out
     rw [List.take_length] at HO2
     go_wp2_with fail
     refine (Calls.mono (clip_og HO2) ?_);rintro e w4 ⟨⟨v4,rfl,ho3⟩,rfl⟩
     go_wp2_with fail
     go_ret
     exact ⟨_,rfl,ho3,HB.out⟩
theorem pjoin_sl {v u:Value} {L M:List It} {w:World} (h:Sl w v L) (k:Sl w u M) (hn:L.length≤274877906944) (hm:M.length≤274877906944):Calls Tryz.prog 69 #[v,u] w (RetOf (joinL L M) w):=by
 obtain ⟨A,c,rfl,hM,h1,h2⟩:=k
 cases hs:stateB L
 · have e:joinL L M=M.foldl addL (ofL L):=by unfold joinL;rw [hs];rfl
   rw [e]
   exact pjoin_not v L A c M w h hM hs hn hm
 · rw [joinL_of (stateB_iff.1 hs)]
   exact pjoin_state v L A c M w h hM (stateB_iff.1 hs) hn hm
end Go.Proofs.YtgmkckjedngkdaaGreatDoor
namespace Go.Proofs.YtgmkckjedngkdaaGreatDoor
open Go.ChangeShapes Go.WideShapes Go.ChangeAt Go.RowKit
set_option maxHeartbeats 1600000 in
theorem only_any (F:FuncId) (caps:Array Value) (hcf:Enters Tryz.prog F) (p:It→Bool) (A:Option Addr) (c:Nat) (L:List It) (w:World) (hL:ItemsAt w A L) (hF:Tells F caps p L w) (hn:L.length≤1099511627776) :
   Calls Tryz.prog 86 #[.slice A L.length c,.func (.func F) #[] caps] w (RetOf (L.filter p) w):=by
 have HL:=hide hL
 have HT:=hide hF
 have HCF:=hide hcf
 clear hL hF hcf
 go_enter Tryz.func86,Tryz.ntmps86
 go_wp2_with fail
 go_loopw [5,10] (fun sv i wr=>∃ k:Nat,i=.int .i64 k∧k≤L.length∧Ow w.heap.size wr sv ((L.take k).filter p)∧Below w.heap.size w wr) (fun _ i _=>L.length - (intOf i).toNat)
 case atStart=>exact ⟨0,rfl,by omega,Ow.nil_ _ _,Below.refl _ _⟩
 case round =>
   obtain ⟨k,rfl,hk,hown,hb⟩:=hrel
   have HO:=hide hown
   have HB:=hide hb
   clear hown hb
   by_cases hlt:k < L.length
   · obtain ⟨bl,off,rfl,hbb,y0,y1,y2,y3,y4⟩:=ItemsAt.item HL.out HB.out hlt
     have hcall:=HT.out L[k] (List.getElem_mem _) _ (below_alloc HB.out (.cells L[k].cells.toArray 54))
     have HF1:=hide (filt_in (p:=p) hlt)
     have HF2:=hide (filt_out (p:=p) hlt)
     have hNl:((L.take k).filter p).length≤k:=filt_len _ _ _
     generalize L[k]=y at *
     generalize (L.take k).filter p=N at *
     have HC:=hide hcall
     clear hcall
     have hcf:=HCF.out
     unfold Enters at hcf
     cases hp:p y
     · have HN:=hide (HF2.out hp)
       go_wp2_with fail
       refine (Calls.mono HC.out ?_);rintro e w1 ⟨rfl,hg1⟩
       rw [hp]
       go_wp2_with fail
       go_roundw
       case rel=>exact ⟨k+1,by go_num,by omega,by rw [HN.out];exact (OwnL.alloc HO.out _).below hg1,below_step (below_alloc HB.out _) hg1⟩
       case measure=>simp [intOf];omega
     · have HN:=hide (HF1.out hp)
       go_wp2_with fail
       refine (Calls.mono HC.out ?_);rintro e w1 ⟨rfl,hg1⟩
       rw [hp]
       obtain ⟨x0,x1,x2,x3,x4⟩:=box_item (x:=y) ((hg1.block wr.heap.size (by simp)).trans (heap_alloc_new wr _))
       have hb1:Below w.heap.size w w1:=below_step (below_alloc HB.out _) hg1
       have HO1:Hid (Ow w.heap.size w1 u5 N):=hide ((OwnL.alloc HO.out _).below hg1)
       have HB1:=hide hb1
       clear hb1 hg1
       go_wp2_with (at_builtin;refine wpList_append_item rfl (.tmp 17) (.tmp 19) rfl _ _ _ _ _ _ N y rfl rfl rfl HO1.out HB1.out (Nat.le_refl _) HB1.out.size (by omega) ?_;intro v1 u1 ho1 hbu1 hgu1)
       go_roundw
       case rel=>exact ⟨k+1,by go_num,by omega,by rw [HN.out];exact ho1,hbu1⟩
       case measure=>simp [intOf];omega
   · obtain rfl:k=L.length:=by omega
     have HF:=hide (filt_all p L)
     go_wp2_with fail
     refine (Calls.mono (clip_og (HO.out.og)) ?_);rintro e w3 ⟨⟨v3,rfl,ho3⟩,rfl⟩
     go_wp2_with fail
     go_ret
     exact ⟨_,rfl,by rw [← HF.out];exact ho3,HB.out⟩
theorem box_one {w:World} {g:Nat} {u:Value} {t:TypeId} (h:w.heap[g]? = some (.cells #[u] t (0,0))):w.cell? ⟨g,0,none⟩=some u:=(cell_of_row w g 0 _ _ _ h).trans rfl
set_option maxHeartbeats 400000 in
theorem seriesc_any (y:It) (s:Int) (b:Nat) (w:World) (h:w.heap[b]? = some (.cells #[.int .i64 s] 3 (0,0))):Calls Tryz.prog 163 #[y.val,.pointer (some ⟨b,0,none⟩)] w fun e w'=>e=.returned (.bool (serP s y))∧Below w.heap.size w w':=by
 have c0:=box_one h
 have hb:b < w.heap.size:=(Array.getElem?_eq_some_iff.1 h).1
 clear h
 by_cases hs:y.s=s
 · have HP:Hid (serP s y=true):=hide (decide_eq_true hs)
   have bs:(y.s == s)=true:=beq_iff_eq.2 hs
   clear hs
   go_enter Tryz.func163,Tryz.ntmps163
   go_wp2_with fail
   go_ret
   exact ⟨by rw [HP.out];rfl,below_alloc (Below.refl _ _) _⟩
 · have HP:Hid (serP s y=false):=hide (decide_eq_false hs)
   have bs:(y.s == s)=false:=beq_eq_false_iff_ne.2 hs
   go_enter Tryz.func163,Tryz.ntmps163
   go_wp2_with fail
   go_ret
   exact ⟨by rw [HP.out];rfl,below_alloc (Below.refl _ _) _⟩
theorem pseries_any (A:Option Addr) (c:Nat) (L:List It) (s:Int) (w:World) (hL:ItemsAt w A L) (hn:L.length≤1099511627776):Calls Tryz.prog 84 #[.slice A L.length c,.int .i64 s] w (RetOf (L.filter (serP s)) w):=by
 have hcf:Enters Tryz.prog 163:=fun args W=>by kernel_rfl
 have hb:Below w.heap.size w (w.alloc (.cells #[.int .i64 s] 3)):=below_alloc (Below.refl _ _) _
 have H:=hide (only_any 163 #[.pointer (some ⟨w.heap.size,0,none⟩)] hcf (serP s) A c L (w.alloc (.cells #[.int .i64 s] 3)) (RowAt.below hL hb) (fun y _ w1 h1=>seriesc_any y s w.heap.size w1 ((h1.block _ (by simp)).trans (heap_alloc_new w _))) hn)
 have HB:=hide hb
 clear hL hcf hb
 go_enter Tryz.func84,Tryz.ntmps84
 go_wp2_with fail
 refine (Calls.mono H.out ?_);rintro e w1 ⟨v1,rfl,ho1,hg1⟩
 go_wp2_with fail
 go_ret
 exact ⟨_,rfl,ho1.base_ HB.out.size,below_step HB.out hg1⟩
end Go.Proofs.YtgmkckjedngkdaaGreatDoor
namespace Go.Proofs.YtgmkckjedngkdaaGreatDoor
open Go.ChangeShapes Go.WideShapes Go.ChangeAt Go.RowKit
def fl (M:List Mg):List Value:=M.flatMap Mg.cells
theorem fl_length (M:List Mg):(fl M).length=M.length * 6:=flat_len Mg.cells_len M
theorem fl_one (M:List Mg):∀ u ∈ fl M,u.oneCell'=true:=by
 intro u hu
 obtain ⟨a,_,ha⟩:=List.mem_flatMap.1 hu
 exact Mg.cells_one a u ha
theorem fl_app (L M:List Mg):fl (L ++ M)=fl L ++ fl M:=List.flatMap_append
theorem fl_split (M:List Mg) (i:Nat):fl M=fl (M.take i) ++ fl (M.drop i):=by rw [← fl_app,List.take_append_drop]
theorem heap_cells {g:Nat} {t:TypeId}:∀ (news:List Value) (off:Nat) (cur:List Value) (w:World),w.heap[g]? = some (.cells cur.toArray t (0,0))→off+news.length≤cur.length →
   (w.setCells g off news).heap[g]? = some (.cells (cur.take off ++ news ++ cur.drop (off+news.length)).toArray t (0,0))
 | [],off,cur,w,h,_=>by simpa [World.setCells] using h
 | v :: r,off,cur,w,h,hl=>by
   simp only [List.length_cons] at hl
   have h1:=heap_cells r (off+1) (cur.set off v) (w.setCell ⟨g,off,none⟩ v) (heap_setE h) (by rw [List.length_set];omega)
   rw [World.setCells,h1]
   congr 3
   have e1:(cur.set off v).take (off+1)=cur.take off ++ [v]:=by
     rw [List.take_succ_eq_append_getElem (by rw [List.length_set];omega),List.take_set_of_le (Nat.le_refl _),List.getElem_set_self]
   rw [e1,List.drop_set_of_lt (by omega)]
   simp only [List.length_cons,List.append_assoc,List.singleton_append]
   congr 3
   omega
theorem setCells_grownM (w:World) (b:Nat) (vs:List Value) (o:Nat):w.grownBy (w.setCells b o vs) (some b):=by
 induction vs generalizing o w with
 | nil=>exact World.grownBy.refl w _
 | cons v r ih =>
   have h2:=ih (w.setCell ⟨b,o,none⟩ v) (o+1)
   rw [World.setCells]
   refine ⟨h2.os,h2.tape,h2.output,Nat.le_trans (by simp) h2.size,fun k hk hne=>?_⟩
   exact (h2.block k (by simpa using hk) hne).trans (Below.heap_setCell w ⟨b,o,none⟩ v k (fun e=>hne (by rw [e])))
theorem _root_.Go.World.grownBy.trans_ {a b c:World} {row:Option Nat} (h:a.grownBy b row) (k:b.grownBy c row):a.grownBy c row :=
 ⟨k.os.trans h.os,k.tape.trans h.tape,k.output.trans h.output,Nat.le_trans h.size k.size,fun i hi hne=>(k.block i (Nat.lt_of_lt_of_le hi h.size) hne).trans (h.block i hi hne)⟩
abbrev zM:Value:=.agg #[.int .i64 0,.int .i64 0,.int .i64 0,.int .u64 0,.int .u64 0,.slice none 0 0]
theorem zeroM_one:∀ v ∈ (Builtin.zeroCells zM.cells 1).toList,v.oneCell'=true:=by
 intro v hv
 simp only [Builtin.zeroCells,Array.toList_flatten,Array.toList_replicate,Array.toList_map,List.mem_flatten,List.mem_map] at hv
 obtain ⟨a,_,rfl⟩:=hv
 have h:a % 6 < 6:=Nat.mod_lt _ (by omega)
 show ((#[.int .i64 0,.int .i64 0,.int .i64 0,.int .u64 0,.int .u64 0,.slice none 0 0]:Array Value)[a % 6]!).oneCell'=true
 generalize a % 6=k at h ⊢
 match k,h with
 | 0,_=>rfl
 | 1,_=>rfl
 | 2,_=>rfl
 | 3,_=>rfl
 | 4,_=>rfl
 | 5,_=>rfl
theorem zeroM_len:(Builtin.zeroCells zM.cells 1).toList.length=6:=by
 rw [Array.length_toList,size_zeroCells];rfl
set_option maxRecDepth 100000 in
set_option maxHeartbeats 1600000 in
theorem delm_any {base:Nat} {v:Value} {M:List Mg} {w:World} (h:OwnL Mg.cells 6 33 base w v M) (i:Nat) (hi:i < M.length) :
   Calls Tryz.prog 176 #[v,.int .i64 i,.int .i64 ((i:Int)+1)] w fun e w'=>∃ v',e=.returned v'∧OwnL Mg.cells 6 33 base w' v' (M.eraseIdx i)∧w.grownBy w' v.ownBlock∧v'.ownBlock=v.ownBlock:=by
 obtain ⟨hlen,hh⟩:=h
 rcases hh with ⟨_,h0⟩ | ⟨g,cap,cur,rfl,hb,hg,hnc,hcm,hcs,htk⟩
 · omega
 obtain ⟨i0,hi0,hz0,hz1,hz2⟩:=info_parts Tryz.infoMsg
 obtain ⟨l,rfl⟩:∃ l:List Value,cur=l.toArray:=⟨cur.toList,by simp⟩
 have hl:l.length=cap * 6:=by simpa using hcs
 rw [List.toList_toArray] at htk
 have hgl:g < w.heap.size:=(Array.getElem?_eq_some_iff.1 hg).1
 have hgd:w.drew.heap[g]? = some (.cells l.toArray 33 (0,0)):=hg
 have hdl:(fl (M.drop (i+1))).length=(M.length - (i+1)) * 6:=by rw [fl_length,List.length_drop]
 have hcell:∀ (j:Nat) (u:Value),(fl (M.drop (i+1)))[j]? = some u→w.drew.cell? ⟨g,(i+1) * 6+j,none⟩=some u:=fun j u hu=>by
   rw [cell_of_row w.drew g _ _ _ _ hgd,List.getElem?_toArray]
   have h1:j < (M.length - (i+1)) * 6:=by rw [← hdl];exact (List.getElem?_eq_some_iff.1 hu).1
   have h2:(l.take (M.length * 6))[(i+1) * 6+j]? = some u:=by
     rw [htk]
     show (fl M)[(i+1) * 6+j]? = some u
     have h3:(fl (M.take (i+1))).length=(i+1) * 6:=by rw [fl_length,List.length_take];congr 1;omega
     rw [fl_split M (i+1),List.getElem?_append_right (by omega),h3,Nat.add_sub_cancel_left]
     exact hu
   rw [List.getElem?_take] at h2
   split at h2
   · exact h2
   · cases h2
 have hsp:∀ j,j < (fl (M.drop (i+1))).length→(w.drew.cell? ⟨g,0+i * 6+j,none⟩).isSome=true∧w.drew.frozen? ⟨g,0+i * 6+j,none⟩=false:=fun j hj=>by
   constructor
   · rw [cell_of_row w.drew g _ _ _ _ hgd,List.getElem?_toArray,List.getElem?_eq_getElem (by rw [hl];omega)]
     rfl
   · simp [World.frozen?,hgd]
 obtain ⟨n,hn⟩:∃ n,M.length=n:=⟨_,rfl⟩
 rw [hn] at hdl hnc hi htk
 have hlE:(M.eraseIdx i).length=n - 1:=by rw [List.length_eraseIdx_of_lt (by omega),hn]
 have hpre:l.take (i * 6)=fl (M.take i):=by
   have h1:l.take (i * 6)=(l.take (n * 6)).take (i * 6):=by rw [List.take_take];congr 1;omega
   rw [h1,htk]
   show (fl M).take (i * 6)=_
   have h3:(fl (M.take i)).length=i * 6:=by rw [fl_length,List.length_take];congr 1;omega
   rw [fl_split M i,← h3,List.take_left]
 have hEL:fl (M.eraseIdx i)=fl (M.take i) ++ fl (M.drop (i+1)):=by rw [List.eraseIdx_eq_take_drop_succ,fl_app]
 have hELl:(fl (M.eraseIdx i)).length=(n - 1) * 6:=by rw [fl_length,hlE]
 have hftl:(l.take (i * 6) ++ fl (M.drop (i+1)) ++ l.drop (i * 6+(fl (M.drop (i+1))).length)).length=cap * 6:=by
   simp only [List.length_append,List.length_take,List.length_drop,hl,hdl];omega
 have hfin:(l.take (i * 6) ++ fl (M.drop (i+1)) ++ l.drop (i * 6+(fl (M.drop (i+1))).length)).take ((n - 1) * 6) ++ (Builtin.zeroCells zM.cells 1).toList ++ (l.take (i * 6) ++ fl (M.drop (i+1)) ++ l.drop (i * 6+(fl (M.drop (i+1))).length)).drop ((n - 1) * 6+(Builtin.zeroCells zM.cells 1).toList.length)=fl (M.eraseIdx i) ++ ((Builtin.zeroCells zM.cells 1).toList ++ l.drop (n * 6)):=by
   rw [zeroM_len,hpre,← hEL]
   rw [← hELl,List.take_left,List.append_assoc]
   congr 2
   rw [List.drop_append,List.drop_eq_nil_of_le (by omega),List.nil_append,List.drop_drop,hdl]
   congr 1
   omega
 have hsz:(fl (M.eraseIdx i) ++ ((Builtin.zeroCells zM.cells 1).toList ++ l.drop (n * 6))).toArray.size=cap * 6:=by
   simp only [List.size_toArray,List.length_append,List.length_drop,hELl,zeroM_len,hl];omega
 have htk2:(fl (M.eraseIdx i) ++ ((Builtin.zeroCells zM.cells 1).toList ++ l.drop (n * 6))).toArray.toList.take ((M.eraseIdx i).length * 6)=(M.eraseIdx i).flatMap Mg.cells:=by
   rw [List.toList_toArray,hlE,← hELl,List.take_left]
   rfl
 have HG:=hide hgd
 have HB:=hide hb
 have HN:Hid ((fl (M.drop (i+1))).length=(n - (i+1)) * 6):=hide hdl
 have HSP:=hide hsp
 have HF:Hid (i * 6+(fl (M.drop (i+1))).length≤l.length):=hide (by rw [hdl,hl];omega)
 have HFT:Hid ((n - 1) * 6+1 * zM.cells.size≤(l.take (i * 6) ++ fl (M.drop (i+1)) ++ l.drop (i * 6+(fl (M.drop (i+1))).length)).length):=hide (by rw [hftl];show (n - 1) * 6+1 * 6≤_;omega)
 have HFIN:=hide hfin
 have HSZ:=hide hsz
 have HTK:=hide htk2
 have HLE:=hide hlE
 have hroom:i+(n - (i+1))≤cap:=by omega
 unfold maxLen at hcm
 have hneq:((i:Int) == (i:Int)+1)=false:=beq_eq_false_iff_ne.2 (by omega)
 have hle1:(i:Int)≤(cap:Int):=by omega
 have hle2:(i:Int)+1≤(n:Int):=by omega
 have hle0:(0:Int)≤(i:Int)+1:=by omega
 have hle4:(i:Int)≤(i:Int)+1:=by omega
 have hle3:(n:Int)≤(cap:Int):=by omega
 have hcn:¬ cap=n - 1:=by omega
 have hn1:((n - 1:Nat):Int)≤(n:Int):=by omega
 have hn2:n - (n - 1)=1:=by omega
 show Calls Tryz.prog 176 #[.slice (some ⟨g,0,none⟩) M.length cap,.int .i64 i,.int .i64 ((i:Int)+1)] w _
 rw [hn]
 clear hlen hg hcs htk hgl hgd hdl hsp hlE hpre hEL hELl hftl hfin hsz htk2 hb hl hz2
 have hle2N:i+1≤n:=by omega
 obtain ⟨D,hD⟩:∃ D,M.drop (i+1)=D:=⟨_,rfl⟩
 rw [hD] at HN HSP HF HFT HFIN hcell
 clear hD
 by_cases hce:cap=i+1
 · have HC:Hid (∀ (j:Nat) (u:Value),(fl (D))[j]? = some u→w.drew.cell? ((⟨g,0,none⟩:Addr).add j)=some u):=hide (fun j u hu=>by
     have h1:=(List.getElem?_eq_some_iff.1 hu).1
     rw [HN.out] at h1
     omega)
   have HN:Hid ((fl (D)).length=0 * 6):=hide (by rw [HN.out];omega)
   have hroom:i+0≤cap:=by omega
   obtain rfl:n=cap:=by omega
   have hce2:i+1=n:=hce.symm
   clear hcell hce
   go_enter Tryz.func176,Tryz.ntmps176
   go_upto_region 5 with fail
   refine j_start [6,7] (by kernel_rfl) ?_
   refine' j_t 0 [2,6,7] rfl (by kernel_rfl) rfl ?y0b ?r0b
   case y0b=>(intro w' hw';go_simp;try with_reducible rfl)
   try go_frame
   refine' j_t 1 [2,6,7] rfl (by kernel_rfl) rfl ?y1b ?r1b
   case y1b=>(intro w' hw';go_simp;try with_reducible rfl)
   try go_frame
   refine' j_t 2 [6,7] rfl (by kernel_rfl) rfl ?y2b ?r2b
   case y2b=>(intro w' hw';go_simp;try with_reducible rfl)
   try go_frame
   refine' j_t 3 [5,6,7] rfl (by kernel_rfl) rfl ?y3b ?r3b
   case y3b=>(intro w' hw';go_simp;try with_reducible rfl)
   try go_frame
   refine' j_t 4 [5,6,7] rfl (by kernel_rfl) rfl ?y4b ?r4b
   case y4b=>(intro w' hw';go_simp;try with_reducible rfl)
   try go_frame
   refine' j_t 5 [6,7] rfl (by kernel_rfl) rfl ?y5b ?r5b
   case y5b=>(intro w' hw';go_simp;try with_reducible rfl)
   try go_frame
   refine' j_l 6 (by kernel_rfl) rfl (by kernel_rfl) (fun K hK=>?s6b)
   refine step_append_room rfl (.tmp 22) (.tmp 25) 35 rfl 33 i0 6 Tryz.underlying35 hi0 hz1 g 0 i n rfl ⟨g,0,none⟩ 0 0 (fl D) rfl HN.out HC.out (fl_one _) hroom HSP.out ?_
   rw [show 0+i * 6=i * 6 by omega]
   refine hK.out _ _ ?_
   clear hK K
   try go_frame
   refine' j_l 7 (by kernel_rfl) rfl (by kernel_rfl) (fun K hK=>?s7b)
   go_simp
   refine hK.out _ _ ?_
   clear hK K
   try go_frame
   refine wpAnyJ_done (by kernel_rfl) ?_ _
   refine NoPanic.normal ?_
   have hw1:((w.drew.setCells g (i * 6) (fl D)).heap[g]? = some (.cells (l.take (i * 6) ++ fl D ++ l.drop (i * 6+(fl D).length)).toArray 33 (0,0))):=heap_cells _ _ _ _ HG.out HF.out
   have hgr:=setCells_grownM w.drew g (fl D) (i * 6)
   obtain ⟨w1,hw1e⟩:∃ w1,w.drew.setCells g (i * 6) (fl D)=w1:=⟨_,rfl⟩
   rw [hw1e] at hw1 hgr
   have HW1:=hide hw1
   have HGR:=hide hgr
   have hin:n - 1=i:=by omega
   rw [hin] at HFT HFIN
   have hni:n - i=1:=by omega
   have HFT:Hid (i * 6+(n - i) * zM.cells.size≤(l.take (i * 6) ++ fl D ++ l.drop (i * 6+(fl D).length)).length):=hide (by rw [hni];exact HFT.out)
   have HZ1:Hid (∀ v ∈ (Builtin.zeroCells zM.cells (n - i)).toList,v.oneCell'=true):=hide (by rw [hni];exact zeroM_one)
   have HNI:=hide hni
   clear hni
   try rw [hw1e]
   clear hw1 hgr hw1e
   go_wp2_with (refine wpList_clear_rowN _ rfl (.tmp 31) 35 rfl 33 i0 _ Tryz.underlying35 hi0 hz0 g (i * 6) (n - i) (n - i) rfl (by omega) _ 33 HW1.out HFT.out HZ1.out ?_;intro w2 hg2 hw2)
   go_ret
   have hg3:=hg2.out
   rw [HNI.out,HFIN.out] at hg3
   refine ⟨.slice (some ⟨g,0,none⟩) i n,rfl,?_,?_,rfl⟩
   · exact ⟨fl_length _,.inr ⟨g,n,_,by rw [HLE.out,hin],HB.out,hg3,by rw [HLE.out];omega,by unfold maxLen;omega,HSZ.out,HTK.out⟩⟩
   · exact (show w.grownBy w1 (some g) from ⟨HGR.out.os,HGR.out.tape,HGR.out.output,HGR.out.size,HGR.out.block⟩).trans_ hw2
 · have HC:Hid (∀ (j:Nat) (u:Value),(fl (D))[j]? = some u→w.drew.cell? ((⟨g,(i+1) * 6,none⟩:Addr).add j)=some u):=hide (fun j u hu=>by
     have h1:=hcell j u hu
     unfold Addr.add
     by_cases hj:j=0
     · simpa [hj] using h1
     · simpa [hj] using h1)
   clear hcell
   go_enter Tryz.func176,Tryz.ntmps176
   go_upto_region 5 with fail
   refine j_start [6,7] (by kernel_rfl) ?_
   refine' j_t 0 [2,6,7] rfl (by kernel_rfl) rfl ?y0a ?r0a
   case y0a=>(intro w' hw';go_simp;try with_reducible rfl)
   try go_frame
   refine' j_t 1 [2,6,7] rfl (by kernel_rfl) rfl ?y1a ?r1a
   case y1a=>(intro w' hw';go_simp;try with_reducible rfl)
   try go_frame
   refine' j_t 2 [6,7] rfl (by kernel_rfl) rfl ?y2a ?r2a
   case y2a=>(intro w' hw';go_simp;try with_reducible rfl)
   try go_frame
   refine' j_t 3 [5,6,7] rfl (by kernel_rfl) rfl ?y3a ?r3a
   case y3a=>(intro w' hw';go_simp;try with_reducible rfl)
   try go_frame
   refine' j_t 4 [5,6,7] rfl (by kernel_rfl) rfl ?y4a ?r4a
   case y4a=>(intro w' hw';go_simp;try with_reducible rfl)
   try go_frame
   refine' j_t 5 [6,7] rfl (by kernel_rfl) rfl ?y5a ?r5a
   case y5a=>(intro w' hw';go_simp;try with_reducible rfl)
   try go_frame
   refine' j_l 6 (by kernel_rfl) rfl (by kernel_rfl) (fun K hK=>?s6a)
   refine step_append_room rfl (.tmp 22) (.tmp 25) 35 rfl 33 i0 6 Tryz.underlying35 hi0 hz1 g 0 i cap rfl ⟨g,(i+1) * 6,none⟩ (n - (i+1)) (cap - (i+1)) (fl D) rfl HN.out HC.out (fl_one _) hroom HSP.out ?_
   rw [show 0+i * 6=i * 6 by omega]
   refine hK.out _ _ ?_
   clear hK K
   try go_frame
   refine' j_l 7 (by kernel_rfl) rfl (by kernel_rfl) (fun K hK=>?s7a)
   go_simp
   refine hK.out _ _ ?_
   clear hK K
   try go_frame
   refine wpAnyJ_done (by kernel_rfl) ?_ _
   refine NoPanic.normal ?_
   have hw1:((w.drew.setCells g (i * 6) (fl D)).heap[g]? = some (.cells (l.take (i * 6) ++ fl D ++ l.drop (i * 6+(fl D).length)).toArray 33 (0,0))):=heap_cells _ _ _ _ HG.out HF.out
   have hgr:=setCells_grownM w.drew g (fl D) (i * 6)
   obtain ⟨w1,hw1e⟩:∃ w1,w.drew.setCells g (i * 6) (fl D)=w1:=⟨_,rfl⟩
   rw [hw1e] at hw1 hgr
   have HW1:=hide hw1
   have HGR:=hide hgr
   rw [show i+(n - (i+1))=n - 1 by omega]
   try rw [hw1e]
   clear hw1 hgr hw1e
   go_wp2_with (refine wpList_clear_rowN _ rfl (.tmp 31) 35 rfl 33 i0 _ Tryz.underlying35 hi0 hz0 g ((n - 1) * 6) 1 (cap - (n - 1)) rfl (by omega) _ 33 HW1.out HFT.out zeroM_one ?_;intro w2 hg2 hw2)
   go_ret
   have hg3:=hg2.out
   rw [HFIN.out] at hg3
   refine ⟨.slice (some ⟨g,0,none⟩) (n - 1) cap,rfl,?_,?_,rfl⟩
   · exact ⟨fl_length _,.inr ⟨g,cap,_,by rw [HLE.out],HB.out,hg3,by rw [HLE.out];omega,by unfold maxLen;omega,HSZ.out,HTK.out⟩⟩
   · exact (show w.grownBy w1 (some g) from ⟨HGR.out.os,HGR.out.tape,HGR.out.output,HGR.out.size,HGR.out.block⟩).trans_ hw2
end Go.Proofs.YtgmkckjedngkdaaGreatDoor
namespace Go.Proofs.YtgmkckjedngkdaaGreatDoor
open Go.ChangeShapes Go.WideShapes Go.ChangeAt Go.RowKit
theorem iadd_any (b o:Nat) (n y:Int) (w:World) (h:w.cell? ⟨b,o,none⟩=some (.int .i64 n)) (hz:w.frozen? ⟨b,o,none⟩=false) (hs:IntKind.i64.wrap (n+y)=n+y) :
   Calls Tryz.prog 229 #[.pointer (some ⟨b,o,none⟩),.int .i64 y] w fun e w'=>e=.returned (.int .i64 (n+y))∧w'=w.setCell ⟨b,o,none⟩ (.int .i64 (n+y)):=by
 have hadd:=run_call_add (P:=Tryz.prog) Tryz.func284 (by kernel_rfl) (by kernel_rfl) (by kernel_rfl) .i64 (by kernel_rfl) (y:=y) (s:=n+y) h hz (by simp [go_sem,hs])
 go_enter Tryz.func229,Tryz.ntmps229
 go_wp2
 go_ret
 exact ⟨rfl,rfl⟩
def Mg.bare (m:Mg):Mg:={ m with A:=none,c:=0 }
theorem bare_same (m:Mg):Mg.same m m.bare:=⟨rfl,rfl,rfl,rfl,rfl,rfl⟩
def nwC (m:Int) (v:Value) (a b:Int):Array Value:=#[.int .i64 m,v,.int .i64 a,.int .i64 b]
theorem nw_box {w:World} {b:Nat} {v:Value} {m l s:Int} {t:TypeId} (h:w.heap[b]? = some (.cells (nwC m v l s) t (0,0))):b < w.heap.size ∧
   (w.cell? ⟨b,0,none⟩=some (.int .i64 m)∧w.cell? ⟨b,1,none⟩=some v∧w.cell? ⟨b,2,none⟩=some (.int .i64 l)∧w.cell? ⟨b,3,none⟩=some (.int .i64 s))∧∀ o,w.frozen? ⟨b,o,none⟩=false :=
 ⟨(Array.getElem?_eq_some_iff.1 h).1,⟨(cell_of_row w b 0 _ _ _ h).trans rfl,(cell_of_row w b 1 _ _ _ h).trans rfl,(cell_of_row w b 2 _ _ _ h).trans rfl,(cell_of_row w b 3 _ _ _ h).trans rfl⟩,fun o=>by simp [World.frozen?,h]⟩
theorem nw_put1 {w:World} {b:Nat} {v:Value} {m l s:Int} {t:TypeId} (u:Value) (h:w.heap[b]? = some (.cells (nwC m v l s) t (0,0))):(w.setCell ⟨b,1,none⟩ u).heap[b]? = some (.cells (nwC m u l s) t (0,0)):=by
 simp [World.setCell,Array.getElem?_modify,h,nwC]
theorem nw_put3 {w:World} {b:Nat} {v:Value} {m l s:Int} {t:TypeId} (x:Int) (h:w.heap[b]? = some (.cells (nwC m v l s) t (0,0))):(w.setCell ⟨b,3,none⟩ (.int .i64 x)).heap[b]? = some (.cells (nwC m v l x) t (0,0)):=by
 simp [World.setCell,Array.getElem?_modify,h,nwC]
structure NetV (w:World) (b:Nat) (v:Value) (m:Nat) (M:List Mg) (l s:Int):Prop where
 box:w.heap[b]? = some (.cells (nwC m v l s) 168 (0,0))
 own:OwnL Mg.cells 6 33 (b+1) w v M
 rd:∀ x ∈ M,x.rd w∧∀ a,x.A=some a→x.L ≠ []→b < a.block∧v.ownBlock ≠ some a.block
structure NetW (w:World) (b:Nat) (rb:Option Nat) (m:Nat) (C:List Mg) (l s:Int):Prop where
 at_:∃ v M,NetV w b v m M l s∧v.ownBlock=rb∧M.map Mg.bare=C
 ok:∀ c ∈ C,mokB c=true
def NBlk (b:Nat) (rb:Option Nat) (c:Nat):Prop:=c=b ∨ rb=some c
def MovedB (w:World) (rb rb':Option Nat):Prop:=rb'=rb ∨ ∃ g,w.heap.size≤g∧rb'=some g
theorem NetV.below {w w':World} {b:Nat} {v:Value} {m:Nat} {M:List Mg} {l s:Int} (h:NetV w b v m M l s) (hb:Below w.heap.size w w'):NetV w' b v m M l s :=
 ⟨(hb.block b (Array.getElem?_eq_some_iff.1 h.box).1).trans h.box,OwnL.below h.own hb,fun x hx=>⟨(h.rd x hx).1.below hb,(h.rd x hx).2⟩⟩
theorem NetW.below {w w':World} {b:Nat} {rb:Option Nat} {m:Nat} {C:List Mg} {l s:Int} (h:NetW w b rb m C l s) (hb:Below w.heap.size w w'):NetW w' b rb m C l s:=by
 obtain ⟨v,M,h1,h2,h3⟩:=h.at_
 exact ⟨⟨v,M,h1.below hb,h2,h3⟩,h.ok⟩
theorem NetW.lt {w:World} {b:Nat} {rb:Option Nat} {m:Nat} {C:List Mg} {l s:Int} (h:NetW w b rb m C l s):b < w.heap.size:=by
 obtain ⟨v,M,h1,h2,h3⟩:=h.at_
 exact (Array.getElem?_eq_some_iff.1 h1.box).1
theorem NetW.row_lt {w:World} {b:Nat} {rb:Option Nat} {m:Nat} {C:List Mg} {l s:Int} (h:NetW w b rb m C l s):∀ g,rb=some g→b < g∧g < w.heap.size:=by
 obtain ⟨v,M,h1,rfl,h3⟩:=h.at_
 intro g hg
 have:=OwnL.lt h1.own g hg
 exact ⟨by omega,this.2⟩
theorem NetW.blk_lt {w:World} {b:Nat} {rb:Option Nat} {m:Nat} {C:List Mg} {l s:Int} (h:NetW w b rb m C l s) {c:Nat} (hc:NBlk b rb c):b≤c∧c < w.heap.size:=by
 rcases hc with rfl | hc
 · exact ⟨Nat.le_refl _,h.lt⟩
 · have:=h.row_lt c hc;exact ⟨by omega,this.2⟩
theorem NetV.slice {w:World} {b:Nat} {v:Value} {m:Nat} {M:List Mg} {l s:Int} (h:NetV w b v m M l s):∃ A c,v=.slice A M.length c∧RowAt Mg.cells 6 w A M∧M.length≤c∧c≤maxLen:=by
 obtain ⟨A,c,e,hr,_,h1,h2⟩:=OwnL.row Mg.cells_len h.own
 exact ⟨A,c,e,hr,h1,h2⟩
def capN (n:Int):Nat:=(min (max n 1) 1000).toNat
set_option maxRecDepth 100000 in
set_option maxHeartbeats 1000000 in
theorem nnew_any (n:Int) (w:World):Calls Tryz.prog 40 #[.int .i64 n] w fun e w'=>∃ b,e=.returned (.pointer (some ⟨b,0,none⟩))∧NetW w' b none (capN n) [] 0 0∧w.heap.size≤b∧Below w.heap.size w w':=by
 have hb:=below_alloc (Below.refl w.heap.size w) (.cells (nwC (capN n) (.slice none 0 0) 0 0) 168)
 have HB:=hide hb
 have HN:Hid (NetW (w.alloc (.cells (nwC (capN n) (.slice none 0 0) 0 0) 168)) w.heap.size none (capN n) [] 0 0):=hide ⟨⟨.slice none 0 0,[],⟨heap_alloc_new w _,OwnL.nil_ _ _ _ _ _,fun x hx=>by cases hx⟩,rfl,rfl⟩,fun x hx=>by cases hx⟩
 unfold nwC at HB HN
 have HC:Hid (((capN n:Nat):Int)=min (max n 1) 1000):=hide (by unfold capN;omega)
 rw [HC.out] at HB HN
 clear hb
 by_cases h1:1 < n
 · have hm:max n 1=n:=by omega
   rw [hm] at HB HN
   have d1:¬ n < 1:=by omega
   have d1':1≤n:=by omega
   by_cases h2:n < 1000
   · have hm2:min n 1000=n:=by omega
     rw [hm2] at HB HN
     have d2:n≤1000:=by omega
     have d3:¬ 1000 < n:=by omega
     go_enter Tryz.func40,Tryz.ntmps40
     go_wp2_with fail
     go_ret
     exact ⟨_,rfl,HN.out,Nat.le_refl _,HB.out⟩
   · have hm2:min n 1000=1000:=by omega
     rw [hm2] at HB HN
     by_cases h3:n=1000
     · subst h3
       go_enter Tryz.func40,Tryz.ntmps40
       go_wp2_with fail
       go_ret
       exact ⟨_,rfl,HN.out,Nat.le_refl _,HB.out⟩
     have d3:1000≤n:=by omega
     have d4:¬ n≤1000:=by omega
     have d5:1000 < n:=by omega
     go_enter Tryz.func40,Tryz.ntmps40
     go_wp2_with fail
     go_ret
     exact ⟨_,rfl,HN.out,Nat.le_refl _,HB.out⟩
 · have hm:max n 1=1:=by omega
   rw [hm] at HB HN
   have hm2:min (1:Int) 1000=1:=by omega
   rw [hm2] at HB HN
   by_cases h3:n=1
   · subst h3
     go_enter Tryz.func40,Tryz.ntmps40
     go_wp2_with fail
     go_ret
     exact ⟨_,rfl,HN.out,Nat.le_refl _,HB.out⟩
   have d1:n≤1:=by omega
   have d4:¬ 1≤n:=by omega
   have d5:n < 1:=by omega
   go_enter Tryz.func40,Tryz.ntmps40
   go_wp2_with fail
   go_ret
   exact ⟨_,rfl,HN.out,Nat.le_refl _,HB.out⟩
theorem nlen_any {w:World} {b:Nat} {rb:Option Nat} {m:Nat} {C:List Mg} {l s:Int} (h:NetW w b rb m C l s):Calls Tryz.prog 51 #[.pointer (some ⟨b,0,none⟩)] w fun e w'=>e=.returned (.int .i64 C.length)∧w'=w:=by
 obtain ⟨v,M,h1,_,rfl⟩:=h.at_
 obtain ⟨A,c,rfl,_⟩:=h1.slice
 obtain ⟨_,⟨q0,q1,q2,q3⟩,_⟩:=nw_box h1.box
 rw [List.length_map]
 clear h h1
 go_enter Tryz.func51,Tryz.ntmps51
 go_wp2_with fail
 go_ret
 exact ⟨rfl,rfl⟩
def hasB (n:Nat) (i:Int):Bool:=decide (0≤i) && decide (i < (n:Int))
theorem has_any {w:World} {b:Nat} {A:Option Addr} {n c:Nat} (i:Int) (h:w.cell? ⟨b,1,none⟩=some (.slice A n c)):Calls Tryz.prog 175 #[.pointer (some ⟨b,0,none⟩),.int .i64 i] w fun e w'=>e=.returned (.bool (hasB n i))∧w'=w:=by
 by_cases h0:0≤i
 · by_cases h1:i < (n:Int)
   · have HV:Hid (hasB n i=true):=hide (by simp [hasB,h0,h1])
     rw [HV.out]
     go_enter Tryz.func175,Tryz.ntmps175
     go_wp2_with fail
     go_ret
     exact ⟨rfl,rfl⟩
   · have HV:Hid (hasB n i=false):=hide (by simp [hasB,h1])
     rw [HV.out]
     go_enter Tryz.func175,Tryz.ntmps175
     go_wp2_with fail
     go_ret
     exact ⟨rfl,rfl⟩
 · have HV:Hid (hasB n i=false):=hide (by simp [hasB];omega)
   rw [HV.out]
   go_enter Tryz.func175,Tryz.ntmps175
   go_wp2_with fail
   go_ret
   exact ⟨rfl,rfl⟩
end Go.Proofs.YtgmkckjedngkdaaGreatDoor
