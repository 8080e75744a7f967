/- A part of the proof that TopQuotaLaw holds: XZDskC, XZDskD. Conditions: as typed. -/
import Derived.Test.YtgmkckjedngkdaaGreatDoorTq12
set_option linter.unusedVariables false
set_option linter.unusedSimpArgs false
namespace Go.Proofs.YtgmkckjedngkdaaGreatDoor
open Go.ChangeShapes Go.WideShapes Go.ChangeAt Go.RowKit
theorem wpList_append_valsM {P:Program} {α:Type} {val:α→Value} {ops:Array Oper} {rest:List Oper} {o:Oper} {a:Act} {w:World} {Q:Exit→Act→World→Prop} (hgd:o.guard=none) (s x:Operand) (t e:TypeId) (z:Value) (bytes:Nat)
   (ho:o.op=.call { callee:=.builtin .append,args:=#[s,x],argTypes:=#[t,t] })
   (ht:P.underlying t=some (.slice e)) (hinf:(P.info? e).map (fun i=>(i.zero,i.size,i.bytes))=some (some z,1,bytes)) (hzs:z.cells.size=1) (h1:∀ a,(val a).oneCell'=true) (hby:bytes≤16)
   (base:Nat) (v:Value) (L:List α) (hs:a.eval s=v) (hown:OwnL (one1 val) 1 e base w v L) (A:Option Addr) (c:Nat) (M:List α) (hx:a.eval x=.slice A M.length c) (hr:ValsAt val w A M) (hn:L.length+M.length≤2199023255552) (hbase:base≤w.heap.size)
   (h:∀ v' w',OwnL (one1 val) 1 e base w' v' (L ++ M)→w.grownBy w' v.ownBlock→(v'.ownBlock=v.ownBlock ∨ v'.ownBlock=some w.heap.size)→wpList P ops Q rest (a.put o.dst v') w'):wpList P ops Q (o :: rest) a w:=by
 refine wpList_plain hgd fun K hK=>?_
 obtain ⟨v',w',hrun,h2,h3,h4⟩:=run_append_vals (P:=P) w base t o.type e z bytes ht hinf hzs h1 hby v L hown A c M hr hn hbase
 unfold Oper.wp execOp
 simp only [ho,resolve,invoke,builtin,Sem.run_bind,Sem.run_pure,Result.andThen_ok,List.map_toArray,List.map_cons,List.map_nil,hs,hx,hrun]
 exact hK _ _ (h v' w' h2 h3 h4)
theorem sets_grown {w w':World} {row:Option Nat} (h:w.grownBy w' row):Sets (fun c=>row=some c) w w':=⟨h.os,h.tape,h.output,h.size,fun i hi hs=>h.block i hi (fun e=>hs e.symm)⟩
theorem Xw.bd {w w':World} {X:Nat→Prop} {base:Nat} (h:∀ g,X g→base≤g∧g < w.heap.size) (hb:base≤w.heap.size) (hs:w.heap.size≤w'.heap.size):∀ g,Xw X w w' g→base≤g∧g < w'.heap.size:=by
 rintro g (e | e)
 · have:=h g e;omega
 · omega
theorem Xw.more {w w1 w':World} {X:Nat→Prop} (h1:w.heap.size≤w1.heap.size):∀ g,Xw X w1 w' g→Xw X w w' g:=by
 rintro g (e | e)
 · exact .inl e
 · exact .inr (by omega)
theorem DiskV.base_le {w:World} {base p:Nat} {X:Nat→Prop} {K:Dk} {h:Dh} (H:DiskV w base p X K h):base≤w.heap.size:=by have:=H.bd p H.inX.1;omega
def AppTo (K:Dk) (i:Nat) (z:Fz) (B:List Int) (M:Nat) (ee:Int) (K':Dk):Prop :=
 (ee ≠ 0∧K'=callD K∧(K.dead=true ∨ 250000 < z.L.length+B.length ∨ K.q < ((Maps.size K.D * M+B.length:Nat):Int))) ∨
 (ee=0∧K.dead=false∧z.L.length+B.length≤250000∧∃ v,K'={ callD K with Z:=K.Z.set i { z with v:=v,L:=z.L ++ B } })
theorem name_row {w:World} {s:ByteArray}:ValsAt strv (w.alloc (.cells #[.string s] 9)) (some ⟨w.heap.size,0,none⟩) [s]:=RowAt.new_one (cells:=one1 strv) (y:=s) (heap_alloc_new w (.cells #[.string s] 9))
theorem call_one {w:World} {base p:Nat} {X:Nat→Prop} {K:Dk} {h:Dh} (H:DiskV w base p X K h) {s:ByteArray} (hs:namedB s=true) :
   Calls Tryz.prog 191 #[ptv p,.slice (some ⟨w.heap.size,0,none⟩) 1 1] (w.alloc (.cells #[.string s] 9)) fun e w'=>e=.returned (.int .i64 (callE K))∧(∃ n,DiskV w' base p X (callD K) { h with calls:=n })∧Sets (fun g=>g=p) w w':=by
 have hb:=below_alloc (Below.refl w.heap.size w) (.cells #[.string s] 9)
 refine (call_any (H.below hb) (some ⟨w.heap.size,0,none⟩) 1 [s] name_row (by simp) (by simpa using hs)).mono ?_
 rintro e w' ⟨rfl,h1,h2⟩
 exact ⟨rfl,h1,(Sets.of (S:=fun g=>g=p) hb).trans h2 (fun _ _ h=>h)⟩
set_option maxRecDepth 100000 in
set_option maxHeartbeats 3200000 in
theorem append_v {w:World} {base p:Nat} {X:Nat→Prop} {K:Dk} {h:Dh} (H:DiskV w base p X K h) {s:ByteArray} (hs:namedB s=true) {i:Nat} (hh:hitN K.D s i) {z:Fz} (hz:K.Z[i]? = some z) (A:Option Addr) (c:Nat) (B:List Int) (hB:ValsAt u8v w A B) (hAX:∀ a,A=some a→B ≠ []→a.block ≠ p) (hBl:B.length≤9223372036854775807)
   (M:Nat) (hM:∀ z ∈ K.Z,z.L.length≤M) (hMs:Maps.size K.D * M≤1099511627776) :
   Calls Tryz.prog 228 #[ptv p,.string s,.slice A B.length c] w fun e w'=>∃ ee K',e=.returned (.int .i64 ee)∧AppTo K i z B M ee K'∧DiskO w' base p (Xw X w w') K'∧Sets X w w':=by
 have HCL:=hide (call_one H hs)
 have hXp:∀ g,g=p→X g:=fun g e=>e ▸ H.inX.1
 cases hd:K.dead with
 | true =>
   have hE:callE K=50:=by unfold callE;rw [hd];rfl
   rw [hE] at HCL
   have HR:Hid (∀ K',K'=callD K→AppTo K i z B M 50 K'):=hide (fun K' e=>.inl ⟨by decide,e,.inl hd⟩)
   have HX:=hide hXp
   have HBD:=hide (fun (W:World) (hs:w.heap.size≤W.heap.size)=>Xw.bd H.bd H.base_le hs)
   clear H hB hAX hM hMs hd hE hXp hh hz
   go_enter Tryz.func228,Tryz.ntmps228
   go_wp2_with ((with_reducible refine (HCL.out).mono ?_);rintro e w1 ⟨rfl,⟨n,h1⟩,hS⟩)
   go_ret
   exact ⟨50,_,rfl,HR.out _ rfl,⟨_,h1.wide (fun g e=>.inl e) (HBD.out _ hS.size)⟩,⟨hS.os,hS.tape,hS.output,hS.size,fun b hb hn=>hS.block b hb (fun e=>hn (HX.out b e))⟩⟩
 | false =>
   have hE:callE K=0:=by unfold callE;rw [hd];rfl
   rw [hE] at HCL
   have HD:=hide hd
   have HB:=hide hB
   have HAX:=hide hAX
   have HH:=hide hh
   have HZ:=hide hz
   have HM:=hide hM
   have HMS:=hide hMs
   have HX:=hide hXp
   have HBD:=hide (fun (W:World) (hs:w.heap.size≤W.heap.size)=>Xw.bd H.bd H.base_le hs)
   have HBL:=hide H.base_le
   clear H hB hAX hM hMs hd hE hXp hh hz
   go_enter Tryz.func228,Tryz.ntmps228
   go_upto_region 2 with ((with_reducible refine (HCL.out).mono ?_);rintro e w1 ⟨rfl,⟨n,h1⟩,hS⟩)
   have HS:=hide hS
   have HB1:Hid (ValsAt u8v w1 A B):=hide (HB.out.sets hS (fun a ha hn e=>HAX.out a ha hn e))
   have hiL:i < (callD K).Z.length:=by rw [callD_Z];exact (List.getElem?_eq_some_iff.1 HZ.out).1
   have hze:(callD K).Z[i]'hiL=z:=by
     have e1:=callD_Z K
     have e2:=HZ.out
     rw [← e1] at e2
     exact (List.getElem?_eq_some_iff.1 e2).2
   have HF:=hide (find_hit_D h1 s (namedB_size hs) i hiL (by rw [callD_D];exact HH.out))
   rw [hze] at HF
   have HH1:=hide h1
   have HSZ:=hide hS.size
   obtain ⟨Az,cz,hv,_,hg,f0,f1,ff⟩:=h1.file hiL
   rw [hze] at hv hg f0 f1 ff
   have HV:=hide hv
   have HZE:=hide hze
   have hzl:z.L.length≤250000:=by have:=(h1.each _ (List.getElem_mem hiL)).few;rwa [hze] at this
   obtain ⟨hp1,⟨c0,_⟩,_⟩:=h1.facts
   rw [callD_q] at c0
   have hq:=h1.quota
   rw [callD_q] at hq
   clear h1 hS hv hze
   have hSX:Hid (Sets X w w1):=hide ⟨HS.out.os,HS.out.tape,HS.out.output,HS.out.size,fun b hb hn=>HS.out.block b hb (fun e=>hn (HX.out b e))⟩
   by_cases hlong:B.length≤250000∧z.L.length+B.length≤250000
   case neg =>
     have HR:Hid (AppTo K i z B M 2 (callD K)):=hide (.inl ⟨by decide,rfl,.inr (.inl (by omega))⟩)
     by_cases hb:250000 < (B.length:Int)
     · clear hlong
       go_wp2_with ((with_reducible refine (HF.out).mono ?_);rintro e w2 ⟨rfl,rfl⟩)
       go_ret
       exact ⟨2,_,rfl,HR.out,⟨_,HH1.out.wide (fun g e=>.inl e) (HBD.out _ HSZ.out)⟩,hSX.out⟩
     · have hlt:(250000:Int) - B.length < z.L.length:=by omega
       have hw1:wrap64 (250000 - (B.length:Int))=250000 - (B.length:Int):=by unfold wrap64;omega
       clear hlong
       go_wp2_with ((with_reducible refine (HF.out).mono ?_);rintro e w2 ⟨rfl,rfl⟩)
       go_ret
       exact ⟨2,_,rfl,HR.out,⟨_,HH1.out.wide (fun g e=>.inl e) (HBD.out _ HSZ.out)⟩,hSX.out⟩
   case pos =>
     obtain ⟨hl1,hl2⟩:=hlong
     have hb:¬ 250000 < (B.length:Int):=by omega
     have hlt:¬ (250000:Int) - B.length < z.L.length:=by omega
     have hw1:wrap64 (250000 - (B.length:Int))=250000 - (B.length:Int):=by unfold wrap64;omega
     have hw2:wrap64 (K.q - (B.length:Int))=K.q - (B.length:Int):=by unfold wrap64;omega
     have hw3:IntKind.i64.wrap (K.q - (B.length:Int))=K.q - (B.length:Int):=by simp only [IntKind.wrap,IntKind.bits,IntKind.signed];simp;omega
     have HL:=hide hl2
     have HQ:=hide hq
     clear hl1 hl2 hzl hq
     have HU0:=used_any HH1.out M (by rw [callD_Z];exact HM.out) (by rw [callD_D];exact HMS.out)
     go_upto_region 9 with ((with_reducible refine (HF.out).mono ?_);rintro e w2 ⟨rfl,rfl⟩)
     have HU:Hid (Calls Tryz.prog 283 #[ptv p] w2.drew fun e w'=>∃ u:Nat,e=.returned (.int .i64 u)∧u≤Maps.size K.D * M∧Below w2.drew.heap.size w2.drew w'):=hide (by
       have:=used_any (HH1.out.below (Below.refl _ _).drew) M (by rw [callD_Z];exact HM.out) (by rw [callD_D];exact HMS.out)
       rw [callD_D] at this
       exact this)
     have HC:Hid (∀ W,Below w2.drew.heap.size w2.drew W→W.cell? ⟨p,0,none⟩=some (.int .i64 K.q)):=hide (fun W hW=>(hW.cell (p:=⟨p,0,none⟩) hp1).trans c0)
     clear HU0
     refine j_start [] (by kernel_rfl) ?_
     refine' j_t 0 [] rfl (by kernel_rfl) rfl ?y0 ?r0
     case y0=>(intro w' hw';go_simp;try with_reducible rfl)
     try go_frame
     refine' j_t 2 [] rfl (by kernel_rfl) rfl ?y2 ?r2
     case y2=>(intro w' hw';go_simp;try with_reducible rfl)
     try go_frame
     refine' j_t 3 [] rfl (by kernel_rfl) rfl ?y3 ?r3
     case y3=>(intro w' hw';go_simp;try with_reducible rfl)
     try go_frame
     refine' j_t 4 [] rfl (by kernel_rfl) rfl ?y4 ?r4
     case y4=>(intro w' hw';go_simp;try with_reducible rfl)
     try go_frame
     refine' j_t 5 [] rfl (by kernel_rfl) rfl ?y5 ?r5
     case y5=>(intro w' hw';have h0:=HC.out _ hw';go_simp;try with_reducible rfl)
     try go_frame
     refine' j_t 6 [] rfl (by kernel_rfl) rfl ?y6 ?r6
     case y6=>(intro w' hw';go_simp;try with_reducible rfl)
     try go_frame
     refine' j_t 7 [] rfl (by kernel_rfl) rfl ?y7 ?r7
     case y7=>(intro w' hw';go_simp;try with_reducible rfl)
     try go_frame
     refine' j_t 8 [] rfl (by kernel_rfl) rfl ?y8 ?r8
     case y8=>(intro w' hw';go_simp;try with_reducible rfl)
     try go_frame
     refine' j_s 1 (by kernel_rfl) rfl (fun K hK=>?s1)
     go_simp
     refine (Calls.mono (HU.out) ?_);rintro e u1 ⟨u,rfl,hu,gg⟩
     have HGG:=hide gg
     have HUU:=hide hu
     clear hu
     refine hK.out _ _ gg (j_switch gg ?_)
     clear hK K gg
     try go_frame
     refine' j_t 9 [] rfl (by kernel_rfl) rfl ?y9 ?r9
     case y9=>(intro w' hw';go_simp;try with_reducible rfl)
     try go_frame
     refine' j_t 10 [] rfl (by kernel_rfl) rfl ?y10 ?r10
     case y10=>(intro w' hw';go_simp;try with_reducible rfl)
     try go_frame
     refine wpAnyJ_done (by kernel_rfl) ?_ _
     refine NoPanic.normal ?_
     have hW:Below w2.heap.size w2 u1:=below_step (Below.refl _ w2).drew HGG.out
     have H2:=HH1.out.below hW
     have hS2:Hid (Sets X w u1):=hide (hSX.out.trans (Sets.of (S:=X) hW) (fun _ _ h=>h))
     have hsz2:=hS2.out.size
     have hiL2:=hiL
     clear HGG HU HC HCL
     by_cases hfull:K.q - (B.length:Int) < u
     · have HR:Hid (AppTo K i z B M 15 (callD K)):=hide (.inl ⟨by decide,rfl,.inr (.inr (by have:=HUU.out;omega))⟩)
       have HFIN:=hide (H2.wide (fun g e=>.inl e) (HBD.out _ hsz2))
       clear H2 hW
       go_wp2_with fail
       go_ret
       exact ⟨15,_,rfl,HR.out,⟨_,HFIN.out⟩,hS2.out⟩
     · have hzg:z.g < u1.heap.size:=Nat.lt_of_lt_of_le hg hW.size
       have g0:=(hW.cell (p:=⟨z.g,0,none⟩) hg).trans f0
       have g1:=(hW.cell (p:=⟨z.g,1,none⟩) hg).trans f1
       have gf:=fun o=>(hW.frozen (p:=⟨z.g,o,none⟩) hg).trans (ff o)
       have HFZ:Hid (FzAt u1 base z):=hide (by have:=H2.each _ (List.getElem_mem hiL);rwa [HZE.out] at this)
       have HBU:Hid (ValsAt u8v u1 A B):=hide (HB1.out.below hW)
       have HH2:=hide H2
       have HOWN:Hid (OwnL (one1 u8v) 1 5 base u1 (.slice Az z.L.length cz) z.L):=hide (by rw [← HV.out];exact HFZ.out.own)
       have HBL2:Hid (base≤u1.heap.size):=hide (Nat.le_trans HBL.out hsz2)
       have hlb:=HL.out
       clear H2 hW f0 f1 ff
       go_wp2_with (at_builtin;refine wpList_append_valsM rfl (.tmp 52) (.tmp 53) 173 5 _ 1 rfl Tryz.underlying173 Tryz.infoU8t rfl (fun _=>rfl) (by omega) base _ z.L rfl HOWN.out A c B rfl HBU.out (by omega) HBL2.out ?_;intro v3 w3 ho3 hg3 hm3;have hne3:z.g ≠ u1.heap.size:=Nat.ne_of_lt hzg;have hnz:some z.g ≠ (Value.slice Az z.L.length cz).ownBlock:=(fun e=>own_ne_box HOWN.out HFZ.out.box (by decide) e.symm);have hb3:=(hg3.block z.g hzg hnz).trans HFZ.out.box;have q0:w3.cell? ⟨z.g,0,none⟩=some (.slice Az z.L.length cz):=(by rw [← HV.out];exact (cell_of_row w3 z.g 0 _ _ _ hb3).trans rfl);obtain ⟨A3,c3,rfl,_⟩:=OwnL.row (cells:=one1 u8v) (sz:=1) (fun _=>rfl) ho3;obtain ⟨n3,hn3⟩:∃ n3,(z.L ++ B).length=n3:=⟨_,rfl⟩;rw [hn3] at ho3 hm3 ⊢;clear hn3;have qf:∀ o,w3.frozen? ⟨z.g,o,none⟩=false:=(fun o=>by simp [World.frozen?,hb3]);have qf0:=qf 0;have HO3:=hide ho3;have HG3:=hide hg3;have HM3:=hide hm3;have HB3:=hide hb3;clear ho3 hg3 hm3 hb3 qf hnz)
       go_ret
       obtain ⟨v3,hv3⟩:∃ v3,Value.slice A3 n3 c3=v3:=⟨_,rfl⟩
       rw [hv3] at HO3 HM3 ⊢
       have hS4:Sets (fun g=>g=z.g ∨ z.v.ownBlock=some g) u1 (w3.setCell ⟨z.g,0,none⟩ v3):=by
         have h1:=sets_grown HG3.out
         rw [← HV.out] at h1
         have h2:Sets (fun g=>g=z.g ∨ z.v.ownBlock=some g) u1 w3:=⟨h1.os,h1.tape,h1.output,h1.size,fun b hb hn=>h1.block b hb (fun e=>hn (.inr e))⟩
         exact h2.set (fun _=>.inl rfl) 0 v3
       have hnv:v3.ownBlock ≠ some z.g:=fun e=>own_ne_box HO3.out HB3.out (by decide) e
       have hF4:FzAt (w3.setCell ⟨z.g,0,none⟩ v3) base { z with v:=v3,L:=z.L ++ B } :=
         ⟨by simp [World.setCell,Array.getElem?_modify,HB3.out],OwnL.setFar HO3.out hnv v3,HFZ.out.low,by rw [List.length_append];exact HL.out,by rw [List.length_append];have:=HFZ.out.last;exact Nat.le_trans this (Nat.le_add_right _ _)⟩
       have hM4:∀ g,v3.ownBlock=some g→z.v.ownBlock=some g ∨ u1.heap.size≤g:=fun g e=>by
         rcases HM3.out with h | h
         · rw [e] at h;left;rw [HV.out];exact h.symm
         · rw [e] at h;injection h with h;right;omega
       have hF:=HH2.out.filed hiL (z:={ z with v:=v3,L:=z.L ++ B }) (w':=w3.setCell ⟨z.g,0,none⟩ v3) (by rw [HZE.out]) hF4 (by rw [HZE.out];exact hM4) (by rw [HZE.out];exact hS4)
       have hzX:∀ g,(g=z.g ∨ z.v.ownBlock=some g)→X g:=by
         have h1:=HH2.out.inX.2.2.2.2.2 _ (List.getElem_mem hiL)
         rw [HZE.out] at h1
         rintro g (e | e)
         · exact e ▸ h1.1
         · exact h1.2 g e
       have hS5:Sets X w (w3.setCell ⟨z.g,0,none⟩ v3):=hS2.out.trans hS4 (fun g _ e=>hzX g e)
       have hF6:=hF.wide (Y:=Xw X w (w3.setCell ⟨z.g,0,none⟩ v3)) (Xw.more hsz2) (HBD.out _ hS5.size)
       rw [callD_Z] at hF6
       exact ⟨0,rfl,_,.inr ⟨rfl,HD.out,HL.out,v3,rfl⟩,⟨_,hF6⟩,hS5⟩
end Go.Proofs.YtgmkckjedngkdaaGreatDoor
namespace Go.Proofs.YtgmkckjedngkdaaGreatDoor
open Go.ChangeShapes Go.WideShapes Go.ChangeAt Go.RowKit
def SyncTo (K:Dk) (i:Nat) (z:Fz) (ee:Int) (K':Dk):Prop :=
 (ee ≠ 0∧K'=callD K∧K.dead=true) ∨ (ee=0∧K.dead=false∧K'={ callD K with Z:=K.Z.set i { z with last:=z.L.length } })
set_option maxRecDepth 100000 in
set_option maxHeartbeats 1600000 in
theorem sync_v {w:World} {base p:Nat} {X:Nat→Prop} {K:Dk} {h:Dh} (H:DiskV w base p X K h) {s:ByteArray} (hs:namedB s=true) {i:Nat} (hh:hitN K.D s i) {z:Fz} (hz:K.Z[i]? = some z) :
   Calls Tryz.prog 193 #[ptv p,.string s] w fun e w'=>∃ ee K',e=.returned (.int .i64 ee)∧SyncTo K i z ee K'∧DiskO w' base p (Xw X w w') K'∧Sets X w w':=by
 have HCL:=hide (call_one H hs)
 have hXp:∀ g,g=p→X g:=fun g e=>e ▸ H.inX.1
 cases hd:K.dead with
 | true =>
   have hE:callE K=50:=by unfold callE;rw [hd];rfl
   rw [hE] at HCL
   have HR:Hid (∀ K',K'=callD K→SyncTo K i z 50 K'):=hide (fun K' e=>.inl ⟨by decide,e,hd⟩)
   have HX:=hide hXp
   have HBD:=hide (fun (W:World) (hs:w.heap.size≤W.heap.size)=>Xw.bd H.bd H.base_le hs)
   clear H hd hE hXp hh hz
   go_enter Tryz.func193,Tryz.ntmps193
   go_wp2_with ((with_reducible refine (HCL.out).mono ?_);rintro e w1 ⟨rfl,⟨n,h1⟩,hS⟩)
   go_ret
   exact ⟨50,_,rfl,HR.out _ rfl,⟨_,h1.wide (fun g e=>.inl e) (HBD.out _ hS.size)⟩,⟨hS.os,hS.tape,hS.output,hS.size,fun b hb hn=>hS.block b hb (fun e=>hn (HX.out b e))⟩⟩
 | false =>
   have hE:callE K=0:=by unfold callE;rw [hd];rfl
   rw [hE] at HCL
   have HD:=hide hd
   have HH:=hide hh
   have HZ:=hide hz
   have HX:=hide hXp
   have HBD:=hide (fun (W:World) (hs:w.heap.size≤W.heap.size)=>Xw.bd H.bd H.base_le hs)
   clear H hd hE hXp hh hz
   go_enter Tryz.func193,Tryz.ntmps193
   go_upto_region 2 with ((with_reducible refine (HCL.out).mono ?_);rintro e w1 ⟨rfl,⟨n,h1⟩,hS⟩)
   have HS:=hide hS
   have hiL:i < (callD K).Z.length:=by rw [callD_Z];exact (List.getElem?_eq_some_iff.1 HZ.out).1
   have hze:(callD K).Z[i]'hiL=z:=by
     have e1:=callD_Z K
     have e2:=HZ.out
     rw [← e1] at e2
     exact (List.getElem?_eq_some_iff.1 e2).2
   have HF:=hide (find_hit_D h1 s (namedB_size hs) i hiL (by rw [callD_D];exact HH.out))
   rw [hze] at HF
   have HH1:=hide h1
   have HSZ:=hide hS.size
   obtain ⟨Az,cz,hv,_,hg,f0,f1,ff⟩:=h1.file hiL
   rw [hze] at hv hg f0 f1 ff
   have ff1:=ff 1
   have HV:=hide hv
   have HZE:=hide hze
   have hFZ:Hid (FzAt w1 base z):=hide (by have:=h1.each _ (List.getElem_mem hiL);rwa [hze] at this)
   clear h1 hS hv hze ff
   have hSX:Hid (Sets X w w1):=hide ⟨HS.out.os,HS.out.tape,HS.out.output,HS.out.size,fun b hb hn=>HS.out.block b hb (fun e=>hn (HX.out b e))⟩
   go_wp2_with ((with_reducible refine (HF.out).mono ?_);rintro e w2 ⟨rfl,rfl⟩)
   go_ret
   have hnv:z.v.ownBlock ≠ some z.g:=fun e=>own_ne_box hFZ.out.own hFZ.out.box (by decide) e
   have hF4:FzAt (w2.setCell ⟨z.g,1,none⟩ (.int .i64 z.L.length)) base { z with last:=z.L.length } :=
     ⟨by simp [World.setCell,Array.getElem?_modify,hFZ.out.box],OwnL.setFar hFZ.out.own hnv _,hFZ.out.low,hFZ.out.few,Nat.le_refl _⟩
   have hS4:Sets (fun g=>g=z.g ∨ z.v.ownBlock=some g) w2 (w2.setCell ⟨z.g,1,none⟩ (.int .i64 z.L.length)):=(Sets.refl w2).set (fun _=>.inl rfl) 1 _
   have hF:=HH1.out.filed hiL (z:={ z with last:=z.L.length }) (w':=w2.setCell ⟨z.g,1,none⟩ (.int .i64 z.L.length)) (by rw [HZE.out]) hF4 (by rw [HZE.out];exact fun g e=>.inl e) (by rw [HZE.out];exact hS4)
   have hzX:∀ g,(g=z.g ∨ z.v.ownBlock=some g)→X g:=by
     have h1:=HH1.out.inX.2.2.2.2.2 _ (List.getElem_mem hiL)
     rw [HZE.out] at h1
     rintro g (e | e)
     · exact e ▸ h1.1
     · exact h1.2 g e
   have hS5:Sets X w (w2.setCell ⟨z.g,1,none⟩ (.int .i64 z.L.length)):=hSX.out.trans hS4 (fun g _ e=>hzX g e)
   have hF6:=hF.wide (Y:=Xw X w (w2.setCell ⟨z.g,1,none⟩ (.int .i64 z.L.length))) (Xw.more HSZ.out) (HBD.out _ hS5.size)
   rw [callD_Z] at hF6
   exact ⟨0,_,rfl,.inr ⟨rfl,HD.out,rfl⟩,⟨_,hF6⟩,hS5⟩
set_option maxRecDepth 100000 in
set_option maxHeartbeats 800000 in
theorem read_miss {w:World} {base p:Nat} {X:Nat→Prop} {K:Dk} {h:Dh} (H:DiskV w base p X K h) {s:ByteArray} (hs:namedB s=true) (hd:K.dead=false) (hh:missN K.D s) :
   Calls Tryz.prog 121 #[ptv p,.string s] w fun e w'=>e=.returned (.tuple #[.slice none 0 0,.int .i64 11])∧w'=w:=by
 obtain ⟨_,⟨_,_,_,_,_,_,c6,_⟩,_⟩:=H.facts
 have HD:=hide (dead_any p false w (by rw [← hd];exact c6))
 have HN:=hide (named_yes s w hs)
 have HF:=hide (find_miss_D H s (namedB_size hs) hh)
 clear H c6
 go_enter Tryz.func121,Tryz.ntmps121
 go_wp2_with (first | ((with_reducible refine (HN.out).mono ?_);rintro e w1 ⟨rfl,rfl⟩) | ((with_reducible refine (HD.out).mono ?_);rintro e w2 ⟨rfl,rfl⟩) | ((with_reducible refine (HF.out).mono ?_);rintro e w2 ⟨rfl,rfl⟩))
 go_returns
 exact ⟨rfl,rfl⟩
end Go.Proofs.YtgmkckjedngkdaaGreatDoor
