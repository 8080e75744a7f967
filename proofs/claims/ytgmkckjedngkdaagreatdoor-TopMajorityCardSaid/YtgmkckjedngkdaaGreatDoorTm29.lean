/- A part of the proof that TopMajorityLaw holds: XZHan. Conditions: as typed. -/
import Derived.Test.YtgmkckjedngkdaaGreatDoorTm10
import Derived.Test.YtgmkckjedngkdaaGreatDoorTm21
import Derived.Test.YtgmkckjedngkdaaGreatDoorTm26
import Derived.Test.YtgmkckjedngkdaaGreatDoorTm28
set_option linter.unusedVariables false
set_option linter.unusedSimpArgs false
namespace Go.Proofs.YtgmkckjedngkdaaGreatDoor
open Go.ChangeShapes Go.WideShapes Go.ChangeAt Go.RowKit
structure MsR (w:World) (P:Nat→Prop) (v:Value) (N:List Mg):Prop where
 row:∃ A c,v=.slice A N.length c∧RowAt Mg.cells 6 w A N∧∀ a,A=some a→N ≠ []→P a.block
 rd:∀ x ∈ N,x.rd w
 far:∀ x ∈ N,∀ a,x.A=some a→x.L ≠ []→P a.block
theorem MsR.nil_ (w:World) (P:Nat→Prop) (A:Option Addr) (c:Nat):MsR w P (.slice A 0 c) []:=⟨⟨A,c,rfl,RowAt.nil_,fun _ _ h=>absurd rfl h⟩,fun x hx=>(by cases hx),fun x hx=>(by cases hx)⟩
theorem MsR.sets {w w':World} {P S:Nat→Prop} {v:Value} {N:List Mg} (h:MsR w P v N) (k:Sets S w w') (hS:∀ g,P g→g < w.heap.size→¬ S g):MsR w' P v N:=by
 obtain ⟨A,c,rfl,hr,hp⟩:=h.row
 refine ⟨⟨A,c,rfl,fun hne=>?_,hp⟩,fun x hx=>⟨(h.rd x hx).1.sets k (fun a ha hn=>hS _ (h.far x hx a ha hn) (rd_lt_ (h.rd x hx) a ha hn)),(h.rd x hx).2⟩,h.far⟩
 obtain ⟨b,off,rfl,hlt,hc⟩:=hr hne
 exact ⟨b,off,rfl,Nat.lt_of_lt_of_le hlt k.size,fun j hj i u hu=>(World.cell?_of_block (k.block b hlt (hS b (hp _ rfl hne) hlt))).trans (hc j hj i u hu)⟩
theorem MsR.mono {w:World} {P Q:Nat→Prop} {v:Value} {N:List Mg} (h:MsR w P v N) (hpq:∀ g,P g→Q g):MsR w Q v N:=by
 obtain ⟨A,c,rfl,hr,hp⟩:=h.row
 exact ⟨⟨A,c,rfl,hr,fun a ha hn=>hpq _ (hp a ha hn)⟩,h.rd,fun x hx a ha hn=>hpq _ (h.far x hx a ha hn)⟩
theorem MsN.r {base:Nat} {w:World} {v:Value} {N:List Mg} (h:MsN base w v N):MsR w (fun g=>base≤g) v N:=by
 obtain ⟨A,c,rfl,hr,hb,_⟩:=OwnL.row Mg.cells_len h.own
 exact ⟨⟨A,c,rfl,hr,fun a ha hn=>by obtain ⟨g,o,s⟩:=a;exact (hb g o s ha).1⟩,h.rd,h.2⟩
set_option maxRecDepth 100000 in
set_option maxHeartbeats 1600000 in
theorem nans_any {w:World} (g2 g3 n:Nat) (id:Int) (m:Mg) (k no:Int) (A:Option Addr) (c:Nat) (L:List It) (h2:w.cell? ⟨g2,0,none⟩=some (ptv n)) (hl2:g2 < w.heap.size) (hn:w.cell? ⟨n,0,none⟩=some (.int .i64 id)) (hln:n < w.heap.size)
 (h3:w.heap[g3]? = some (.cells #[.int .i64 m.k,.int .i64 m.f,.int .i64 m.t,.int .u64 m.id,.int .u64 m.n,.slice m.A m.L.length m.c] 33 (0,0))) :
 Calls Tryz.prog 26 #[.int .i64 k,.int .u64 no,.slice A L.length c,.pointer (some ⟨g2,0,none⟩),.pointer (some ⟨g3,0,none⟩)] w fun e w' =>
  e=.returned (.slice (some ⟨w.heap.size,0,none⟩) 1 1)∧w'.heap[w.heap.size]? = some (.cells #[.int .i64 k,.int .i64 id,.int .i64 m.f,.int .u64 m.id,.int .u64 no,.slice A L.length c] 33 (0,0))∧Below w.heap.size w w':=by
 have lg3:=(Array.getElem?_eq_some_iff.1 h3).1
 obtain ⟨m0,m1,m2,m3,m4,m5⟩:=six_cells h3
 have HC:Hid (∀ W:World,Below w.heap.size w W→W.cell? ⟨g2,0,none⟩=some (ptv n)∧W.cell? ⟨n,0,none⟩=some (.int .i64 id)∧W.cell? ⟨g3,1,none⟩=some (.int .i64 m.f)∧W.cell? ⟨g3,3,none⟩=some (.int .u64 m.id)):=hide (fun W hW=>⟨keep_cell hW h2 hl2,keep_cell hW hn hln,keep_cell hW m1 lg3,keep_cell hW m3 lg3⟩)
 clear m0 m1 m2 m3 m4 m5 h2 hn h3
 go_enter Tryz.func26,Tryz.ntmps26
 go_upto_region 1 with fail
 obtain ⟨ud,hud⟩:∃ ud,w.drew=ud:=⟨_,rfl⟩
 have HUD:Hid (Below w.heap.size w ud):=hide (by rw [← hud];exact (Below.refl _ _).drew)
 have hsz:ud.heap.size=w.heap.size:=by rw [← hud];rfl
 have HSZ:=hide hsz
 refine j_start [12,13] (by kernel_rfl) ?_
 rw [hud]
 clear hud
 refine' j_t 0 [11,12,13] rfl (by kernel_rfl) rfl ?y0a ?r0a
 case y0a=>(intro w' hw';go_simp;try with_reducible rfl)
 try go_frame
 refine' j_t 1 [2,3,4,11,12,13] rfl (by kernel_rfl) rfl ?y1a ?r1a
 case y1a=>(intro w' hw';obtain ⟨q1,q2,q3,q4⟩:=HC.out _ (below_step HUD.out hw');go_simp;try with_reducible rfl)
 try go_frame
 refine' j_t 2 [3,4,11,12,13] rfl (by kernel_rfl) rfl ?y2a ?r2a
 case y2a=>(intro w' hw';go_simp;try with_reducible rfl)
 try go_frame
 refine' j_t 3 [4,11,12,13] rfl (by kernel_rfl) rfl ?y3a ?r3a
 case y3a=>(intro w' hw';go_simp;try with_reducible rfl)
 try go_frame
 refine' j_t 4 [11,12,13] rfl (by kernel_rfl) rfl ?y4a ?r4a
 case y4a=>(intro w' hw';obtain ⟨q1,q2,q3,q4⟩:=HC.out _ (below_step HUD.out hw');go_simp;try with_reducible rfl)
 try go_frame
 refine' j_t 5 [6,11,12,13] rfl (by kernel_rfl) rfl ?y5a ?r5a
 case y5a=>(intro w' hw';go_simp;try with_reducible rfl)
 try go_frame
 refine' j_t 6 [11,12,13] rfl (by kernel_rfl) rfl ?y6a ?r6a
 case y6a=>(intro w' hw';obtain ⟨q1,q2,q3,q4⟩:=HC.out _ (below_step HUD.out hw');go_simp;try with_reducible rfl)
 try go_frame
 refine' j_t 7 [8,11,12,13] rfl (by kernel_rfl) rfl ?y7a ?r7a
 case y7a=>(intro w' hw';go_simp;try with_reducible rfl)
 try go_frame
 refine' j_t 8 [11,12,13] rfl (by kernel_rfl) rfl ?y8a ?r8a
 case y8a=>(intro w' hw';obtain ⟨q1,q2,q3,q4⟩:=HC.out _ (below_step HUD.out hw');go_simp;try with_reducible rfl)
 try go_frame
 refine' j_t 9 [11,12,13] rfl (by kernel_rfl) rfl ?y9a ?r9a
 case y9a=>(intro w' hw';go_simp;try with_reducible rfl)
 try go_frame
 refine' j_t 10 [11,12,13] rfl (by kernel_rfl) rfl ?y10a ?r10a
 case y10a=>(intro w' hw';go_simp;try with_reducible rfl)
 try go_frame
 refine' j_t 11 [12,13] rfl (by kernel_rfl) rfl ?y11a ?r11a
 case y11a=>(intro w' hw';go_simp;try with_reducible rfl)
 try go_frame
 refine' wpAnyJ_last (i:=12) (o:=_) (by kernel_rfl) ?ho12a (by kernel_rfl) (fun KK hK=>?step12a)
 case ho12a=>(simp only [List.getElem?_toArray,List.getElem?_cons_succ,List.getElem?_cons_zero];rfl)
 go_simp
 refine hK.out _ _ ?_
 clear hK KK
 try go_frame
 refine' wpAnyJ_last (i:=13) (o:=_) (by kernel_rfl) ?ho13a (by kernel_rfl) (fun KK hK=>?step13a)
 case ho13a=>(simp only [List.getElem?_toArray,List.getElem?_cons_succ,List.getElem?_cons_zero];rfl)
 go_simp
 refine hK.out _ _ ?_
 clear hK KK
 try go_frame
 refine wpAnyJ_done (by kernel_rfl) ?_ _
 refine NoPanic.normal ?_
 go_wp2_with fail
 go_ret
 have hz:=heap_alloc_new ud (.cells #[.int .i64 k,.int .i64 id,.int .i64 m.f,.int .u64 m.id,.int .u64 no,.slice A L.length c] 33)
 have ha:=below_alloc HUD.out (.cells #[.int .i64 k,.int .i64 id,.int .i64 m.f,.int .u64 m.id,.int .u64 no,.slice A L.length c] 33)
 rw [HSZ.out] at hz
 exact ⟨rfl,hz,ha⟩
theorem nans_nil {w:World} (g2 g3 n:Nat) (id:Int) (m:Mg) (k no:Int) (h2:w.cell? ⟨g2,0,none⟩=some (ptv n)) (hl2:g2 < w.heap.size) (hn:w.cell? ⟨n,0,none⟩=some (.int .i64 id)) (hln:n < w.heap.size)
 (h3:w.heap[g3]? = some (.cells #[.int .i64 m.k,.int .i64 m.f,.int .i64 m.t,.int .u64 m.id,.int .u64 m.n,.slice m.A m.L.length m.c] 33 (0,0))) :
 Calls Tryz.prog 26 #[.int .i64 k,.int .u64 no,.slice none 0 0,.pointer (some ⟨g2,0,none⟩),.pointer (some ⟨g3,0,none⟩)] w fun e w' =>
  e=.returned (.slice (some ⟨w.heap.size,0,none⟩) 1 1)∧w'.heap[w.heap.size]? = some (.cells #[.int .i64 k,.int .i64 id,.int .i64 m.f,.int .u64 m.id,.int .u64 no,.slice none 0 0] 33 (0,0))∧Below w.heap.size w w' :=
 nans_any g2 g3 n id m k no none 0 [] h2 hl2 hn hln h3
theorem msr_one {w:World} {g:Nat} {P:Nat→Prop} (y:Mg) (h:w.heap[g]? = some (.cells #[.int .i64 y.k,.int .i64 y.f,.int .i64 y.t,.int .u64 y.id,.int .u64 y.n,.slice y.A y.L.length y.c] 33 (0,0))) (hy:y.rd w) (hP:P g) (hf:∀ a,y.A=some a→y.L ≠ []→P a.block):MsR w P (.slice (some ⟨g,0,none⟩) 1 1) [y] :=
 ⟨⟨_,1,rfl,RowAt.new_one (cells:=Mg.cells) (sz:=6) (y:=y) h,fun a ha _=>by cases ha;exact hP⟩,fun x hx=>by rw [List.mem_singleton] at hx;rw [hx];exact hy,fun x hx=>by rw [List.mem_singleton] at hx;rw [hx];exact hf⟩
def HanP (w:World) (base n:Nat) (X:Nat→Prop) (N:Nr) (T:List Mg→Sr→Prop) (e:Ending) (w':World):Prop :=
 ∃ v Nn R' X' hb,e=.returned v∧T (Nn.map Mg.bare) R'∧NodeO w' base n X' { N with R:=R' }∧(∀ g,X' g→X g ∨ (w.heap.size≤g∧g < hb))∧w.heap.size≤hb∧hb≤w'.heap.size∧MsR w' (fun g=>hb≤g) v Nn∧Sets X w w'∧R'.d=N.R.d
def HPutTo (N:Nr) (m:Mg) (M:Nat) (rep:List Mg) (R':Sr):Prop :=
 (allowB N.R.v.fl m.L=false∧rep=[⟨3,N.id,m.f,m.id,N.R.v.fl,none,0,[]⟩]∧R'=N.R) ∨
 (allowB N.R.v.fl m.L=true∧∃ B,LastTo N.R m.L M B R'∧rep=if B=true then [⟨2,N.id,m.f,m.id,0,none,0,[]⟩] else [])
theorem HPutTo.d {N:Nr} {m:Mg} {M:Nat} {rep:List Mg} {R':Sr} (h:HPutTo N m M rep R'):R'.d=N.R.d:=by
 rcases h with ⟨_,_,rfl⟩ | ⟨_,B,h,_⟩
 ·rfl
 ·exact h.d
set_option maxRecDepth 100000 in
set_option maxHeartbeats 3200000 in
theorem nhandle_put {w:World} {base n:Nat} {X:Nat→Prop} {N:Nr} (H:NodeO w base n X N) (m:Mg) (hm:m.rd w) (hk:mokB m=true) (hto:m.t=N.id) (hmx:∀ a,m.A=some a→m.L ≠ []→¬ X a.block) (h1:m.k=1) (hwf:∀ x ∈ m.L,x.wf) (h0:joinL N.R.S m.L ≠ N.R.S→1≤m.L.length) (hl:m.L.length≤1000) (M:Nat) (hM:∀ z ∈ N.R.K.Z,z.L.length≤M) (hM2:M≤250000) (hmf:N.R.mf+m.L.length≤1000000000) :
 Calls Tryz.prog 9 #[ptv n,m.val] w (HanP w base n X N (HPutTo N m M)):=by
 have hml:m.L.length≤1500:=by
  have h:=hk
  unfold mokB at h
  simp only [Bool.and_eq_true,decide_eq_true_eq] at h
  exact h.1.1.2
 obtain ⟨s,Y,H⟩:=H
 have hbd:=H.bd
 have hbl:base≤w.heap.size:=by have:=H.bd n H.nX;omega
 obtain ⟨wb,hwb⟩:∃ wb,(w.alloc (.cells #[ptv n] 25)).alloc (.cells #[.int .i64 m.k,.int .i64 m.f,.int .i64 m.t,.int .u64 m.id,.int .u64 m.n,.slice m.A m.L.length m.c] 33)=wb:=⟨_,rfl⟩
 have hb0:Below w.heap.size w wb:=by rw [← hwb];exact below_alloc (below_alloc (Below.refl w.heap.size w) _) _
 have hz2:wb.heap[w.heap.size]? = some (.cells #[ptv n] 25 (0,0)):=by rw [← hwb];exact (Below.heap_alloc _ _ _ (by simp)).trans (heap_alloc_new w _)
 have hz3:wb.heap[w.heap.size+1]? = some (.cells #[.int .i64 m.k,.int .i64 m.f,.int .i64 m.t,.int .u64 m.id,.int .u64 m.n,.slice m.A m.L.length m.c] 33 (0,0)):=by
  have:=heap_alloc_new (w.alloc (.cells #[ptv n] 25)) (.cells #[.int .i64 m.k,.int .i64 m.f,.int .i64 m.t,.int .u64 m.id,.int .u64 m.n,.slice m.A m.L.length m.c] 33)
  rw [hwb,World.size_alloc] at this
  exact this
 obtain ⟨g2,hg2⟩:∃ g,w.heap.size=g:=⟨_,rfl⟩
 rw [hg2] at hz2 hz3
 have lg3:g2+1 < wb.heap.size:=(Array.getElem?_eq_some_iff.1 hz3).1
 have lg2:g2 < wb.heap.size:=by omega
 have H0:=H.sets (S:=fun _=>False) (Sets.of hb0) (fun _ _=>id)
 have ln:n < wb.heap.size:=H0.lt
 obtain ⟨m0,m1,m2,m3,m4,m5⟩:=six_cells hz3
 have b2:=box_cell hz2
 obtain ⟨k0,k1,kr⟩:=H0.cells
 have hmok:∀ s:Near wb,Calls Tryz.prog 25 #[m.val] s.at_ fun e w'=>e=.returned (.bool (mokB m))∧Below s.at_.heap.size s.at_ w':=fun s=>mok_any m s.at_ ((hm.below hb0).below s.is).1 (by omega)
 rw [hk] at hmok
 unfold Mg.val at hmok
 have HMK:=hide hmok
 have HH:=hide H0
 have HB0:=hide hb0
 have HZ2:=hide hz2
 have HZ3:=hide hz3
 have HG2:=hide hg2
 have HWB:=hide hwb
 have HBD:=hide hbd
 have HBL:=hide hbl
 have HM:=hide (hm.below hb0)
 have HMO:=hide hk
 have HTO:=hide hto
 have dC:(m.t != N.id)=false:=by simp [hto]
 obtain ⟨rf,hrf⟩:∃ v,N.R.v.fl=v:=⟨_,rfl⟩
 obtain ⟨rc,hrc⟩:∃ v,N.R.v.ce=v:=⟨_,rfl⟩
 obtain ⟨ra,hra⟩:∃ v,N.R.v.at_=v:=⟨_,rfl⟩
 obtain ⟨re,hre⟩:∃ v,N.R.v.le=v:=⟨_,rfl⟩
 have HRF:=hide hrf
 have HRC:=hide hrc
 have HSM:Hid (∀ W,Below wb.heap.size wb W→Calls Tryz.prog 23 #[ptv s] W fun e w'=>e=.returned (meta4 rf rc ra re)∧Below W.heap.size W w'):=hide (fun W hW=>by
  have:=smeta_any (H0.st.below hW)
  rw [hrf,hrc,hra,hre] at this
  exact this)
 have hgd:m.L.all goodB=true:=by
  unfold mokB at hk
  simp only [Bool.and_eq_true] at hk
  exact hk.1.2
 have HLA:=hide (fun (W:World) (hW:Below wb.heap.size wb W)=>nlast_any (⟨s,Y,H0.sets (S:=fun _=>False) (Sets.of hW) (fun _ _=>id)⟩:NodeO W base n X N) m.A m.c m.L ((hm.below hb0).below hW).1 ((hm.below hb0).below hW).2 hmx h0 hl hwf hgd M hM hM2 hmf)
 have HAL:Hid (∀ W,Below wb.heap.size wb W→Calls Tryz.prog 27 #[meta4 rf rc ra re,.slice m.A m.L.length m.c] W fun e w'=>e=.returned (.bool (allowB rf m.L))∧Below W.heap.size W w'):=hide (fun W hW=>pallow_any rf rc ra re m.A m.c m.L W (by omega) ((hm.below hb0).below hW).1)
 have HK1:=hide h1
 clear H H0 hbd hbl hb0 hz2 hz3 hg2 hwb hm hmok hk hto hrf hrc hra hre kr hmx h1 hwf h0 hl hM hM2 hmf hgd
 have rm0:=fun s:Near wb=>s.cell m0 lg3
 have rm1:=fun s:Near wb=>s.cell m1 lg3
 have rm2:=fun s:Near wb=>s.cell m2 lg3
 have rm3:=fun s:Near wb=>s.cell m3 lg3
 have rm4:=fun s:Near wb=>s.cell m4 lg3
 have rm5:=fun s:Near wb=>s.cell m5 lg3
 have rb2:=fun s:Near wb=>s.cell b2 lg2
 have rk0:=fun s:Near wb=>s.cell k0 ln
 go_enter Tryz.func9,Tryz.ntmps9
 go_upto_region 1 with fail
 rw [HWB.out,HG2.out]
 refine wp_region_near (by kernel_rfl) (by kernel_rfl) ?_
 repeat (go_big_quiet_step ((first | (go_at_call 25;exact near_of (HMK.out _)))))
 refine wpQuiet_nil ?_
 intro _ hw'
 obtain ⟨s1,rfl⟩:=hw'
 have HB1:=hide s1.is
 have c0:=rm0 s1
 rw [HK1.out] at c0
 have c1:=rm1 s1
 have c2:=rm2 s1
 have c3:=rm3 s1
 have c4:=rm4 s1
 have c5:=rm5 s1
 have cb:=rb2 s1
 have ck:=keep_cell s1.is k1 ln
 have HS1:=hide (HSM.out _ s1.is)
 have hl3:g2+1 < s1.at_.heap.size:=Nat.lt_of_lt_of_le lg3 s1.is.size
 have hln:n < s1.at_.heap.size:=Nat.lt_of_lt_of_le ln s1.is.size
 obtain ⟨w1,hw1⟩:∃ w1,s1.at_=w1:=⟨_,rfl⟩
 rw [hw1] at HB1 c0 c1 c2 c3 c4 c5 cb ck HS1 hl3 hln ⊢
 clear rm0 rm1 rm2 rm3 rm4 rm5 rb2 rk0 hw1 s1 HMK m0 m1 m2 m3 m4 m5 b2 k0 k1
 go_wp2_with ((with_reducible refine (HS1.out).mono ?_);rintro e w2 ⟨rfl,hg2'⟩;have HG12:=hide (below_step HB1.out (below_alloc hg2' (.cells #[.int .u64 rf,.int .u64 rc,.int .u64 ra,.int .u64 re] 75)));obtain ⟨bc2,bf2⟩:=bcell hg2';have d0:=(bc2 (g2+1) 0 hl3).trans c0;have d1:=(bc2 (g2+1) 1 hl3).trans c1;have d3:=(bc2 (g2+1) 3 hl3).trans c3;have d4:=(bc2 (g2+1) 4 hl3).trans c4;have d5:=(bc2 (g2+1) 5 hl3).trans c5;have db:=(bc2 g2 0 (by omega)).trans cb;have dk:=(bc2 n 1 hln).trans ck;have hl32:=Nat.lt_of_lt_of_le hl3 hg2'.size;have hln2:=Nat.lt_of_lt_of_le hln hg2'.size;clear hg2' bc2 bf2 c0 c1 c2 c3 c4 c5 cb ck HS1)
 have hz6:=heap_alloc_new w2 (.cells #[.int .u64 rf,.int .u64 rc,.int .u64 ra,.int .u64 re] 75)
 obtain ⟨w3,hw3⟩:∃ w3,w2.alloc (.cells #[.int .u64 rf,.int .u64 rc,.int .u64 ra,.int .u64 re] 75)=w3:=⟨_,rfl⟩
 rw [hw3] at hz6 HG12 ⊢
 obtain ⟨g6,hg6⟩:∃ g,w2.heap.size=g:=⟨_,rfl⟩
 rw [hg6] at hz6 ⊢
 have HG23:Hid (wb.heap.size≤w3.heap.size):=hide HG12.out.size
 have HZ6:=hide hz6
 have hl6:g6 < w3.heap.size:=(Array.getElem?_eq_some_iff.1 hz6).1
 clear hw3 hg6 hz6 d0 d1 d3 d4 d5 db dk hl32 hln2 hl3 hln HSM
 have HAL3:=hide (HAL.out w3 HG12.out)
 have hX:∀ g,X g→g < g2:=fun g hg=>by have:=(HBD.out g hg).2;have:=HG2.out;omega
 have HX:=hide hX
 clear hX HAL
 cases hal:allowB rf m.L
 ·rw [hal] at HAL3
  have HV:=hide hal
  clear hal HLA
  refine (Calls.mono HAL3.out ?_);rintro e w4 ⟨rfl,hg4⟩
  have HB4:=hide (below_step HG12.out hg4)
  have f0:=(four_cells ((hg4.block g6 hl6).trans HZ6.out)).1
  have hl64:=Nat.lt_of_lt_of_le hl6 hg4.size
  have HAN:=hide (nans_nil (w:=w4) g2 (g2+1) n N.id m 3 rf (box_cell ((HB4.out.block g2 lg2).trans HZ2.out)) (Nat.lt_of_lt_of_le lg2 HB4.out.size) (four_cells ((HB4.out.block n ln).trans HH.out.box)).1 (Nat.lt_of_lt_of_le ln HB4.out.size) ((HB4.out.block (g2+1) lg3).trans HZ3.out))
  clear hg4 HAL3
  go_wp2_with ((with_reducible refine (HAN.out).mono ?_);rintro e w5 ⟨rfl,hz5,hb5⟩;have HZ5:=hide hz5;have HB5:=hide hb5;clear hz5 hb5)
  go_ret
  have hall:=below_step (below_step HB0.out HB4.out) HB5.out
  refine ⟨_,[⟨3,N.id,m.f,m.id,rf,none,0,[]⟩],N.R,X,w.heap.size,rfl,.inl ⟨by rw [HRF.out];exact HV.out,by rw [HRF.out];rfl,rfl⟩,⟨s,Y,HH.out.sets (S:=fun _=>False) (Sets.of (below_step HB4.out HB5.out)) (fun _ _=>id)⟩,fun g e=>.inl e,Nat.le_refl _,hall.size,msr_one ⟨3,N.id,m.f,m.id,rf,none,0,[]⟩ HZ5.out ⟨RowAt.nil_,by simp,by simp⟩ (Nat.le_trans HB0.out.size HB4.out.size) (fun a ha=>by cases ha),Sets.of hall,rfl⟩
 ·rw [hal] at HAL3
  have HV:=hide hal
  clear hal
  refine (Calls.mono HAL3.out ?_);rintro e w4 ⟨rfl,hg4⟩
  have HB4:=hide (below_step HG12.out hg4)
  have HL4:=hide (HLA.out w4 HB4.out)
  have hz3:=(HB4.out.block (g2+1) lg3).trans HZ3.out
  obtain ⟨a0,a1,a2,a3,a4,a5⟩:=six_cells hz3
  have ab:=box_cell ((HB4.out.block g2 lg2).trans HZ2.out)
  have HL45:=hide (show g2+1 < w4.heap.size from Nat.lt_of_lt_of_le lg3 HB4.out.size)
  clear hg4 HAL3 hz3 HLA
  go_wp2_with fail
  refine (Calls.mono HL4.out ?_);rintro e w5 ⟨B,R',rfl,hto,hno,hs5⟩
  have hall:Sets X w w5:=(Sets.of (S:=X) (below_step HB0.out HB4.out)).trans hs5 (fun _ _ e=>e)
  have hn5:NodeO w5 base n (Xw X w w5) { N with R:=R' }:=hno.wide (fun g e=>e.imp (fun h=>h) (fun e=>⟨Nat.le_trans (below_step HB0.out HB4.out).size e.1,e.2⟩)) (Xw.bd HBD.out HBL.out hall.size)
  have hgg:∀ j,j=g2 ∨ j=g2+1→w5.heap[j]? = w4.heap[j]?:=fun j hj=>hs5.block j (by have:=HL45.out;omega) (fun e=>by have:=HX.out j e;omega)
  have z2:=(hgg g2 (.inl rfl)).trans ((HB4.out.block g2 lg2).trans HZ2.out)
  have z3:=(hgg (g2+1) (.inr rfl)).trans ((HB4.out.block (g2+1) lg3).trans HZ3.out)
  have HALL:=hide hall
  have HN5:=hide hn5
  have HTO5:=hide hto
  have l35:=(Array.getElem?_eq_some_iff.1 z3).1
  cases B
  ·clear hto hno hs5 hall hn5 hgg z2 z3 a0 a1 a2 a3 a4 a5 ab
   go_wp2_with fail
   go_ret
   exact ⟨_,[],R',Xw X w w5,w5.heap.size,rfl,.inr ⟨by rw [HRF.out];exact HV.out,false,HTO5.out,rfl⟩,HN5.out,fun g e=>e,HALL.out.size,Nat.le_refl _,MsR.nil_ _ _ _ _,HALL.out,HTO5.out.d⟩
  ·obtain ⟨s5,Y5,h5⟩:=hn5
   have HAN:=hide (nans_nil (w:=w5) g2 (g2+1) n N.id m 2 0 (box_cell z2) (by omega) (four_cells h5.box).1 h5.lt z3)
   clear hto hno hs5 hall hgg z2 z3 a0 a1 a2 a3 a4 a5 ab h5
   go_wp2_with ((with_reducible refine (HAN.out).mono ?_);rintro e w6 ⟨rfl,hz6,hb6⟩;have HZ7:=hide hz6;have HB6:=hide hb6;clear hz6 hb6)
   go_ret
   exact ⟨_,[⟨2,N.id,m.f,m.id,0,none,0,[]⟩],R',Xw X w w5,w5.heap.size,rfl,.inr ⟨by rw [HRF.out];exact HV.out,true,HTO5.out,rfl⟩,HN5.out.below HB6.out,fun g e=>e,HALL.out.size,HB6.out.size,msr_one ⟨2,N.id,m.f,m.id,0,none,0,[]⟩ HZ7.out ⟨RowAt.nil_,by simp,by simp⟩ (Nat.le_refl _) (fun a ha=>by cases ha),HALL.out.trans (Sets.of (S:=fun _=>False) HB6.out) (fun _ _ h=>h.elim),HTO5.out.d⟩
set_option maxRecDepth 100000 in
set_option maxHeartbeats 3200000 in
theorem nhandle_ask {w:World} {base n:Nat} {X:Nat→Prop} {N:Nr} (H:NodeO w base n X N) (m:Mg) (hm:m.rd w) (hk:mokB m=true) (hto:m.t=N.id) (h1:m.k=4) (hn:0≤m.n∧m.n≤255) :
 Calls Tryz.prog 9 #[ptv n,m.val] w (HanP w base n X N (fun rep R'=>rep=[⟨5,N.id,m.f,m.id,N.R.v.ce,none,0,N.R.S.filter (serP m.n)⟩]∧R'=N.R)):=by
 have hml:m.L.length≤1500:=by
  have h:=hk
  unfold mokB at h
  simp only [Bool.and_eq_true,decide_eq_true_eq] at h
  exact h.1.1.2
 obtain ⟨s,Y,H⟩:=H
 have hbd:=H.bd
 have hbl:base≤w.heap.size:=by have:=H.bd n H.nX;omega
 obtain ⟨wb,hwb⟩:∃ wb,(w.alloc (.cells #[ptv n] 25)).alloc (.cells #[.int .i64 m.k,.int .i64 m.f,.int .i64 m.t,.int .u64 m.id,.int .u64 m.n,.slice m.A m.L.length m.c] 33)=wb:=⟨_,rfl⟩
 have hb0:Below w.heap.size w wb:=by rw [← hwb];exact below_alloc (below_alloc (Below.refl w.heap.size w) _) _
 have hz2:wb.heap[w.heap.size]? = some (.cells #[ptv n] 25 (0,0)):=by rw [← hwb];exact (Below.heap_alloc _ _ _ (by simp)).trans (heap_alloc_new w _)
 have hz3:wb.heap[w.heap.size+1]? = some (.cells #[.int .i64 m.k,.int .i64 m.f,.int .i64 m.t,.int .u64 m.id,.int .u64 m.n,.slice m.A m.L.length m.c] 33 (0,0)):=by
  have:=heap_alloc_new (w.alloc (.cells #[ptv n] 25)) (.cells #[.int .i64 m.k,.int .i64 m.f,.int .i64 m.t,.int .u64 m.id,.int .u64 m.n,.slice m.A m.L.length m.c] 33)
  rw [hwb,World.size_alloc] at this
  exact this
 obtain ⟨g2,hg2⟩:∃ g,w.heap.size=g:=⟨_,rfl⟩
 rw [hg2] at hz2 hz3
 have lg3:g2+1 < wb.heap.size:=(Array.getElem?_eq_some_iff.1 hz3).1
 have lg2:g2 < wb.heap.size:=by omega
 have H0:=H.sets (S:=fun _=>False) (Sets.of hb0) (fun _ _=>id)
 have ln:n < wb.heap.size:=H0.lt
 obtain ⟨m0,m1,m2,m3,m4,m5⟩:=six_cells hz3
 have b2:=box_cell hz2
 obtain ⟨k0,k1,kr⟩:=H0.cells
 have hmok:∀ s:Near wb,Calls Tryz.prog 25 #[m.val] s.at_ fun e w'=>e=.returned (.bool (mokB m))∧Below s.at_.heap.size s.at_ w':=fun s=>mok_any m s.at_ ((hm.below hb0).below s.is).1 (by omega)
 rw [hk] at hmok
 unfold Mg.val at hmok
 have HMK:=hide hmok
 have HH:=hide H0
 have HB0:=hide hb0
 have HZ2:=hide hz2
 have HZ3:=hide hz3
 have HG2:=hide hg2
 have HWB:=hide hwb
 have HBD:=hide hbd
 have HBL:=hide hbl
 have HM:=hide (hm.below hb0)
 have HMO:=hide hk
 have HTO:=hide hto
 have dC:(m.t != N.id)=false:=by simp [hto]
 obtain ⟨rf,hrf⟩:∃ v,N.R.v.fl=v:=⟨_,rfl⟩
 obtain ⟨rc,hrc⟩:∃ v,N.R.v.ce=v:=⟨_,rfl⟩
 obtain ⟨ra,hra⟩:∃ v,N.R.v.at_=v:=⟨_,rfl⟩
 obtain ⟨re,hre⟩:∃ v,N.R.v.le=v:=⟨_,rfl⟩
 have HRF:=hide hrf
 have HRC:=hide hrc
 have HSM:Hid (∀ W,Below wb.heap.size wb W→Calls Tryz.prog 23 #[ptv s] W fun e w'=>e=.returned (meta4 rf rc ra re)∧Below W.heap.size W w'):=hide (fun W hW=>by
  have:=smeta_any (H0.st.below hW)
  rw [hrf,hrc,hra,hre] at this
  exact this)
 have HSE:=hide (fun (W:World) (hW:Below wb.heap.size wb W)=>sseries_any (H0.st.below hW) m.n)
 have HCV:Hid (IntKind.i64.wrap m.n=m.n):=hide (by rw [IntKind.wrap_i64];omega)
 have dn:decide (m.n≤255)=true:=decide_eq_true hn.2
 have fn:m.n≤255:=hn.2
 have HK1:=hide h1
 clear H H0 hbd hbl hb0 hz2 hz3 hg2 hwb hm hmok hk hto hrf hrc hra hre kr h1 hn
 have rm0:=fun s:Near wb=>s.cell m0 lg3
 have rm1:=fun s:Near wb=>s.cell m1 lg3
 have rm2:=fun s:Near wb=>s.cell m2 lg3
 have rm3:=fun s:Near wb=>s.cell m3 lg3
 have rm4:=fun s:Near wb=>s.cell m4 lg3
 have rm5:=fun s:Near wb=>s.cell m5 lg3
 have rb2:=fun s:Near wb=>s.cell b2 lg2
 have rk0:=fun s:Near wb=>s.cell k0 ln
 go_enter Tryz.func9,Tryz.ntmps9
 go_upto_region 1 with fail
 rw [HWB.out,HG2.out]
 refine wp_region_near (by kernel_rfl) (by kernel_rfl) ?_
 repeat (go_big_quiet_step ((first | (go_at_call 25;exact near_of (HMK.out _)))))
 refine wpQuiet_nil ?_
 intro _ hw'
 obtain ⟨s1,rfl⟩:=hw'
 have HB1:=hide s1.is
 have c0:=rm0 s1
 rw [HK1.out] at c0
 have c1:=rm1 s1
 have c2:=rm2 s1
 have c3:=rm3 s1
 have c4:=rm4 s1
 have c5:=rm5 s1
 have cb:=rb2 s1
 have ck:=keep_cell s1.is k1 ln
 have HS1:=hide (HSM.out _ s1.is)
 have hl3:g2+1 < s1.at_.heap.size:=Nat.lt_of_lt_of_le lg3 s1.is.size
 have hln:n < s1.at_.heap.size:=Nat.lt_of_lt_of_le ln s1.is.size
 obtain ⟨w1,hw1⟩:∃ w1,s1.at_=w1:=⟨_,rfl⟩
 rw [hw1] at HB1 c0 c1 c2 c3 c4 c5 cb ck HS1 hl3 hln ⊢
 clear rm0 rm1 rm2 rm3 rm4 rm5 rb2 rk0 hw1 s1 HMK m0 m1 m2 m3 m4 m5 b2 k0 k1
 go_upto_region 13 with ((with_reducible refine (HS1.out).mono ?_);rintro e w2 ⟨rfl,hg2'⟩;have HG12:=hide (below_step HB1.out (below_alloc hg2' (.cells #[.int .u64 rf,.int .u64 rc,.int .u64 ra,.int .u64 re] 75)));obtain ⟨bc2,bf2⟩:=bcell hg2';have d0:=(bc2 (g2+1) 0 hl3).trans c0;have d1:=(bc2 (g2+1) 1 hl3).trans c1;have d3:=(bc2 (g2+1) 3 hl3).trans c3;have d4:=(bc2 (g2+1) 4 hl3).trans c4;have d5:=(bc2 (g2+1) 5 hl3).trans c5;have db:=(bc2 g2 0 (by omega)).trans cb;have dk:=(bc2 n 1 hln).trans ck;have hl32:=Nat.lt_of_lt_of_le hl3 hg2'.size;have hln2:=Nat.lt_of_lt_of_le hln hg2'.size;clear hg2' bc2 bf2 c0 c1 c2 c3 c4 c5 cb ck HS1)
 have hz6:=heap_alloc_new w2 (.cells #[.int .u64 rf,.int .u64 rc,.int .u64 ra,.int .u64 re] 75)
 obtain ⟨w3,hw3⟩:∃ w3,w2.alloc (.cells #[.int .u64 rf,.int .u64 rc,.int .u64 ra,.int .u64 re] 75)=w3:=⟨_,rfl⟩
 rw [hw3] at hz6 HG12 ⊢
 obtain ⟨g6,hg6⟩:∃ g,w2.heap.size=g:=⟨_,rfl⟩
 rw [hg6] at hz6 ⊢
 have hl6:g6 < w3.heap.size:=(Array.getElem?_eq_some_iff.1 hz6).1
 have HCE:Hid (∀ W:World,Below w3.heap.size w3 W→W.cell? ⟨g6,1,none⟩=some (.int .u64 rc)∧W.cell? ⟨g2,0,none⟩=some (ptv n)∧W.cell? ⟨n,1,none⟩=some (ptv s)∧W.cell? ⟨g2+1,4,none⟩=some (.int .u64 m.n)):=hide (fun W hW=>by
  have hbw:=below_step HG12.out hW
  obtain ⟨_,_,_,_,x4,_⟩:=six_cells ((hbw.block (g2+1) lg3).trans HZ3.out)
  exact ⟨(four_cells ((hW.block g6 hl6).trans hz6)).2.1,box_cell ((hbw.block g2 lg2).trans HZ2.out),(four_cells ((hbw.block n ln).trans HH.out.box)).2.1,x4⟩)
 clear hw3 hg6 hz6 d0 d1 d3 d4 d5 db dk hl32 hln2 hl3 hln HSM fn dn
 obtain ⟨ud,hud⟩:∃ ud,w3.drew=ud:=⟨_,rfl⟩
 have HUD:Hid (Below w3.heap.size w3 ud):=hide (by rw [← hud];exact (Below.refl _ _).drew)
 refine j_start [] (by kernel_rfl) ?_
 rw [hud]
 clear hud
 refine' j_t 0 [] rfl (by kernel_rfl) rfl ?y0b ?r0b
 case y0b=>(intro w' hw';go_simp;try with_reducible rfl)
 try go_frame
 refine' j_t 1 [] rfl (by kernel_rfl) rfl ?y1b ?r1b
 case y1b=>(intro w' hw';go_simp;try with_reducible rfl)
 try go_frame
 refine' j_t 2 [] rfl (by kernel_rfl) rfl ?y2b ?r2b
 case y2b=>(intro w' hw';obtain ⟨q1,q2,q3,q4⟩:=HCE.out _ (below_step HUD.out hw');go_simp;try with_reducible rfl)
 try go_frame
 refine' j_t 3 [] rfl (by kernel_rfl) rfl ?y3b ?r3b
 case y3b=>(intro w' hw';obtain ⟨q1,q2,q3,q4⟩:=HCE.out _ (below_step HUD.out hw');go_simp;try with_reducible rfl)
 try go_frame
 refine' j_t 4 [] rfl (by kernel_rfl) rfl ?y4b ?r4b
 case y4b=>(intro w' hw';go_simp;try with_reducible rfl)
 try go_frame
 refine' j_t 5 [] rfl (by kernel_rfl) rfl ?y5b ?r5b
 case y5b=>(intro w' hw';go_simp;try with_reducible rfl)
 try go_frame
 refine' j_t 6 [] rfl (by kernel_rfl) rfl ?y6b ?r6b
 case y6b=>(intro w' hw';obtain ⟨q1,q2,q3,q4⟩:=HCE.out _ (below_step HUD.out hw');go_simp;try with_reducible rfl)
 try go_frame
 refine' j_t 7 [] rfl (by kernel_rfl) rfl ?y7b ?r7b
 case y7b=>(intro w' hw';go_simp;try with_reducible rfl)
 try go_frame
 refine' j_t 8 [] rfl (by kernel_rfl) rfl ?y8b ?r8b
 case y8b=>(intro w' hw';obtain ⟨q1,q2,q3,q4⟩:=HCE.out _ (below_step HUD.out hw');go_simp;try with_reducible rfl)
 try go_frame
 refine' j_t 9 [] rfl (by kernel_rfl) rfl ?y9b ?r9b
 case y9b=>(intro w' hw';have qv:=HCV.out;go_simp;try with_reducible rfl)
 try go_frame
 refine' wpAnyJ_step (i:=10) (o:=_) (by kernel_rfl) ?ho10b (fun KK hK=>?step10b)
 case ho10b=>(simp only [List.getElem?_toArray,List.getElem?_cons_succ,List.getElem?_cons_zero];rfl)
 go_simp
 have hse:=HSE.out ud (below_step HG12.out HUD.out)
 refine (Calls.mono (hse) ?_);rintro e u1b ⟨v1,rfl,ho1,gg⟩
 obtain ⟨A1,c1,rfl,hr1,hq1⟩:=ho1.sl
 have HR1:=hide (And.intro hr1 hq1);have HOX:=hide ho1;have HU1:=hide (below_step HUD.out gg)
 clear hr1 hq1 ho1 hse
 refine hK.out _ _ gg (j_switch gg ?_)
 clear hK KK gg
 try go_frame
 refine' wpAnyJ_step (i:=11) (o:=_) (by kernel_rfl) ?ho11b (fun KK hK=>?step11b)
 case ho11b=>(simp only [List.getElem?_toArray,List.getElem?_cons_succ,List.getElem?_cons_zero];rfl)
 go_simp
 have hbw:=below_step HG12.out HU1.out
 have han:=nans_any (w:=u1b) g2 (g2+1) n N.id m 5 rc A1 c1 (N.R.S.filter (serP m.n)) (box_cell ((hbw.block g2 lg2).trans HZ2.out)) (Nat.lt_of_lt_of_le lg2 hbw.size) (four_cells ((hbw.block n ln).trans HH.out.box)).1 (Nat.lt_of_lt_of_le ln hbw.size) ((hbw.block (g2+1) lg3).trans HZ3.out)
 refine (Calls.mono (han) ?_);rintro e u2b ⟨rfl,hz5,gg⟩
 have HZ5:=hide hz5;have HU2:=hide gg
 clear hz5 han hbw
 refine hK.out _ _ gg (j_switch gg ?_)
 clear hK KK gg
 try go_frame
 refine' j_t 12 [] rfl (by kernel_rfl) rfl ?y12b ?r12b
 case y12b=>(intro w' hw';go_simp;try with_reducible rfl)
 try go_frame
 refine wpAnyJ_done (by kernel_rfl) ?_ _
 refine NoPanic.normal ?_
 go_wp2_with fail
 go_ret
 have hbu:=below_step HB0.out (below_step HG12.out HU1.out)
 have hb2:=below_step (below_step HG12.out HU1.out) HU2.out
 have hlow:w.heap.size≤ud.heap.size:=Nat.le_trans HB0.out.size (below_step HG12.out HUD.out).size
 refine ⟨_,[⟨5,N.id,m.f,m.id,rc,A1,c1,N.R.S.filter (serP m.n)⟩],N.R,X,w.heap.size,rfl,⟨by rw [HRC.out];rfl,rfl⟩,⟨s,Y,HH.out.sets (S:=fun _=>False) (Sets.of hb2) (fun _ _=>id)⟩,fun g e=>.inl e,Nat.le_refl _,Nat.le_trans HB0.out.size hb2.size,msr_one ⟨5,N.id,m.f,m.id,rc,A1,c1,N.R.S.filter (serP m.n)⟩ HZ5.out ⟨HR1.out.1.below HU2.out,HR1.out.2⟩ hbu.size (fun a ha hn=>?_),Sets.of (below_step HB0.out hb2),rfl⟩
 have:=(HOX.out.lt a.block (by show (Value.slice A1 _ _).ownBlock=_;rw [show A1=some a from ha];rfl)).1
 omega
set_option maxRecDepth 100000 in
set_option maxHeartbeats 3200000 in
theorem nhandle_nil2 {w:World} {base n:Nat} {X:Nat→Prop} {N:Nr} (H:NodeO w base n X N) (m:Mg) (hm:m.rd w) (hk:mokB m=true) (hto:m.t=N.id) (h1:m.k=2) :
 Calls Tryz.prog 9 #[ptv n,m.val] w (HanP w base n X N (fun rep R'=>rep=[]∧R'=N.R)):=by
 have hml:m.L.length≤1500:=by
  have h:=hk
  unfold mokB at h
  simp only [Bool.and_eq_true,decide_eq_true_eq] at h
  exact h.1.1.2
 obtain ⟨s,Y,H⟩:=H
 have hbd:=H.bd
 have hbl:base≤w.heap.size:=by have:=H.bd n H.nX;omega
 obtain ⟨wb,hwb⟩:∃ wb,(w.alloc (.cells #[ptv n] 25)).alloc (.cells #[.int .i64 m.k,.int .i64 m.f,.int .i64 m.t,.int .u64 m.id,.int .u64 m.n,.slice m.A m.L.length m.c] 33)=wb:=⟨_,rfl⟩
 have hb0:Below w.heap.size w wb:=by rw [← hwb];exact below_alloc (below_alloc (Below.refl w.heap.size w) _) _
 have hz2:wb.heap[w.heap.size]? = some (.cells #[ptv n] 25 (0,0)):=by rw [← hwb];exact (Below.heap_alloc _ _ _ (by simp)).trans (heap_alloc_new w _)
 have hz3:wb.heap[w.heap.size+1]? = some (.cells #[.int .i64 m.k,.int .i64 m.f,.int .i64 m.t,.int .u64 m.id,.int .u64 m.n,.slice m.A m.L.length m.c] 33 (0,0)):=by
  have:=heap_alloc_new (w.alloc (.cells #[ptv n] 25)) (.cells #[.int .i64 m.k,.int .i64 m.f,.int .i64 m.t,.int .u64 m.id,.int .u64 m.n,.slice m.A m.L.length m.c] 33)
  rw [hwb,World.size_alloc] at this
  exact this
 obtain ⟨g2,hg2⟩:∃ g,w.heap.size=g:=⟨_,rfl⟩
 rw [hg2] at hz2 hz3
 have lg3:g2+1 < wb.heap.size:=(Array.getElem?_eq_some_iff.1 hz3).1
 have lg2:g2 < wb.heap.size:=by omega
 have H0:=H.sets (S:=fun _=>False) (Sets.of hb0) (fun _ _=>id)
 have ln:n < wb.heap.size:=H0.lt
 obtain ⟨m0,m1,m2,m3,m4,m5⟩:=six_cells hz3
 have b2:=box_cell hz2
 obtain ⟨k0,k1,kr⟩:=H0.cells
 have hmok:∀ s:Near wb,Calls Tryz.prog 25 #[m.val] s.at_ fun e w'=>e=.returned (.bool (mokB m))∧Below s.at_.heap.size s.at_ w':=fun s=>mok_any m s.at_ ((hm.below hb0).below s.is).1 (by omega)
 rw [hk] at hmok
 unfold Mg.val at hmok
 have HMK:=hide hmok
 have HH:=hide H0
 have HB0:=hide hb0
 have HZ2:=hide hz2
 have HZ3:=hide hz3
 have HG2:=hide hg2
 have HWB:=hide hwb
 have HBD:=hide hbd
 have HBL:=hide hbl
 have HM:=hide (hm.below hb0)
 have HMO:=hide hk
 have HTO:=hide hto
 have dC:(m.t != N.id)=false:=by simp [hto]
 obtain ⟨rf,hrf⟩:∃ v,N.R.v.fl=v:=⟨_,rfl⟩
 obtain ⟨rc,hrc⟩:∃ v,N.R.v.ce=v:=⟨_,rfl⟩
 obtain ⟨ra,hra⟩:∃ v,N.R.v.at_=v:=⟨_,rfl⟩
 obtain ⟨re,hre⟩:∃ v,N.R.v.le=v:=⟨_,rfl⟩
 have HRF:=hide hrf
 have HRC:=hide hrc
 have HSM:Hid (∀ W,Below wb.heap.size wb W→Calls Tryz.prog 23 #[ptv s] W fun e w'=>e=.returned (meta4 rf rc ra re)∧Below W.heap.size W w'):=hide (fun W hW=>by
  have:=smeta_any (H0.st.below hW)
  rw [hrf,hrc,hra,hre] at this
  exact this)
 have HK1:=hide h1
 clear H H0 hbd hbl hb0 hz2 hz3 hg2 hwb hm hmok hk hto hrf hrc hra hre kr h1
 have rm0:=fun s:Near wb=>s.cell m0 lg3
 have rm1:=fun s:Near wb=>s.cell m1 lg3
 have rm2:=fun s:Near wb=>s.cell m2 lg3
 have rm3:=fun s:Near wb=>s.cell m3 lg3
 have rm4:=fun s:Near wb=>s.cell m4 lg3
 have rm5:=fun s:Near wb=>s.cell m5 lg3
 have rb2:=fun s:Near wb=>s.cell b2 lg2
 have rk0:=fun s:Near wb=>s.cell k0 ln
 go_enter Tryz.func9,Tryz.ntmps9
 go_upto_region 1 with fail
 rw [HWB.out,HG2.out]
 refine wp_region_near (by kernel_rfl) (by kernel_rfl) ?_
 repeat (go_big_quiet_step ((first | (go_at_call 25;exact near_of (HMK.out _)))))
 refine wpQuiet_nil ?_
 intro _ hw'
 obtain ⟨s1,rfl⟩:=hw'
 have HB1:=hide s1.is
 have c0:=rm0 s1
 rw [HK1.out] at c0
 have c1:=rm1 s1
 have c2:=rm2 s1
 have c3:=rm3 s1
 have c4:=rm4 s1
 have c5:=rm5 s1
 have cb:=rb2 s1
 have ck:=keep_cell s1.is k1 ln
 have HS1:=hide (HSM.out _ s1.is)
 have hl3:g2+1 < s1.at_.heap.size:=Nat.lt_of_lt_of_le lg3 s1.is.size
 have hln:n < s1.at_.heap.size:=Nat.lt_of_lt_of_le ln s1.is.size
 obtain ⟨w1,hw1⟩:∃ w1,s1.at_=w1:=⟨_,rfl⟩
 rw [hw1] at HB1 c0 c1 c2 c3 c4 c5 cb ck HS1 hl3 hln ⊢
 clear rm0 rm1 rm2 rm3 rm4 rm5 rb2 rk0 hw1 s1 HMK m0 m1 m2 m3 m4 m5 b2 k0 k1
 go_wp2_with ((with_reducible refine (HS1.out).mono ?_);rintro e w2 ⟨rfl,hg2'⟩;have HG12:=hide (below_step HB1.out (below_alloc hg2' (.cells #[.int .u64 rf,.int .u64 rc,.int .u64 ra,.int .u64 re] 75)));obtain ⟨bc2,bf2⟩:=bcell hg2';have d0:=(bc2 (g2+1) 0 hl3).trans c0;have d1:=(bc2 (g2+1) 1 hl3).trans c1;have d3:=(bc2 (g2+1) 3 hl3).trans c3;have d4:=(bc2 (g2+1) 4 hl3).trans c4;have d5:=(bc2 (g2+1) 5 hl3).trans c5;have db:=(bc2 g2 0 (by omega)).trans cb;have dk:=(bc2 n 1 hln).trans ck;have hl32:=Nat.lt_of_lt_of_le hl3 hg2'.size;have hln2:=Nat.lt_of_lt_of_le hln hg2'.size;clear hg2' bc2 bf2 c0 c1 c2 c3 c4 c5 cb ck HS1)
 go_ret
 exact ⟨_,[],N.R,X,w.heap.size,rfl,⟨rfl,rfl⟩,⟨s,Y,HH.out.sets (S:=fun _=>False) (Sets.of HG12.out) (fun _ _=>id)⟩,fun g e=>.inl e,Nat.le_refl _,Nat.le_trans HB0.out.size HG12.out.size,MsR.nil_ _ _ _ _,Sets.of (below_step HB0.out HG12.out),rfl⟩
set_option maxRecDepth 100000 in
set_option maxHeartbeats 3200000 in
theorem nhandle_nil5 {w:World} {base n:Nat} {X:Nat→Prop} {N:Nr} (H:NodeO w base n X N) (m:Mg) (hm:m.rd w) (hk:mokB m=true) (hto:m.t=N.id) (h1:m.k=5) :
 Calls Tryz.prog 9 #[ptv n,m.val] w (HanP w base n X N (fun rep R'=>rep=[]∧R'=N.R)):=by
 have hml:m.L.length≤1500:=by
  have h:=hk
  unfold mokB at h
  simp only [Bool.and_eq_true,decide_eq_true_eq] at h
  exact h.1.1.2
 obtain ⟨s,Y,H⟩:=H
 have hbd:=H.bd
 have hbl:base≤w.heap.size:=by have:=H.bd n H.nX;omega
 obtain ⟨wb,hwb⟩:∃ wb,(w.alloc (.cells #[ptv n] 25)).alloc (.cells #[.int .i64 m.k,.int .i64 m.f,.int .i64 m.t,.int .u64 m.id,.int .u64 m.n,.slice m.A m.L.length m.c] 33)=wb:=⟨_,rfl⟩
 have hb0:Below w.heap.size w wb:=by rw [← hwb];exact below_alloc (below_alloc (Below.refl w.heap.size w) _) _
 have hz2:wb.heap[w.heap.size]? = some (.cells #[ptv n] 25 (0,0)):=by rw [← hwb];exact (Below.heap_alloc _ _ _ (by simp)).trans (heap_alloc_new w _)
 have hz3:wb.heap[w.heap.size+1]? = some (.cells #[.int .i64 m.k,.int .i64 m.f,.int .i64 m.t,.int .u64 m.id,.int .u64 m.n,.slice m.A m.L.length m.c] 33 (0,0)):=by
  have:=heap_alloc_new (w.alloc (.cells #[ptv n] 25)) (.cells #[.int .i64 m.k,.int .i64 m.f,.int .i64 m.t,.int .u64 m.id,.int .u64 m.n,.slice m.A m.L.length m.c] 33)
  rw [hwb,World.size_alloc] at this
  exact this
 obtain ⟨g2,hg2⟩:∃ g,w.heap.size=g:=⟨_,rfl⟩
 rw [hg2] at hz2 hz3
 have lg3:g2+1 < wb.heap.size:=(Array.getElem?_eq_some_iff.1 hz3).1
 have lg2:g2 < wb.heap.size:=by omega
 have H0:=H.sets (S:=fun _=>False) (Sets.of hb0) (fun _ _=>id)
 have ln:n < wb.heap.size:=H0.lt
 obtain ⟨m0,m1,m2,m3,m4,m5⟩:=six_cells hz3
 have b2:=box_cell hz2
 obtain ⟨k0,k1,kr⟩:=H0.cells
 have hmok:∀ s:Near wb,Calls Tryz.prog 25 #[m.val] s.at_ fun e w'=>e=.returned (.bool (mokB m))∧Below s.at_.heap.size s.at_ w':=fun s=>mok_any m s.at_ ((hm.below hb0).below s.is).1 (by omega)
 rw [hk] at hmok
 unfold Mg.val at hmok
 have HMK:=hide hmok
 have HH:=hide H0
 have HB0:=hide hb0
 have HZ2:=hide hz2
 have HZ3:=hide hz3
 have HG2:=hide hg2
 have HWB:=hide hwb
 have HBD:=hide hbd
 have HBL:=hide hbl
 have HM:=hide (hm.below hb0)
 have HMO:=hide hk
 have HTO:=hide hto
 have dC:(m.t != N.id)=false:=by simp [hto]
 obtain ⟨rf,hrf⟩:∃ v,N.R.v.fl=v:=⟨_,rfl⟩
 obtain ⟨rc,hrc⟩:∃ v,N.R.v.ce=v:=⟨_,rfl⟩
 obtain ⟨ra,hra⟩:∃ v,N.R.v.at_=v:=⟨_,rfl⟩
 obtain ⟨re,hre⟩:∃ v,N.R.v.le=v:=⟨_,rfl⟩
 have HRF:=hide hrf
 have HRC:=hide hrc
 have HSM:Hid (∀ W,Below wb.heap.size wb W→Calls Tryz.prog 23 #[ptv s] W fun e w'=>e=.returned (meta4 rf rc ra re)∧Below W.heap.size W w'):=hide (fun W hW=>by
  have:=smeta_any (H0.st.below hW)
  rw [hrf,hrc,hra,hre] at this
  exact this)
 have HK1:=hide h1
 clear H H0 hbd hbl hb0 hz2 hz3 hg2 hwb hm hmok hk hto hrf hrc hra hre kr h1
 have rm0:=fun s:Near wb=>s.cell m0 lg3
 have rm1:=fun s:Near wb=>s.cell m1 lg3
 have rm2:=fun s:Near wb=>s.cell m2 lg3
 have rm3:=fun s:Near wb=>s.cell m3 lg3
 have rm4:=fun s:Near wb=>s.cell m4 lg3
 have rm5:=fun s:Near wb=>s.cell m5 lg3
 have rb2:=fun s:Near wb=>s.cell b2 lg2
 have rk0:=fun s:Near wb=>s.cell k0 ln
 go_enter Tryz.func9,Tryz.ntmps9
 go_upto_region 1 with fail
 rw [HWB.out,HG2.out]
 refine wp_region_near (by kernel_rfl) (by kernel_rfl) ?_
 repeat (go_big_quiet_step ((first | (go_at_call 25;exact near_of (HMK.out _)))))
 refine wpQuiet_nil ?_
 intro _ hw'
 obtain ⟨s1,rfl⟩:=hw'
 have HB1:=hide s1.is
 have c0:=rm0 s1
 rw [HK1.out] at c0
 have c1:=rm1 s1
 have c2:=rm2 s1
 have c3:=rm3 s1
 have c4:=rm4 s1
 have c5:=rm5 s1
 have cb:=rb2 s1
 have ck:=keep_cell s1.is k1 ln
 have HS1:=hide (HSM.out _ s1.is)
 have hl3:g2+1 < s1.at_.heap.size:=Nat.lt_of_lt_of_le lg3 s1.is.size
 have hln:n < s1.at_.heap.size:=Nat.lt_of_lt_of_le ln s1.is.size
 obtain ⟨w1,hw1⟩:∃ w1,s1.at_=w1:=⟨_,rfl⟩
 rw [hw1] at HB1 c0 c1 c2 c3 c4 c5 cb ck HS1 hl3 hln ⊢
 clear rm0 rm1 rm2 rm3 rm4 rm5 rb2 rk0 hw1 s1 HMK m0 m1 m2 m3 m4 m5 b2 k0 k1
 go_wp2_with ((with_reducible refine (HS1.out).mono ?_);rintro e w2 ⟨rfl,hg2'⟩;have HG12:=hide (below_step HB1.out (below_alloc hg2' (.cells #[.int .u64 rf,.int .u64 rc,.int .u64 ra,.int .u64 re] 75)));obtain ⟨bc2,bf2⟩:=bcell hg2';have d0:=(bc2 (g2+1) 0 hl3).trans c0;have d1:=(bc2 (g2+1) 1 hl3).trans c1;have d3:=(bc2 (g2+1) 3 hl3).trans c3;have d4:=(bc2 (g2+1) 4 hl3).trans c4;have d5:=(bc2 (g2+1) 5 hl3).trans c5;have db:=(bc2 g2 0 (by omega)).trans cb;have dk:=(bc2 n 1 hln).trans ck;have hl32:=Nat.lt_of_lt_of_le hl3 hg2'.size;have hln2:=Nat.lt_of_lt_of_le hln hg2'.size;clear hg2' bc2 bf2 c0 c1 c2 c3 c4 c5 cb ck HS1)
 go_ret
 exact ⟨_,[],N.R,X,w.heap.size,rfl,⟨rfl,rfl⟩,⟨s,Y,HH.out.sets (S:=fun _=>False) (Sets.of HG12.out) (fun _ _=>id)⟩,fun g e=>.inl e,Nat.le_refl _,Nat.le_trans HB0.out.size HG12.out.size,MsR.nil_ _ _ _ _,Sets.of (below_step HB0.out HG12.out),rfl⟩
end Go.Proofs.YtgmkckjedngkdaaGreatDoor
