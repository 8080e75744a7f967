/- A part of the proof that TopMajorityLaw holds: XZOpn, XZGro, XZNew. Conditions: as typed. -/
import Derived.Test.YtgmkckjedngkdaaGreatDoorTm03
import Derived.Test.YtgmkckjedngkdaaGreatDoorTm17
import Derived.Test.YtgmkckjedngkdaaGreatDoorTm38
set_option linter.unusedVariables false
set_option linter.unusedSimpArgs false
namespace Go.Proofs.YtgmkckjedngkdaaGreatDoor
open Go.ChangeShapes Go.WideShapes Go.ChangeAt Go.RowKit
theorem place_put12 {w:World} {g:Nat} {d0 d1 d2 d3:Value} {t:TypeId} (h:w.heap[g]? = some (.cells #[d0,d1,d2,d3] t (0,0))) (v1 v2:Value):((w.setCell ⟨g,1,none⟩ v1).setCell ⟨g,2,none⟩ v2).heap[g]? = some (.cells #[d0,v1,v2,d3] t (0,0)):=by
 simp [World.setCell,Array.getElem?_modify,h]
set_option maxRecDepth 100000 in
set_option maxHeartbeats 6400000 in
theorem copen_any {w:World} {base c i p d gp offp np cpp:Nat} {X:Nat→Prop} {q grace:Int} (hc0:w.cell? ⟨c,0,none⟩=some (.slice (some ⟨gp,offp,none⟩) np cpp)) (hcl:c < w.heap.size) (hi:i < np) (hpc:w.cell? ⟨gp,offp+i,none⟩=some (ptv p)) (hc1:w.cell? ⟨c,1,none⟩=some (.int .u64 grace))
 (hp:w.heap[p]? = some (.cells #[ptv d,.pointer none,.pointer none,.slice none 0 0] 104 (0,0))) (hd:DiskO w base d X (dk0 q)) (he:ErrOk w) (hb2:2≤base) (hq:600≤q) (hi6:i≤6) (hg0:0≤grace) (hg:grace≤1099511627776) (hXp:¬ X p) :
 Calls Tryz.prog 41 #[ptv c,.int .i64 i] w fun e w'=>e=.returned (.int .i64 0)∧∃ n k zl zm zc X',New3 zl zm zc∧NodeO w' base n X' (nr0 d i q grace zl zm zc)∧(∀ g,X' g→X g ∨ (w.heap.size≤g∧g < k))∧w.heap.size≤k∧ClkAt w' k i 0 0∧w'.heap[p]? = some (.cells #[ptv d,ptv n,ptv k,.slice none 0 0] 104 (0,0))∧Sets (fun g=>X g ∨ g=p) w w':=by
 have hbl:base≤w.heap.size:=by obtain ⟨h,H⟩:=hd;exact H.base_le
 have hlp:=(Array.getElem?_eq_some_iff.1 hp).1
 have hgp:gp < w.heap.size:=by
  by_cases h:gp < w.heap.size
  ·exact h
  ·have:w.heap[gp]? = none:=by simp;omega
   simp [World.cell?,this] at hpc
 obtain ⟨p0,p1,p2,p3⟩:=four_cells hp
 have hiI:(i:Int) < (np:Int):=by omega
 have hi0:(0:Int)≤(i:Int):=by omega
 have HC:Hid (∀ W:World,Below w.heap.size w W→W.cell? ⟨p,0,none⟩=some (ptv d)∧W.cell? ⟨c,1,none⟩=some (.int .u64 grace)):=hide (fun W hW=>⟨keep_cell hW p0 hlp,keep_cell hW hc1 hcl⟩)
 obtain ⟨ud,hud⟩:∃ ud,w.drew=ud:=⟨_,rfl⟩
 have HUD:Hid (Below w.heap.size w ud):=hide (by rw [← hud];exact (Below.refl _ _).drew)
 have HNO:=hide (nopen_any (hd.below HUD.out) (he.below HUD.out (by omega)) hb2 hq i grace hi6 hg0 hg)
 have HPB:=hide hp
 have HXP:=hide hXp
 have HLP:=hide hlp
 have HI6:=hide hi6
 have HXB:=hide hd.bd
 clear hp hd he hb2 hq hi6 hg0 hg hXp p0 p1 p2 p3
 go_enter Tryz.func41,Tryz.ntmps41
 go_upto_region 2 with fail
 refine j_start [9,10,11,12,13,14] (by kernel_rfl) ?_
 rw [hud]
 clear hud
 refine' j_t 0 [9,10,11,12,13,14] rfl (by kernel_rfl) rfl ?y0o ?r0o
 case y0o=>(intro w' hw';go_simp;try with_reducible rfl)
 try go_frame
 refine' j_t 1 [2,3,4,9,10,11,12,13,14] rfl (by kernel_rfl) rfl ?y1o ?r1o
 case y1o=>(intro w' hw';go_simp;try with_reducible rfl)
 try go_frame
 refine' j_t 2 [3,4,9,10,11,12,13,14] rfl (by kernel_rfl) rfl ?y2o ?r2o
 case y2o=>(intro w' hw';go_simp;try with_reducible rfl)
 try go_frame
 refine' j_t 3 [4,9,10,11,12,13,14] rfl (by kernel_rfl) rfl ?y3o ?r3o
 case y3o=>(intro w' hw';go_simp;try with_reducible rfl)
 try go_frame
 refine' j_t 4 [9,10,11,12,13,14] rfl (by kernel_rfl) rfl ?y4o ?r4o
 case y4o=>(intro w' hw';obtain ⟨q0,q1⟩:=HC.out _ (below_step HUD.out hw');go_simp;try with_reducible rfl)
 try go_frame
 refine' j_t 5 [6,7,8,9,10,11,12,13,14] rfl (by kernel_rfl) rfl ?y5o ?r5o
 case y5o=>(intro w' hw';go_simp;try with_reducible rfl)
 try go_frame
 refine' j_t 6 [7,8,9,10,11,12,13,14] rfl (by kernel_rfl) rfl ?y6o ?r6o
 case y6o=>(intro w' hw';go_simp;try with_reducible rfl)
 try go_frame
 refine' j_t 7 [8,9,10,11,12,13,14] rfl (by kernel_rfl) rfl ?y7o ?r7o
 case y7o=>(intro w' hw';go_simp;try with_reducible rfl)
 try go_frame
 refine' j_t 8 [9,10,11,12,13,14] rfl (by kernel_rfl) rfl ?y8o ?r8o
 case y8o=>(intro w' hw';obtain ⟨q0,q1⟩:=HC.out _ (below_step HUD.out hw');go_simp;try with_reducible rfl)
 try go_frame
 refine' wpAnyJ_last (i:=9) (o:=_) (by kernel_rfl) ?ho9o (by kernel_rfl) (fun KK hK=>?step9o)
 case ho9o=>(simp only [List.getElem?_toArray,List.getElem?_cons_succ,List.getElem?_cons_zero];rfl)
 go_simp
 refine (Calls.mono (HNO.out) ?_);rintro e u1o ⟨n,zl,zm,zc,rfl,hn3,hno,hks⟩
 have HN3:=hide hn3;have HNN:=hide hno;have HKS:=hide hks
 clear hn3 hno hks
 refine hK.out _ _ ?_
 clear hK KK
 try go_frame
 refine' j_tw 10 rfl (by kernel_rfl) rfl ?y10o ?r10o
 case y10o=>(intro w' hw';go_simp;try with_reducible rfl)
 try go_frame
 refine' j_tw 11 rfl (by kernel_rfl) rfl ?y11o ?r11o
 case y11o=>(intro w' hw';go_simp;try with_reducible rfl)
 try go_frame
 refine' j_tw 12 rfl (by kernel_rfl) rfl ?y12o ?r12o
 case y12o=>(intro w' hw';go_simp;try with_reducible rfl)
 try go_frame
 refine' wpAnyJ_last (i:=13) (o:=_) (by kernel_rfl) ?ho13o (by kernel_rfl) (fun KK hK=>?step13o)
 case ho13o=>(simp only [List.getElem?_toArray,List.getElem?_cons_succ,List.getElem?_cons_zero];rfl)
 go_simp
 refine hK.out _ _ ?_
 clear hK KK
 try go_frame
 refine' wpAnyJ_last (i:=14) (o:=_) (by kernel_rfl) ?ho14o (by kernel_rfl) (fun KK hK=>?step14o)
 case ho14o=>(simp only [List.getElem?_toArray,List.getElem?_cons_succ,List.getElem?_cons_zero];rfl)
 go_simp
 refine hK.out _ _ ?_
 clear hK KK
 try go_frame
 refine wpAnyJ_done (by kernel_rfl) ?_ _
 refine NoPanic.normal ?_
 have hpu:=(HKS.out.block p (Nat.lt_of_lt_of_le HLP.out HUD.out.size) HXP.out).trans ((HUD.out.block p HLP.out).trans HPB.out)
 have hlu:=(Array.getElem?_eq_some_iff.1 hpu).1
 have hsu:=HKS.out.size
 have HPU:=hide hpu
 have HME:Hid (Calls Tryz.prog 96 #[ptv n] u1o fun e w'=>e=.returned (meta4 0 0 0 0)∧Below u1o.heap.size u1o w'):=hide (nmeta_any HNN.out)
 have hfm:∀ W,(Instr.field 75 (meta4 0 0 0 0) 3).run Tryz.prog W=.ok (.int .u64 0) W:=fun W=>by kernel_rfl
 have HKN:=hide (fun (W:World)=>knew_any i 0 W HI6.out (by omega) (by omega))
 clear hpu hsu HC
 go_upto_region 8 with (first
  | ((with_reducible refine (HME.out).mono ?_);rintro e w2 ⟨rfl,hg2⟩;have HG2:=hide hg2;clear hg2)
  | ((with_reducible refine (HKN.out _).mono ?_);rintro e w3 ⟨rfl,hck,hg3⟩;have HCK:=hide hck;have HG3:=hide hg3;clear hck hg3))
 have hp3:=(HG3.out.block p (Nat.lt_of_lt_of_le hlu HG2.out.size)).trans ((HG2.out.block p hlu).trans HPU.out)
 have h23:=HG2.out.size
 obtain ⟨k,hk⟩:∃ k,w2.heap.size=k:=⟨_,rfl⟩
 rw [hk] at HCK ⊢
 obtain ⟨_,q1,q2,_⟩:=four_cells hp3
 have z1:w3.frozen? ⟨p,1,none⟩=false:=by simp [World.frozen?,hp3]
 have z2:w3.frozen? ⟨p,2,none⟩=false:=by simp [World.frozen?,hp3]
 have HP3:=hide hp3
 have HKK:=hide hk
 clear hp3 hk hfm HME HKN
 go_wp2_with fail
 go_ret
 have hpz:=place_put12 HP3.out (ptv n) (ptv k)
 have hs:=(sets1 w3 p 1 (ptv n)).set (g:=p) (fun _=>rfl) 2 (ptv k)
 have hbx:=below_step HG2.out HG3.out
 have hud:=HUD.out.size
 have hku:=HKS.out.size
 have hkk:=HKK.out
 have hlp2:=HLP.out
 have hnn:=(HNN.out.below hbx).sets hs (fun g hg e=>by
  rcases hg with h | h
  ·exact HXP.out (by rw [← e];exact h)
  ·omega)
 refine ⟨rfl,n,k,zl,zm,zc,_,HN3.out,hnn,fun g hg=>?_,by omega,HCK.out.sets hs (fun e=>by omega),hpz,?_⟩
 ·rcases hg with h | h
  ·exact .inl h
  ·exact .inr ⟨by omega,by omega⟩
 ·exact (((Sets.of (S:=fun g=>X g ∨ g=p) HUD.out).trans HKS.out (fun g _ e=>.inl e)).trans (Sets.of (S:=fun _=>False) hbx) (fun _ _ h=>h.elim)).trans hs (fun g _ e=>.inr e)
end Go.Proofs.YtgmkckjedngkdaaGreatDoor
namespace Go.Proofs.YtgmkckjedngkdaaGreatDoor
open Go.ChangeShapes Go.WideShapes Go.ChangeAt Go.RowKit
open Classical in
noncomputable def colG (col:Nat→Nat) (lo i p k:Nat) (X:Nat→Prop) (ov:Option Nat) (g:Nat):Nat :=
 if g < lo then col g else if g=p then 10+5 * i else if X g then 11+5 * i else if g=k then 12+5 * i else if ov=some g then 3 else 0
section
variable {w w':World} {base:Bs} {c p n k d i:Nat} {col:Nat→Nat} {a:Cl} {vp':Value} {X:Nat→Prop} {N:Nr}
theorem CluV.grown (H:CluV w base c col a) (hi:a.P.length=i) (hs:Sets (fun g=>g=c ∨ a.vp.ownBlock=some g) w w') (hvc:∀ g,a.vp.ownBlock=some g→col g=3)
 (hbox:w'.heap[c]? = some (.cells #[vp',.int .u64 a.grace,ptv a.nb,.int .u64 a.ids,a.va,a.vi] 99 (0,0))) (hrow:OwnL (one1 ptv) 1 100 base w' vp' (a.ps ++ [p])) (hmv:∀ g,vp'.ownBlock=some g→a.vp.ownBlock=some g ∨ w.heap.size≤g)
 (hp:w'.heap[p]? = some (.cells #[ptv d,ptv n,ptv k,.slice none 0 0] 104 (0,0))) (hpl:w.heap.size≤p) (hno:NodeO w' base n X N) (hX:∀ g,X g→w.heap.size≤g) (hid:N.id=i) (hdd:N.R.d=d) (hck:ClkAt w' k i 0 0) (hkl:w.heap.size≤k)
 (h1:¬ X p) (h2:¬ X k) (h3:p ≠ k) (h4:∀ g,vp'.ownBlock=some g→w.heap.size≤g→¬ X g∧g ≠ p∧g ≠ k) :
 ∃ col',CluV w' base c col' { a with vp:=vp',ps:=a.ps ++ [p],P:=a.P ++ [⟨d,n,k,.slice none 0 0,N,0,0,none,true⟩] }∧∀ g,vp'.ownBlock=some g→col' g=3:=by
 have hold:∀ g,g < w.heap.size→colG col w.heap.size i p k X vp'.ownBlock g=col g:=fun g h=>by unfold colG;rw [if_pos h]
 have hlp:=(Array.getElem?_eq_some_iff.1 hp).1
 have hnew:∀ g,w.heap.size≤g→(g=p∧colG col w.heap.size i p k X vp'.ownBlock g=10+5 * i) ∨ (g ≠ p∧X g∧colG col w.heap.size i p k X vp'.ownBlock g=11+5 * i) ∨ (g ≠ p∧¬ X g∧g=k∧colG col w.heap.size i p k X vp'.ownBlock g=12+5 * i) ∨ (g ≠ p∧¬ X g∧g ≠ k∧vp'.ownBlock=some g∧colG col w.heap.size i p k X vp'.ownBlock g=3) ∨ (g ≠ p∧¬ X g∧g ≠ k∧vp'.ownBlock ≠ some g∧colG col w.heap.size i p k X vp'.ownBlock g=0):=fun g h=>by
  unfold colG
  rw [if_neg (by omega)]
  by_cases e1:g=p
  ·rw [if_pos e1];exact .inl ⟨e1,rfl⟩
  ·rw [if_neg e1]
   by_cases e2:X g
   ·rw [if_pos e2];exact .inr (.inl ⟨e1,e2,rfl⟩)
   ·rw [if_neg e2]
    by_cases e3:g=k
    ·rw [if_pos e3];exact .inr (.inr (.inl ⟨e1,e2,e3,rfl⟩))
    ·rw [if_neg e3]
     by_cases e4:vp'.ownBlock=some g
     ·rw [if_pos e4];exact .inr (.inr (.inr (.inl ⟨e1,e2,e3,e4,rfl⟩)))
     ·rw [if_neg e4];exact .inr (.inr (.inr (.inr ⟨e1,e2,e3,e4,rfl⟩)))
 have hov:∀ g,vp'.ownBlock=some g→colG col w.heap.size i p k X vp'.ownBlock g=3:=fun g e=>by
  by_cases h:g < w.heap.size
  ·rw [hold g h]
   rcases hmv g e with e2 | e2
   ·exact hvc g e2
   ·omega
  ·obtain ⟨q1,q2,q3⟩:=h4 g e (by omega)
   rcases hnew g (by omega) with e5 | e5 | e5 | e5 | e5
   ·exact absurd e5.1 q2
   ·exact absurd e5.2.1 q1
   ·exact absurd e5.2.2.1 q3
   ·exact e5.2.2.2.2
   ·exact absurd e e5.2.2.2.1
 have hok:ColOk w' base (colG col w.heap.size i p k X vp'.ownBlock):=fun g hg=>by
  have hbl:=H.bl.1
  have hkk:∀ g,w.heap.size≤g→¬ base.K g:=fun g h e=>by have:=H.bl.2 g e;omega
  by_cases h:g < w.heap.size
  ·rw [hold g h] at hg
   exact ⟨(H.ok g hg).1,Nat.lt_of_lt_of_le h hs.size⟩
  ·rcases hnew g (by omega) with e5 | e5 | e5 | e5 | e5
   ·exact ⟨⟨by omega,hkk g (by omega)⟩,by rw [e5.1];exact hlp⟩
   ·exact ⟨⟨(hno.bd g e5.2.1).1,hkk g (by omega)⟩,(hno.bd g e5.2.1).2⟩
   ·exact ⟨⟨by omega,hkk g (by omega)⟩,by rw [e5.2.2.1];exact hck.cells.1⟩
   ·exact ⟨⟨(OwnL.lt hrow g e5.2.2.2.1).1,hkk g (by omega)⟩,(OwnL.lt hrow g e5.2.2.2.1).2⟩
   ·exact absurd e5.2.2.2.2 hg
 have hsame:∀ g q,(q < 10+5 * i ∨ 14+5 * i < q)→q ≠ 3→q ≠ 0→(colG col w.heap.size i p k X vp'.ownBlock g=q ↔ col g=q):=fun g q hq h3' h0=>by
  by_cases h:g < w.heap.size
  ·rw [hold g h]
  ·refine ⟨fun e=>?_,fun e=>absurd (H.ok g (by rw [e];exact h0)).2 h⟩
   rcases hnew g (by omega) with e5 | e5 | e5 | e5 | e5
   ·have:=e5.2;omega
   ·have:=e5.2.2;omega
   ·have:=e5.2.2.2;omega
   ·have:=e5.2.2.2.2;omega
   ·have:=e5.2.2.2.2;omega
 have hs2:Sets (fun g=>col g=3 ∨ col g=1) w w':=⟨hs.os,hs.tape,hs.output,hs.size,fun g hg hn=>hs.block g hg (fun e=>hn (by
  rcases e with e | e
  ·rw [e];exact .inr H.cc
  ·exact .inl (hvc g e)))⟩
 have hfar:∀ (S:Nat→Prop),(∀ g,S g→col g ≠ 3∧col g ≠ 1)→∀ g,S g→¬ (col g=3 ∨ col g=1):=fun S h g hg e=>by have:=h g hg;omega
 have hzero:∀ g,g < w.heap.size→col g=0→colG col w.heap.size i p k X vp'.ownBlock g=0:=fun g h h0=>by rw [hold g h];exact h0
 have hlen:a.ps.length=i:=by rw [← H.len];exact hi
 have hnet:NetX w' a.nb a.rb (fun g=>colG col w.heap.size i p k X vp'.ownBlock g=0) 300 a.C 0 a.se:=by
  obtain ⟨v,M,n1,n2,n3,n4⟩:=H.net.at_
  refine ⟨⟨v,M,?_,n2,n3,fun x hx ad ha hn=>hzero _ ((n1.rd x hx).1.lt ad ha hn) (n4 x hx ad ha hn)⟩,H.net.ok⟩
  exact n1.sets hs2 (fun e=>by have:=H.cn a.nb (.inl rfl);omega) (fun g hg e=>by have:=H.cn g (.inr (by rw [← n2];exact hg));omega) (fun x hx ad ha hn e=>by have:=n4 x hx ad ha hn;omega)
 refine ⟨colG col w.heap.size i p k X vp'.ownBlock,?_,hov⟩
 exact {
  ok:=hok
  bl:=H.bl.up hs.size
  box:=hbox
  cc:=by rw [hold c (H.ok c (by rw [H.cc];omega)).2];exact H.cc
  row:=by
   obtain ⟨A,cp,e,hr,hb,_⟩:=OwnL.row (cells:=one1 ptv) (sz:=1) (fun _=>rfl) hrow
   refine ⟨A,cp,e,hr,fun ad ha _=>hov ad.block ?_⟩
   rw [e,ha];rfl
  len:=by show (a.P ++ [_]).length=(a.ps ++ [p]).length;rw [List.length_append,List.length_append,H.len];rfl
  pd:=fun q pp P hq hP hu=>by
   have hq':(a.ps ++ [p])[q]? = some pp:=hq
   have hP':(a.P ++ [(⟨d,n,k,.slice none 0 0,N,0,0,none,true⟩:Pl)])[q]? = some P:=hP
   by_cases h:q < i
   ·rw [List.getElem?_append_left (by omega)] at hq' hP'
    exact (H.pd q pp P hq' hP' hu).sets hs2 (fun g g1 e=>by omega) H.ok (fun g=>hsame g _ (by omega) (by omega) (by omega))
   ·rw [List.getElem?_append_right (by omega)] at hP'
    have h7:=(List.getElem?_eq_some_iff.1 hP').1
    simp only [List.length_singleton] at h7
    have h8:q - a.P.length=0:=by omega
    rw [h8] at hP'
    cases hP'
    cases hu
  pl:=fun q pp P hq hP hu=>by
   have hq':(a.ps ++ [p])[q]? = some pp:=hq
   have hP':(a.P ++ [(⟨d,n,k,.slice none 0 0,N,0,0,none,true⟩:Pl)])[q]? = some P:=hP
   by_cases h:q < i
   ·rw [List.getElem?_append_left (by omega)] at hq' hP'
    exact (H.pl q pp P hq' hP' hu).sets hs2 (fun g g1 g2 e=>by omega) H.ok hok (fun g j j1 j2=>hsame g j (by omega) (by omega) (by omega))
   ·have hqi:q=i:=by
     have h5:q < (a.ps ++ [p]).length:=by
      rw [List.getElem?_eq_some_iff] at hq'
      exact hq'.1
     rw [List.length_append,hlen] at h5
     simp only [List.length_singleton] at h5
     omega
    subst hqi
    rw [List.getElem?_append_right (by omega),hlen,Nat.sub_self] at hq'
    rw [List.getElem?_append_right (by omega),hi,Nat.sub_self] at hP'
    cases hq'
    cases hP'
    have hXi:∀ g,X g→colG col w.heap.size q p k X vp'.ownBlock g=11+5 * q:=fun g hg=>by
     rcases hnew g (hX g hg) with e5 | e5 | e5 | e5 | e5
     ·rw [e5.1] at hg;exact absurd hg h1
     ·exact e5.2.2
     ·exact absurd hg e5.2.1
     ·exact absurd hg e5.2.1
     ·exact absurd hg e5.2.1
    exact {
     box:=hp
     cp:=by
      rcases hnew p hpl with e5 | e5 | e5 | e5 | e5
      ·exact e5.2
      ·exact absurd rfl e5.1
      ·exact absurd rfl e5.1
      ·exact absurd rfl e5.1
      ·exact absurd rfl e5.1
     node:=hno.wide hXi (fun g hg=>hok.lt hg (by omega))
     id:=hid
     dsk:=hdd
     clk:=hck
     ck:=by
      rcases hnew k hkl with e5 | e5 | e5 | e5 | e5
      ·exact absurd e5.1.symm h3
      ·exact absurd e5.2.1 h2
      ·exact e5.2.2.2
      ·exact absurd rfl e5.2.2.1
      ·exact absurd rfl e5.2.2.1
     jobs:=OwnL.nil_ _ _ _ _ _
     cj:=fun g hg=>by cases hg
     job:=fun x hx=>by cases hx }
  net:=hnet
  cn:=fun g hg=>(hsame g 2 (by omega) (by omega) (by omega)).2 (H.cn g hg)
  ans:=OwnL.sets H.ans hs2 (fun g hg e=>by have:=H.ca g hg;omega)
  ca:=fun g hg=>(hsame g 4 (by omega) (by omega) (by omega)).2 (H.ca g hg)
  its:=fun x hx=>by
   obtain ⟨i1,i2,i3,i4,i5⟩:=H.its x hx
   refine ⟨i1,i2.sets hs2 (fun ad ha hn e=>by have:=i5 ad ha hn;omega),i3,i4,fun ad ha hn=>hzero _ ?_ (i5 ad ha hn)⟩
   obtain ⟨bb,off,e,hlt,_⟩:=i2 hn
   rw [ha] at e
   cases e
   exact hlt
  iss:=OwnL.sets H.iss hs2 (fun g hg e=>by have:=H.ci g hg;omega)
  ci:=fun g hg=>(hsame g 5 (by omega) (by omega) (by omega)).2 (H.ci g hg) }
end
end Go.Proofs.YtgmkckjedngkdaaGreatDoor
namespace Go.Proofs.YtgmkckjedngkdaaGreatDoor
open Go.ChangeShapes Go.WideShapes Go.ChangeAt Go.RowKit
theorem infoPp:(Tryz.prog.info? 100).map (fun i=>(i.zero,i.size,i.bytes))=some (some (.pointer none),1,8):=by kernel_rfl
def FreshP (grace q:Int) (i:Nat) (P:Pl):Prop:=∃ zl zm zc,New3 zl zm zc∧P.N=nr0 P.d i q grace zl zm zc∧P.now=0∧P.lease=0∧P.job=none∧P.up=true
structure FreshC (w:World) (base:Bs) (c k:Nat) (q grace:Int) (col:Nat→Nat) (a:Cl):Prop where
 clu:CluV w base c col a
 len:a.P.length=k
 fresh:∀ i P,a.P[i]? = some P→FreshP grace q i P
 row:OwnL (one1 ptv) 1 100 base w a.vp a.ps
 cv:∀ g,a.vp.ownBlock=some g→col g=3
 gr:a.grace=grace
 z:(a.C=[]∧a.se=0)∧(a.ids=0∧a.AL=[])∧a.IL=[]
theorem clu_put0 {w:World} {g:Nat} {d0 d1 d2 d3 d4 d5:Value} {t:TypeId} (h:w.heap[g]? = some (.cells #[d0,d1,d2,d3,d4,d5] t (0,0))) (v:Value):(w.setCell ⟨g,0,none⟩ v).heap[g]? = some (.cells #[v,d1,d2,d3,d4,d5] t (0,0)):=by
 simp [World.setCell,Array.getElem?_modify,h]
section
variable {w wr w9:World} {base:Bs} {c nb k d n p K:Nat} {q grace:Int} {col:Nat→Nat} {a:Cl}
def cl0 (grace:Int) (nb:Nat):Cl:=⟨.slice none 0 0,[],[],grace,nb,none,[],0,0,.slice none 0 0,[],.slice none 0 0,[]⟩
theorem fresh_zero {w1:World} (h:NetX w1 nb none (fun _=>False) 300 [] 0 0) (hnl:w.heap.size≤nb) (hg:Below w.heap.size w w1) :
 ∃ col,FreshC (w1.alloc (.cells #[.slice none 0 0,.int .u64 grace,ptv nb,.int .u64 0,.slice none 0 0,.slice none 0 0] 99)) (bs0 w) w1.heap.size 0 q grace col (cl0 grace nb):=by
 have hb:=below_alloc (Below.refl w1.heap.size w1) (.cells #[.slice none 0 0,.int .u64 grace,ptv nb,.int .u64 0,.slice none 0 0,.slice none 0 0] 99)
 have hbx:=heap_alloc_new w1 (.cells #[.slice none 0 0,.int .u64 grace,ptv nb,.int .u64 0,.slice none 0 0,.slice none 0 0] 99)
 have hnl2:nb < w1.heap.size:=by
  exact h.w.lt
 have hlt:=(Array.getElem?_eq_some_iff.1 hbx).1
 refine ⟨fun g=>if g=w1.heap.size then 1 else if g=nb then 2 else 0,?_⟩
 have hclu:CluV (w1.alloc (.cells #[.slice none 0 0,.int .u64 grace,ptv nb,.int .u64 0,.slice none 0 0,.slice none 0 0] 99)) (bs0 w) w1.heap.size (fun g=>if g=w1.heap.size then 1 else if g=nb then 2 else 0) (cl0 grace nb):={
  ok:=fun g hg=>by
   by_cases e1:g=w1.heap.size
   ·rw [e1];exact ⟨⟨by show w.heap.size≤_;omega,fun e=>e⟩,hlt⟩
   ·by_cases e2:g=nb
    ·rw [e2];exact ⟨⟨hnl,fun e=>e⟩,by omega⟩
    ·exact absurd (by show (if g=w1.heap.size then 1 else if g=nb then 2 else 0)=0;rw [if_neg e1,if_neg e2]) hg
  bl:=⟨by show w.heap.size≤_;omega,fun g e=>e.elim⟩
  box:=hbx
  cc:=by show (if w1.heap.size=w1.heap.size then 1 else if w1.heap.size=nb then 2 else 0)=1;rw [if_pos rfl]
  row:=⟨none,0,rfl,RowAt.nil_,fun ad e=>by cases e⟩
  len:=rfl
  pl:=fun i p P hi hP=>by cases hi
  pd:=fun i p P hi hP=>by cases hi
  net:=(h.below hb).wide (fun g hg=>hg.elim)
  cn:=fun g hg=>by
   rcases hg with rfl | hg
   ·show (if g=w1.heap.size then 1 else if g=g then 2 else 0)=2
    rw [if_neg (by omega),if_pos rfl]
   ·cases hg
  ans:=OwnL.nil_ _ _ _ _ _
  ca:=fun g hg=>by cases hg
  its:=fun x hx=>by cases hx
  iss:=OwnL.nil_ _ _ _ _ _
  ci:=fun g hg=>by cases hg }
 exact ⟨hclu,rfl,(fun i P hP=>by cases hP),OwnL.nil_ _ _ _ _ _,(fun g hg=>by cases hg),rfl,⟨⟨rfl,rfl⟩,⟨rfl,rfl⟩,rfl⟩⟩
theorem fresh_step {vp':Value} {X:Nat→Prop} {zl zm zc:Fz} (H:FreshC wr base c k q grace col a) (hs:Sets (fun g=>g=c ∨ a.vp.ownBlock=some g) wr w9)
 (hbox:w9.heap[c]? = some (.cells #[vp',.int .u64 a.grace,ptv a.nb,.int .u64 a.ids,a.va,a.vi] 99 (0,0))) (hrow:OwnL (one1 ptv) 1 100 base w9 vp' (a.ps ++ [p])) (hmv:∀ g,vp'.ownBlock=some g→a.vp.ownBlock=some g ∨ wr.heap.size≤g)
 (hp:w9.heap[p]? = some (.cells #[ptv d,ptv n,ptv K,.slice none 0 0] 104 (0,0))) (hpl:wr.heap.size≤p) (hn3:New3 zl zm zc) (hno:NodeO w9 base n X (nr0 d k q grace zl zm zc)) (hX:∀ g,X g→wr.heap.size≤g) (hck:ClkAt w9 K k 0 0) (hkl:wr.heap.size≤K)
 (h1:¬ X p) (h2:¬ X K) (h3:p ≠ K) (h4:∀ g,vp'.ownBlock=some g→wr.heap.size≤g→¬ X g∧g ≠ p∧g ≠ K) :
 ∃ col' a',FreshC w9 base c (k+1) q grace col' a':=by
 obtain ⟨col',h5,h6⟩:=H.clu.grown H.len hs H.cv hbox hrow hmv hp hpl hno hX rfl rfl hck hkl h1 h2 h3 h4
 refine ⟨col',_,h5,by show (a.P ++ [_]).length=_;rw [List.length_append,H.len];rfl,fun i P hP=>?_,hrow,h6,H.gr,H.z⟩
 have hP':(a.P ++ [(⟨d,n,K,.slice none 0 0,nr0 d k q grace zl zm zc,0,0,none,true⟩:Pl)])[i]? = some P:=hP
 by_cases hi:i < a.P.length
 ·rw [List.getElem?_append_left hi] at hP'
  exact H.fresh i P hP'
 ·rw [List.getElem?_append_right (by omega)] at hP'
  have:i=a.P.length:=by
   have h7:=(List.getElem?_eq_some_iff.1 hP').1
   simp only [List.length_singleton] at h7
   omega
  rw [this,Nat.sub_self] at hP'
  cases hP'
  rw [this,H.len]
  exact ⟨zl,zm,zc,hn3,rfl,rfl,rfl,rfl,rfl⟩
end
set_option maxRecDepth 100000 in
set_option maxHeartbeats 6400000 in
theorem clnew_any (n:Nat) (q grace:Int) (w:World) (he:ErrOk w) (hb2:2≤w.heap.size) (hn:1≤n∧n≤7) (hq:600≤q∧q≤4611686018427387904) (hg:0≤grace∧grace≤1099511627776) :
 Calls Tryz.prog 14 #[.int .i64 n,.int .i64 q,.int .u64 grace] w fun e w'=>∃ c col a,e=.returned (.tuple #[ptv c,.int .i64 0])∧FreshC w' (bs0 w) c n q grace col a∧Below w.heap.size w w':=by
 have d1:decide ((n:Int) < 1)=false:=decide_eq_false (by omega)
 have d2:decide (7 < (n:Int))=false:=decide_eq_false (by omega)
 have d3:decide (1099511627776 < grace)=false:=decide_eq_false (by omega)
 have f1:¬ (n:Int) < 1:=by omega
 have f2:¬ 7 < (n:Int):=by omega
 have f3:¬ 1099511627776 < grace:=by omega
 have HNN:=hide (nnew_x 300 w)
 rw [show capN 300=300 from rfl] at HNN
 have HE:=hide he
 have HB2:=hide hb2
 have HQ:=hide hq
 have HGR:=hide hg
 have HN7:=hide hn
 clear he hb2 hq hg hn
 go_enter Tryz.func14,Tryz.ntmps14
 go_wp2_with ((with_reducible refine (HNN.out).mono ?_);rintro e w1 ⟨nb,rfl,hnx,hnl,hg1⟩;have HNX:=hide hnx;have HNL:=hide hnl;have HG1:=hide hg1;clear hnx hnl hg1)
 have HF0:=hide (fresh_zero (q:=q) (grace:=grace) HNX.out HNL.out HG1.out)
 have HB0:=hide (below_step HG1.out (below_alloc (Below.refl w1.heap.size w1) (.cells #[.slice none 0 0,.int .u64 grace,ptv nb,.int .u64 0,.slice none 0 0,.slice none 0 0] 99)))
 have HCS:Hid (w.heap.size≤w1.heap.size):=hide HG1.out.size
 obtain ⟨W0,hW0⟩:∃ W0,w1.alloc (.cells #[.slice none 0 0,.int .u64 grace,ptv nb,.int .u64 0,.slice none 0 0,.slice none 0 0] 99)=W0:=⟨_,rfl⟩
 obtain ⟨c,hc⟩:∃ c,w1.heap.size=c:=⟨_,rfl⟩
 rw [hW0,hc] at HF0
 rw [hW0] at HB0
 rw [hc] at HCS
 rw [hW0,hc]
 clear hW0 hc HNX HG1 HNN
 go_loopw [26] (fun i wr=>∃ (k:Nat) (col:Nat→Nat) (a:Cl),k≤n∧i=.int .i64 k∧FreshC wr (bs0 w) c k q grace col a∧Below w.heap.size w wr) (fun i _=>n - (intOf i).toNat)
 case atStart =>
  obtain ⟨col,h⟩:=HF0.out
  exact ⟨0,col,_,by omega,rfl,h,HB0.out⟩
 case round =>
  obtain ⟨k,col,a,hk,rfl,hf,hb⟩:=hrel
  have HF:=hide hf
  have HB:=hide hb
  have HK:=hide hk
  clear hf hb
  by_cases hlt:k < n
  ·have hkI:(k:Int) < (n:Int):=by omega
   have hk0:(0:Int)≤(k:Int):=by omega
   have HLT:=hide hlt
   clear hk hlt
   have HCV:=hide HF.out.clu.cc
   obtain ⟨Av,cv,hva,hrow,_⟩:=HF.out.clu.row
   obtain ⟨nv,hnv⟩:∃ nv,a.ps.length=nv:=⟨_,rfl⟩
   rw [hnv] at hva
   have HVA:=hide hva
   have HNV:Hid (a.ps.length+1≤8):=hide (by have:=HF.out.len;have:=HF.out.clu.len;have:=HN7.out;have:=HLT.out;omega)
   have HNE:=hide hnv
   have HCL:Hid (c < wr.heap.size):=hide (HF.out.clu.ok c (by rw [HCV.out];omega)).2
   have hov:=HF.out.row
   rw [hva] at hov
   have HOV:=hide hov
   have HVC:Hid ((Value.slice Av nv cv).ownBlock ≠ some c):=hide (fun e=>by have:=HF.out.cv c (by rw [hva];exact e);have:=HCV.out;omega)
   have HH:=hide HF.out.clu
   have HC:Hid (∀ W,Below wr.heap.size wr W→W.cell? ⟨c,0,none⟩=some (.slice Av nv cv)):=hide (fun W h=>(cell_of_row W c 0 _ _ _ ((h.block c HCL.out).trans HH.out.box)).trans (by show some a.vp=_;rw [HVA.out]))
   have hpsl:=hnv
   obtain ⟨ud,hud⟩:∃ ud,wr.drew=ud:=⟨_,rfl⟩
   have HUD:Hid (Below wr.heap.size wr ud):=hide (by rw [← hud];exact (Below.refl _ _).drew)
   have HDN:=hide (dnew_any q ud w.heap.size (by have:=HUD.out.size;have:=HB.out.size;omega) (by have:=HQ.out;omega) HQ.out.2)
   clear hov hva hrow hnv hpsl
   go_upto_region 7 with fail
   refine j_start [10,11,12,13,0] (by kernel_rfl) ?_
   rw [hud]
   clear hud
   refine' j_tw 0 rfl (by kernel_rfl) rfl ?y0p ?r0p
   case y0p=>(intro w' hw';go_simp;try with_reducible rfl)
   try go_frame
   refine' j_t 1 [2,3,4,10,11,12,13] rfl (by kernel_rfl) rfl ?y1p ?r1p
   case y1p=>(intro w' hw';go_simp;try with_reducible rfl)
   try go_frame
   refine' j_t 2 [3,4,10,11,12,13] rfl (by kernel_rfl) rfl ?y2p ?r2p
   case y2p=>(intro w' hw';go_simp;try with_reducible rfl)
   try go_frame
   refine' j_t 3 [4,10,11,12,13] rfl (by kernel_rfl) rfl ?y3p ?r3p
   case y3p=>(intro w' hw';go_simp;try with_reducible rfl)
   try go_frame
   refine' j_t 4 [10,11,12,13] rfl (by kernel_rfl) rfl ?y4p ?r4p
   case y4p=>(intro w' hw';have q0:=HC.out _ (below_step HUD.out hw');go_simp;try with_reducible rfl)
   try go_frame
   refine' j_t 5 [6,7,8,9,10,11,12,13] rfl (by kernel_rfl) rfl ?y5p ?r5p
   case y5p=>(intro w' hw';go_simp;try with_reducible rfl)
   try go_frame
   refine' wpAnyJ_step (i:=6) (o:=_) (by kernel_rfl) ?ho6p (fun KK hK=>?step6p)
   case ho6p=>(simp only [List.getElem?_toArray,List.getElem?_cons_succ,List.getElem?_cons_zero];rfl)
   go_simp
   refine (Calls.mono (HDN.out) ?_);rintro e u1p ⟨d,rfl,hd,gg⟩
   have HD:=hide hd;have HU1:=hide (below_step HUD.out gg)
   clear hd
   refine hK.out _ _ gg (j_switch gg ?_)
   clear hK KK gg
   try go_frame
   refine' j_t 7 [8,9,10,11,12,13] rfl (by kernel_rfl) rfl ?y7p ?r7p
   case y7p=>(intro w' hw';go_simp;try with_reducible rfl)
   try go_frame
   refine' wpAnyJ_step (i:=8) (o:=_) (by kernel_rfl) ?ho8p (fun KK hK=>?step8p)
   case ho8p=>(simp only [List.getElem?_toArray,List.getElem?_cons_succ,List.getElem?_cons_zero];rfl)
   go_simp
   have ha:=below_alloc (Below.refl u1p.heap.size u1p) (.cells #[ptv d,.pointer none,.pointer none,.slice none 0 0] 104)
   have hzp:=heap_alloc_new u1p (.cells #[ptv d,.pointer none,.pointer none,.slice none 0 0] 104)
   obtain ⟨u2,hu2⟩:∃ u2,u1p.alloc (.cells #[ptv d,.pointer none,.pointer none,.slice none 0 0] 104)=u2:=⟨_,rfl⟩
   rw [hu2] at ha hzp ⊢
   obtain ⟨p,hp⟩:∃ p,u1p.heap.size=p:=⟨_,rfl⟩
   rw [hp] at hzp ⊢
   have HZP:=hide hzp;have HPE:=hide hp;have HU2:=hide (below_step HU1.out ha)
   have HA2:=hide ha
   clear hzp hp hu2
   refine hK.out _ _ ha (j_switch ha ?_)
   clear hK KK ha
   try go_frame
   refine' wpAnyJ_step (i:=9) (o:=_) (by kernel_rfl) ?ho9p (fun KK hK=>?step9p)
   case ho9p=>(simp only [List.getElem?_toArray,List.getElem?_cons_succ,List.getElem?_cons_zero];rfl)
   go_simp
   have ha:=below_alloc (Below.refl u2.heap.size u2) (.cells #[ptv p] 100)
   have HN:=hide (RowAt.new_one (cells:=one1 ptv) (sz:=1) (y:=p) (heap_alloc_new u2 (.cells #[ptv p] 100)))
   have HGA:Hid (Below wr.heap.size wr (u2.alloc (.cells #[ptv p] 100))):=hide (below_step HU2.out ha)
   have HA3:=hide ha
   refine hK.out _ _ ha (j_switch ha ?_)
   clear hK KK ha
   try go_frame
   refine' wpAnyJ_last (i:=10) (o:=_) (by kernel_rfl) ?ho10p (by kernel_rfl) (fun KK hK=>?step10p)
   case ho10p=>(simp only [List.getElem?_toArray,List.getElem?_cons_succ,List.getElem?_cons_zero];rfl)
   have hua:=HGA.out.size
   refine step_app_row (α:=Nat) (cells:=one1 ptv) rfl (.tmp 33) (.tmp 38) 95 100 (.pointer none) 1 8 rfl Tryz.underlying95 infoPp rfl (by omega) (fun _=>rfl) (fun a u hu=>by simp only [one1,List.mem_singleton] at hu;subst hu;rfl) (by omega) w.heap.size (.slice Av nv cv) a.ps rfl (OwnL.below HOV.out HGA.out) (some ⟨u2.heap.size,0,none⟩) 1 1 [p] rfl rfl HN.out (by have:=HNV.out;omega) (Nat.le_trans HH.out.bl.1 hua) ?_
   intro v7 w7 ho7 hg7 hm7
   obtain ⟨A7,c7,rfl,hr7,_,hc7,hcm7⟩:=OwnL.row (cells:=one1 ptv) (sz:=1) (fun _=>rfl) ho7
   have hbx7:=(hg7.block c (Nat.lt_of_lt_of_le HCL.out hua) (fun e=>HVC.out e.symm)).trans ((HGA.out.block c HCL.out).trans HH.out.box)
   have k0:w7.cell? ⟨c,0,none⟩=some (.slice Av nv cv):=(cell_of_row w7 c 0 _ _ _ hbx7).trans (by show some a.vp=_;rw [HVA.out])
   have z0:w7.frozen? ⟨c,0,none⟩=false:=by simp [World.frozen?,hbx7]
   have HBX7:=hide hbx7;have HO7:=hide ho7;have HG7:=hide hg7;have HM7:=hide hm7;have HR7:=hide hr7
   clear hbx7 ho7 hg7 hm7 hr7 hua
   refine hK.out _ _ ?_
   clear hK KK
   try go_frame
   refine' wpAnyJ_last (i:=11) (o:=_) (by kernel_rfl) ?ho11p (by kernel_rfl) (fun KK hK=>?step11p)
   case ho11p=>(simp only [List.getElem?_toArray,List.getElem?_cons_succ,List.getElem?_cons_zero];rfl)
   go_simp
   refine hK.out _ _ ?_
   clear hK KK
   try go_frame
   refine' wpAnyJ_last (i:=12) (o:=_) (by kernel_rfl) ?ho12p (by kernel_rfl) (fun KK hK=>?step12p)
   case ho12p=>(simp only [List.getElem?_toArray,List.getElem?_cons_succ,List.getElem?_cons_zero];rfl)
   go_simp
   refine hK.out _ _ ?_
   clear hK KK
   try go_frame
   refine' wpAnyJ_last (i:=13) (o:=_) (by kernel_rfl) ?ho13p (by kernel_rfl) (fun KK hK=>?step13p)
   case ho13p=>(simp only [List.getElem?_toArray,List.getElem?_cons_succ,List.getElem?_cons_zero];rfl)
   go_simp
   refine hK.out _ _ ?_
   clear hK KK
   try go_frame
   refine wpAnyJ_done (by kernel_rfl) ?_ _
   refine NoPanic.normal ?_
   obtain ⟨gp,off7,rfl,hgl,hcl7⟩:=HR7.out (by simp)
   obtain ⟨U3,hU3⟩:∃ U3,u2.alloc (.cells #[ptv p] 100)=U3:=⟨_,rfl⟩
   rw [hU3] at HGA HA3 HG7 HM7
   clear HN hU3
   have hpl:=(Array.getElem?_eq_some_iff.1 HZP.out).1
   have sUD:=HUD.out.size
   have sU1:=HU1.out.size
   have sA2:=HA2.out.size
   have sA3:=HA3.out.size
   have sG7:U3.heap.size≤w7.heap.size:=HG7.out.size
   have hpe:=HPE.out
   have hcl:=HCL.out
   have hsD:ud.heap.size≤u1p.heap.size:=by
    obtain ⟨h1,h2⟩:=HD.out.at_
    omega
   have hown:∀ g,(Value.slice Av nv cv).ownBlock=some g→w.heap.size≤g∧g < wr.heap.size:=OwnL.lt HOV.out
   have hgp:(Value.slice Av nv cv).ownBlock=some gp ∨ gp=U3.heap.size:=by
    rcases HM7.out with h | h
    ·exact .inl (h.symm.trans rfl)
    ·exact .inr (by cases h;rfl)
   have hgc:gp ≠ c:=by
    rcases hgp with h | h
    ·rintro rfl;exact HVC.out h
    ·omega
   have hs7:Sets (fun g=>(Value.slice Av nv cv).ownBlock=some g) U3 w7:=⟨HG7.out.os,HG7.out.tape,HG7.out.output,HG7.out.size,fun g hg hn=>HG7.out.block g hg (fun e=>hn e.symm)⟩
   have hs8:=sets1 w7 c 0 (.slice (some ⟨gp,off7,none⟩) (a.ps.length+1) c7)
   have hb8:=clu_put0 HBX7.out (.slice (some ⟨gp,off7,none⟩) (a.ps.length+1) c7)
   obtain ⟨w8,hw8⟩:∃ w8,w7.setCell ⟨c,0,none⟩ (.slice (some ⟨gp,off7,none⟩) (a.ps.length+1) c7)=w8:=⟨_,rfl⟩
   rw [hw8] at hs8 hb8 ⊢
   clear hw8 k0 z0
   have s8:=hs8.size
   have hS38:Sets (fun g=>g=c ∨ (Value.slice Av nv cv).ownBlock=some g) U3 w8:=(hs7.up (T:=fun g=>g=c ∨ (Value.slice Av nv cv).ownBlock=some g) (fun g e=>.inr e)).trans hs8 (fun g _ e=>.inl e)
   have hSr8:Sets (fun g=>g=c ∨ (Value.slice Av nv cv).ownBlock=some g) wr w8:=(Sets.of HGA.out).trans hS38 (fun g _ e=>e)
   have hfar:∀ g,wr.heap.size≤g→¬ (g=c ∨ (Value.slice Av nv cv).ownBlock=some g):=fun g hg e=>by
    rcases e with e | e
    ·omega
    ·have:=hown g e;omega
   have HB8:=hide (Sets.below HB.out hSr8 (fun g e=>by
    rcases e with e | e
    ·have:=HCS.out;omega
    ·exact (hown g e).1) HB.out.size)
   have HD8:=hide (((HD.out.below HA2.out).below HA3.out).sets hS38 (fun g hg=>hfar g (by obtain ⟨h1,_⟩:=hg;omega)))
   have hp3:=(HA3.out.block p hpl).trans HZP.out
   have HP8:=hide ((hS38.block p (by omega) (hfar p (by omega))).trans hp3)
   have HE8:=hide (HE.out.below HB8.out (by have:=HB2.out;omega))
   have HPC:=hide ((World.cell?_of_block (hs8.block gp hgl hgc)).trans (hcl7 k (by rw [List.length_append];have:=HF.out.clu.len;have:=HF.out.len;simp only [List.length_singleton];omega) 0 (ptv p) (by
    have h1:(a.ps ++ [p])[k]? = some p:=by
     have:=HF.out.clu.len;have:=HF.out.len
     rw [List.getElem?_append_right (by omega),show k - a.ps.length=0 by omega]
     rfl
    obtain ⟨h2,h3⟩:=List.getElem?_eq_some_iff.1 h1
    rw [h3]
    rfl)))
   have HB8X:=hide hb8
   have HS8:=hide hSr8
   have HFAR:=hide hfar
   have HO8:=hide (OwnL.sets HO7.out hs8 (fun g hg e=>by
    have:gp=g:=by cases hg;rfl
    omega))
   have HGP:=hide hgp
   have HPL:=hide hpl
   have HW8:Hid (U3.heap.size≤w8.heap.size∧gp < w8.heap.size∧u1p.heap.size=p∧p < u2.heap.size∧u2.heap.size≤U3.heap.size∧wr.heap.size≤p):=hide ⟨by omega,by omega,hpe,hpl,by omega,by omega⟩
   have hkn:k < a.ps.length+1:=by have:=HF.out.clu.len;have:=HF.out.len;omega
   have HOP:=hide (copen_any (i:=k) (grace:=a.grace) (cell_of_row w8 c 0 _ _ _ HB8X.out) (by omega) hkn (by have:=HPC.out;rwa [Nat.mul_one,Nat.add_zero] at this) (cell_of_row w8 c 1 _ _ _ HB8X.out) HP8.out HD8.out HE8.out HB2.out HQ.out.1 (by have:=HLT.out;have:=HN7.out;omega) (by rw [HF.out.gr];exact HGR.out.1) (by rw [HF.out.gr];exact HGR.out.2) (fun e=>by obtain ⟨h1,h2⟩:=e;omega))
   rw [HF.out.gr] at HOP
   clear hb8 hSr8 hS38 hfar hs8 hs7 hp3 hgp hown hcl7 hgl hgc hkn sUD sU1 sA2 sA3 sG7 hpe hcl hsD s8 hpl
   go_wp2_with ((with_reducible refine (HOP.out).mono ?_);rintro e w9 ⟨rfl,no,ko,zl,zm,zc,X9,hn3,hno,hX9,hkl,hck,hp9,hs9⟩;have HN3:=hide hn3;have HNO:=hide hno;have HX9:=hide hX9;have HKL:=hide hkl;have HCK:=hide hck;have HP9:=hide hp9;have HS9:=hide hs9;clear hn3 hno hX9 hkl hck hp9 hs9)
   obtain ⟨w81,w82,w83,w84,w85,w86⟩:=HW8.out
   have hkl:=HKL.out
   have hcl:=HCL.out
   have sUD:=HUD.out.size
   have h9box:w9.heap[c]? = w8.heap[c]?:=HS9.out.block c (by have:=HS8.out.size;omega) (fun e=>by omega)
   have hsr9:Sets (fun g=>g=c ∨ a.vp.ownBlock=some g) wr w9:=HS8.out.trans HS9.out (fun g hg e=>by omega) |>.up (fun g e=>by rw [HVA.out];exact e)
   have ho9:=OwnL.sets HO8.out HS9.out (fun g hg e=>by
    have hgg:gp=g:=by cases hg;rfl
    rcases HGP.out with h | h
    ·have:=OwnL.lt HOV.out gp h;omega
    ·omega)
   rw [List.length_append,List.length_singleton] at ho9
   obtain ⟨col',a',hfr⟩:=fresh_step HF.out hsr9 (h9box.trans HB8X.out) ho9 (fun g hg=>by
    have hgg:gp=g:=by cases hg;rfl
    rw [HVA.out,← hgg]
    rcases HGP.out with h | h
    ·exact .inl h
    ·exact .inr (by omega)) HP9.out (by omega) HN3.out HNO.out (fun g hg=>by have:=HX9.out g hg;have:=HS8.out.size;omega) HCK.out (by have:=HS8.out.size;omega)
    (fun h=>by have:=HX9.out p h;omega) (fun h=>by have:=HX9.out ko h;omega) (by omega) (fun g hg hgl=>by
     have hgg:gp=g:=by cases hg;rfl
     have h5:gp=U3.heap.size:=by
      rcases HGP.out with h | h
      ·have:=OwnL.lt HOV.out gp h;omega
      ·exact h
     refine ⟨fun h=>?_,by omega,by omega⟩
     have:=HX9.out g h
     omega)
   have hlt:=HLT.out
   exact ⟨⟨k+1,col',a',by omega,by simp,hfr,Sets.below HB8.out HS9.out (fun g e=>by have:=HB.out.size;omega) HB8.out.size⟩,by simp only [intOf];omega⟩
  ·obtain rfl:k=n:=by omega
   have hkI:¬ (k:Int) < (k:Int):=by omega
   go_wp2_with fail
   go_returns
   exact ⟨c,rfl,⟨col,a,HF.out⟩,HB.out⟩
end Go.Proofs.YtgmkckjedngkdaaGreatDoor
