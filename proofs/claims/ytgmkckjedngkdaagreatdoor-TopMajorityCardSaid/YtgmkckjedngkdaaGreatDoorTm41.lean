/- A part of the proof that TopMajorityLaw holds: XZDow. Conditions: as typed. -/
import Derived.Test.YtgmkckjedngkdaaGreatDoorTm39
set_option linter.unusedVariables false
set_option linter.unusedSimpArgs false
namespace Go.Proofs.YtgmkckjedngkdaaGreatDoor
open Go.ChangeShapes Go.WideShapes Go.ChangeAt Go.RowKit
theorem cup_down {w:World} {base:Bs} {c i p:Nat} {col:Nat→Nat} {a:Cl} {P:Pl} (H:CluV w base c col a) (hp:a.ps[i]? = some p) (hP:a.P[i]? = some P) (hu:P.up=false):Calls Tryz.prog 18 #[ptv c,.int .i64 i] w fun e w'=>e=.returned (.bool false)∧w'=w:=by
 obtain ⟨g,off,cp,hvp,hg,hc⟩:=H.at_ (Below.refl _ _) hp
 have hil:i < a.ps.length:=by
  rw [List.getElem?_eq_some_iff] at hp
  exact hp.1
 have c0:=H.cells.2.1
 rw [hvp] at c0
 have k1:=(four_cells (H.pd i p P hp hP hu).box).2.1
 have HI:=hide (cis_any H hp)
 have f0:(0:Int)≤(i:Int):=by omega
 have f1:(i:Int) < (a.ps.length:Int):=by omega
 clear H hp hvp hP hu
 go_enter Tryz.func18,Tryz.ntmps18
 go_wp2_with ((with_reducible refine (HI.out).mono ?_);rintro e w1 ⟨rfl,rfl⟩)
 go_ret
 exact ⟨rfl,rfl⟩
set_option maxRecDepth 100000 in
set_option maxHeartbeats 3200000 in
theorem cdel_down {w:World} {base:Bs} {c i p:Nat} {col:Nat→Nat} {a:Cl} {P:Pl} {m0:Mg} {rest:List Mg} (H:CluV w base c col a) (hp:a.ps[i]? = some p) (hP:a.P[i]? = some P) (hu:P.up=false) (hC:a.C=m0 :: rest) (ht:m0.t=i) :
 Calls Tryz.prog 52 #[ptv c,.int .i64 0] w fun e w'=>e=.returned (.bool true)∧∃ col',CluV w' base c col' { a with C:=rest }∧Bek base w w':=by
 have htk:Calls Tryz.prog 110 #[ptv a.nb,.int .i64 0] w fun e w'=>∃ (x:Mg),e=.returned (.tuple #[x.val,.bool true])∧x.bare=m0∧NetX w' a.nb a.rb (fun g=>col g=0) 300 rest 0 a.se∧Sets (NBlk a.nb a.rb) w w':=by
  have hN:=H.net
  rw [hC] at hN
  refine (take_x hN 0 (by simp)).mono ?_
  rintro e w' ⟨x,rfl,h1,h2,h3,h4,h5⟩
  exact ⟨x,rfl,h1,h3,h4⟩
 have c2:=H.cells.2.2.2.1
 have HTK:=hide htk
 have HH:=hide H
 have HP:=hide hp
 have HPP:=hide hP
 have HU_:=hide hu
 have HT0:=hide ht
 clear H hp hP hu hC ht htk
 go_enter Tryz.func52,Tryz.ntmps52
 go_wp2_with fail
 refine (Calls.mono HTK.out ?_);rintro e w1 ⟨x,rfl,hxb,hn1,hs1⟩
 have hxb0:x.bare=m0:=hxb
 have HH1:=hide (HH.out.netted hs1 (.inl rfl) (hn1.wide (fun g e=>.inl e)))
 have HB1:=hide (Sets.bek (Bek.refl base w) hs1 (fun g e=>(HH.out.ok g (by rw [HH.out.cn g e];omega)).1) HH.out.bl)
 obtain ⟨xk,xf,xt,xid,xn,xA,xc,xL⟩:=x
 obtain rfl:xt=i:=by
  have:=HT0.out
  rw [← hxb0] at this
  exact this
 have hz5:=heap_alloc_new w1 (.cells #[.int .i64 xk,.int .i64 xf,.int .i64 i,.int .u64 xid,.int .u64 xn,.slice xA xL.length xc] 33)
 have hb5:=below_alloc (Below.refl w1.heap.size w1) (.cells #[.int .i64 xk,.int .i64 xf,.int .i64 i,.int .u64 xid,.int .u64 xn,.slice xA xL.length xc] 33)
 obtain ⟨w2,hw2⟩:∃ w2,w1.alloc (.cells #[.int .i64 xk,.int .i64 xf,.int .i64 i,.int .u64 xid,.int .u64 xn,.slice xA xL.length xc] 33)=w2:=⟨_,rfl⟩
 rw [hw2] at hz5 hb5
 obtain ⟨g5,hg5⟩:∃ g,w1.heap.size=g:=⟨_,rfl⟩
 rw [hg5] at hz5
 have lg5:=(Array.getElem?_eq_some_iff.1 hz5).1
 have HH2:=hide (HH1.out.below hb5)
 have HB2:=hide (HB1.out.trans (HH1.out.bek hb5))
 have HZ5:=hide hz5
 have HW2:=hide hw2
 have HG5:=hide hg5
 have HU:=hide (cup_down HH2.out HP.out HPP.out HU_.out)
 clear hxb hxb0 hn1 hs1 hz5 hb5 hw2 hg5 c2 HTK
 obtain ⟨m0',m1',m2',m3',m4',m5'⟩:=six_cells HZ5.out
 go_upto_region 2 with fail
 rw [HW2.out,HG5.out]
 go_wp2_with ((with_reducible refine (HU.out).mono ?_);rintro e w3 ⟨rfl,rfl⟩)
 go_ret
 exact ⟨rfl,_,HH2.out,HB2.out⟩
end Go.Proofs.YtgmkckjedngkdaaGreatDoor
