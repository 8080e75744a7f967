/- A part of the proof that TopMajorityLaw holds: XZAwl, XZAwm. Conditions: as typed. -/
import Derived.Test.YtgmkckjedngkdaaGreatDoorTm40
set_option linter.unusedVariables false
set_option linter.unusedSimpArgs false
namespace Go.Proofs.YtgmkckjedngkdaaGreatDoor
open Go.ChangeShapes Go.WideShapes Go.ChangeAt Go.RowKit
def x0:It:=⟨1,2,2,8,3⟩
def pP (j:Int):Mg:=⟨1,0,j,1,0,none,0,[x0]⟩
def pD (j:Int):Mg:=⟨2,j,0,1,0,none,0,[]⟩
def pA (j:Int):Mg:=⟨4,2,j,2,1,none,0,[]⟩
def pG (j:Int):Mg:=⟨5,j,2,2,0,none,0,[x0]⟩
theorem x0_wf:∀ x ∈ [x0],x.wf:=by
 intro x hx
 rw [List.mem_singleton] at hx
 subst hx
 unfold It.wf x0
 decide
theorem x0_join:joinL [] [x0]=[x0]:=by
 rw [joinL_nil]
 rfl
theorem x0_again:joinL [x0] [x0]=[x0]:=by
 have h:IsState [x0]:=by rw [← x0_join];exact joinL_state _ _
 rw [joinL_of h]
 rfl
theorem x0_allow:allowB 0 [x0]=true:=by rfl
theorem pP_ok {i:Nat} (hi:i < 3):mokB (pP i)=true:=by
 match i,hi with
 | 0,_=>decide
 | 1,_=>decide
 | 2,_=>decide
theorem pD_ok {i:Nat} (hi:i < 3):mokB (pD i)=true:=by
 match i,hi with
 | 0,_=>decide
 | 1,_=>decide
 | 2,_=>decide
theorem pA_ok {i:Nat} (hi:i < 3):mokB (pA i)=true:=by
 match i,hi with
 | 0,_=>decide
 | 1,_=>decide
 | 2,_=>decide
theorem pG_ok {i:Nat} (hi:i < 3):mokB (pG i)=true:=by
 match i,hi with
 | 0,_=>decide
 | 1,_=>decide
 | 2,_=>decide
section
variable {W:World} {base n:Nat} {X:Nat→Prop} {N:Nr} {x:Mg} {i:Nat}
theorem hw_put (hi:i < 3) (hx:x.bare=pP i) (hr:x.rd W) (hf:∀ ad,x.A=some ad→x.L ≠ []→¬ X ad.block) (H:NodeO W base n X N) (hid:N.id=(i:Int)) (hN:NdR N.R []) :
 Calls Tryz.prog 9 #[ptv n,x.val] W (HanP W base n X N (fun r R'=>r=[pD i]∧NdR R' [x0])):=by
 obtain ⟨xk,xf,xt,xi,xn,xA,xc,xL⟩:=x
 unfold Mg.bare pP at hx
 injection hx with e1 e2 e3 e4 e5 e6 e7 e8
 simp only at e1 e2 e3 e4 e5 e6 e7 e8
 subst e1 e2 e3 e4 e5 e8
 have hj:joinL N.R.S [x0]=[x0]:=by rw [hN.S];exact x0_join
 have hz:∀ z ∈ N.R.K.Z,z.L.length≤1000:=fun z hz=>by have:=hN.z z hz;simpa using this
 have hbt:=batchT_len [x0]
 have hZ:∃ zl rst,N.R.K.Z=zl :: rst:=by
  obtain ⟨s,Y,H⟩:=H
  obtain ⟨h,Hs⟩:=H.st
  obtain ⟨_,_,_,_,zl,zm,zc,hZ⟩:=Hs.files
  exact ⟨zl,_,hZ⟩
 refine (nhandle_put H _ hr (pP_ok hi) hid.symm hf rfl x0_wf (fun _=>Nat.le_refl 1) (show 1≤1000 by decide) 1000 hz (by omega) (by have:=hN.mf;simp only [List.length_nil,List.length_singleton] at this ⊢;omega)).mono ?_
 rintro e w' h
 refine h.imp ?_
 rintro r R' (⟨h1,_⟩ | ⟨_,B,h2,h3⟩)
 ·exfalso
  have h1':allowB N.R.v.fl [x0]=false:=h1
  rw [hN.fl,x0_allow] at h1'
  cases h1'
 ·have h2':LastTo N.R [x0] 1000 B R':=h2
  have hne:joinL N.R.S [x0] ≠ N.R.S:=by rw [hj,hN.S];simp
  rcases h2' with ⟨h4,_⟩ | ⟨_,rfl,R1,K',h5,h6,rfl⟩ | ⟨_,rfl,ee,h4,h5⟩
  ·exact absurd h4 hne
  ·rcases h5.2 with ⟨h7,_⟩ | ⟨_,a1,a2,a3,a4,a5,l0,rs,a6,a7⟩
   ·exact absurd rfl h7
   ·refine ⟨by rw [h3,hid];rfl,?_⟩
    have hzz:∀ l ∈ (l0 ++ batchT [x0]) :: rs,l.length≤2000:=fun l hl=>by
     have hold:∀ l ∈ l0 :: rs,l.length≤1000:=fun l hl=>by
      rw [← a6] at hl
      obtain ⟨z,hz1,rfl⟩:=List.mem_map.1 hl
      exact hz z hz1
     rcases List.mem_cons.1 hl with rfl | hl
     ·have:=hold l0 List.mem_cons_self
      rw [List.length_append]
      simp only [List.length_singleton] at hbt
      omega
     ·have:=hold l (List.mem_cons_of_mem _ hl)
      omega
    exact {
     S:=by show R1.S=_;rw [a1];exact hj
     fl:=by show R1.v.fl=0;rw [a2];exact hN.fl
     ce:=by show R1.v.ce=0;rw [a2];exact hN.ce
     q:=by show K'.q=_;rw [h6.q,a5];exact hN.q
     z:=fun z hz1=>by
      have h8:z.L ∈ K'.Z.map Fz.L:=List.mem_map.2 ⟨z,hz1,rfl⟩
      rw [h6.L,a7] at h8
      have:=hzz _ h8
      simpa using this
     mf:=by
      show R1.mf≤_
      rw [a4]
      have:=hN.mf
      simp only [List.length_nil,List.length_singleton] at this ⊢
      omega }
  ·exfalso
   rcases h5.2 with ⟨_,_,_,_,_,_,h6⟩ | ⟨h6,_⟩
   ·rw [hj] at h6
    simp only [List.length_singleton] at h6 hbt
    rcases h6 with h6 | h6 | h6
    ·omega
    ·obtain ⟨z,rst,hzz⟩:=hZ
     have h7:=h6 z (by rw [hzz];rfl)
     have:=hz z (by rw [hzz];exact List.mem_cons_self)
     omega
    ·rw [hN.q] at h6
     omega
   ·exact h4 h6
theorem hw_done (hi:i < 3) (hx:x.bare=pD i) (hr:x.rd W) (H:NodeO W base n X N) (hid:N.id=0) (L:List It) (hN:NdR N.R L) :
 Calls Tryz.prog 9 #[ptv n,x.val] W (HanP W base n X N (fun r R'=>r=[]∧NdR R' L)):=by
 obtain ⟨xk,xf,xt,xi,xn,xA,xc,xL⟩:=x
 unfold Mg.bare pD at hx
 injection hx with e1 e2 e3 e4 e5 e6 e7 e8
 simp only at e1 e2 e3 e4 e5 e6 e7 e8
 subst e1 e2 e3 e4 e5 e8
 refine (nhandle_nil2 H _ hr (pD_ok hi) hid.symm rfl).mono ?_
 rintro e w' h
 refine h.imp ?_
 rintro r R' ⟨rfl,rfl⟩
 exact ⟨rfl,hN⟩
theorem hw_ask (hi:i < 3) (hx:x.bare=pA i) (hr:x.rd W) (H:NodeO W base n X N) (hid:N.id=(i:Int)) (hN:NdR N.R [x0]) :
 Calls Tryz.prog 9 #[ptv n,x.val] W (HanP W base n X N (fun r R'=>r=[pG i]∧NdR R' [x0])):=by
 obtain ⟨xk,xf,xt,xi,xn,xA,xc,xL⟩:=x
 unfold Mg.bare pA at hx
 injection hx with e1 e2 e3 e4 e5 e6 e7 e8
 simp only at e1 e2 e3 e4 e5 e6 e7 e8
 subst e1 e2 e3 e4 e5 e8
 refine (nhandle_ask H _ hr (pA_ok hi) hid.symm rfl ⟨(by decide:(0:Int)≤1),(by decide:(1:Int)≤255)⟩).mono ?_
 rintro e w' h
 refine h.imp ?_
 rintro r R' ⟨rfl,rfl⟩
 refine ⟨?_,hN⟩
 rw [hid,hN.ce,hN.S]
 rfl
theorem hw_got (hi:i < 3) (hx:x.bare=pG i) (hr:x.rd W) (H:NodeO W base n X N) (hid:N.id=2) (L:List It) (hN:NdR N.R L) :
 Calls Tryz.prog 9 #[ptv n,x.val] W (HanP W base n X N (fun r R'=>r=[]∧NdR R' L)):=by
 obtain ⟨xk,xf,xt,xi,xn,xA,xc,xL⟩:=x
 unfold Mg.bare pG at hx
 injection hx with e1 e2 e3 e4 e5 e6 e7 e8
 simp only at e1 e2 e3 e4 e5 e6 e7 e8
 subst e1 e2 e3 e4 e5 e8
 refine (nhandle_nil5 H _ hr (pG_ok hi) hid.symm rfl).mono ?_
 rintro e w' h
 refine h.imp ?_
 rintro r R' ⟨rfl,rfl⟩
 exact ⟨rfl,hN⟩
end
end Go.Proofs.YtgmkckjedngkdaaGreatDoor
namespace Go.Proofs.YtgmkckjedngkdaaGreatDoor
open Go.ChangeShapes Go.WideShapes Go.ChangeAt Go.RowKit
def R0:Co:=co0 3 0 1 1 1 2 3 8
noncomputable def R1:Co:=conR R0 (pD 0)
noncomputable def R2:Co:=conR R1 (pD 1)
theorem r0_P:conR R0 (pP 0)=R0:=by rfl
theorem r1_eq:R1=countC R0 0:=by rfl
theorem r2_eq:R2=end1C (countC (countC R0 0) 1) 0 8 (itemsC [] 1):=by rfl
theorem r2_AL:R2.AL=[]:=by rw [r2_eq];rfl
def Q0:Co:=co0 3 2 2 3 1 0 0 0
noncomputable def Q1:Co:=conR Q0 (pG 0)
noncomputable def Q2:Co:=conR Q1 (pG 1)
theorem q0_A:conR Q0 (pA 2)=Q0:=by rfl
theorem q1_eq:Q1=countC (gotC Q0 (pG 0)) 0:=by rfl
theorem q2_eq:Q2=end1C (countC (gotC (countC (gotC Q0 (pG 0)) 0) (pG 1)) 1) 0 0 (itemsC [⟨0,none,0,[x0]⟩,⟨0,none,0,[x0]⟩] 1):=by rfl
theorem q2_AL:Q2.AL=[x0]:=by
 rw [q2_eq]
 show itemsC [⟨0,none,0,[x0]⟩,⟨0,none,0,[x0]⟩] 1=[x0]
 unfold itemsC
 have h:joinG (certG [⟨0,none,0,[x0]⟩,⟨0,none,0,[x0]⟩]) [⟨0,none,0,[x0]⟩,⟨0,none,0,[x0]⟩]=joinL (joinL [] [x0]) [x0]:=rfl
 rw [h,x0_join,x0_again]
 rfl
theorem ck0:CoK R0∧SmallC R0:=⟨⟨by decide,by decide,by decide,by decide,fun _=>rfl,by decide⟩,⟨by decide,fun g hg=>by cases hg⟩⟩
theorem ck1:CoK R1∧SmallC R1:=by
 rw [r1_eq]
 exact ⟨⟨by decide,by decide,by decide,by decide,fun _=>rfl,by decide⟩,⟨by decide,fun g hg=>by cases hg⟩⟩
theorem qk0:CoK Q0∧SmallC Q0:=⟨⟨by decide,by decide,by decide,by decide,fun _=>rfl,by decide⟩,⟨by decide,fun g hg=>by cases hg⟩⟩
theorem qk1:CoK Q1∧SmallC Q1:=by
 rw [q1_eq]
 refine ⟨⟨by decide,by decide,by decide,by decide,fun _=>rfl,by decide⟩,⟨by decide,fun g hg=>?_⟩⟩
 have h:g ∈ [(⟨0,none,0,[x0]⟩:Gt)]:=hg
 rw [List.mem_singleton] at h
 subst h
 decide
def C1 (k:Nat):List Mg:=match k with
 | 0=>[pP 0,pP 1,pP 2]
 | 1=>[pP 1,pP 2,pD 0]
 | 2=>[pP 2,pD 0,pD 1]
 | 3=>[pD 0,pD 1,pD 2]
 | 4=>[pD 1,pD 2]
 | 5=>[pD 2]
 | _=>[]
def S1 (k i:Nat):List It:=if i < k then [x0] else []
noncomputable def j1 (k i:Nat):Option Co:=match i with
 | 0=>if k < 4 then some R0 else if k=4 then some R1 else none
 | _=>none
def A1 (k:Nat):List (List It):=if k < 5 then [] else [[]]
def C2 (k:Nat):List Mg:=match k with
 | 0=>[pA 0,pA 1,pA 2]
 | 1=>[pA 1,pA 2,pG 0]
 | 2=>[pA 2,pG 0,pG 1]
 | 3=>[pG 0,pG 1,pG 2]
 | 4=>[pG 1,pG 2]
 | 5=>[pG 2]
 | _=>[]
noncomputable def j2 (k i:Nat):Option Co:=match i with
 | 2=>if k < 4 then some Q0 else if k=4 then some Q1 else none
 | _=>none
def A2 (k:Nat):List (List It):=if k < 5 then [[]] else [[],[x0]]
noncomputable def I1 (k:Nat) (a:Cl):Prop:=AwI a (C1 k) (S1 k) (j1 k) (A1 k)∧a.se≤20+k∧a.ids=1
noncomputable def I2 (k:Nat) (a:Cl):Prop:=AwI a (C2 k) (S1 3) (j2 k) (A2 k)∧a.se≤50+k
section
variable {w:World} {base:Bs} {c:Nat} {col:Nat→Nat} {a:Cl}
theorem aw_next {I':Cl→Prop} {m0:Mg} {rest:List Mg} {S S':Nat→List It} {j j':Nat→Option Co} {AL AL':List (List It)} (H:CluV w base c col a) (I:AwI a (m0 :: rest) S j AL) (i:Nat) (hi:i < 3) (ht:m0.t=i) (rep:List Mg) (L':List It)
 (hH:∀ (W:World) (k:Nat→Nat) (x:Mg) (n:Nat) (N:Nr),x.bare=m0→x.rd W→(∀ ad,x.A=some ad→x.L ≠ []→k ad.block=0)→NodeO W base n (fun g=>k g=11+5 * i) N→N.id=(i:Int)→NdR N.R (S i)→Calls Tryz.prog 9 #[ptv n,x.val] W (HanP W base n (fun g=>k g=11+5 * i) N (fun r R'=>r=rep∧NdR R' L')))
 (hrep:(∀ r ∈ rep,mokB r=true)∧rep.length≤1) (hrl:rest.length≤200) (hse:a.se≤900) (hwf:∀ x ∈ m0.L,x.wf) (hn0:0≤m0.n) (hj:∀ R,j i=some R→CoK R∧SmallC R∧(conR R m0).AL.length≤1099511627776) (hal:AL.length≤100)
 (hS:∀ q,q < 3→upN S i L' q=S' q) (hjj:∀ q,q < 3→upN j i (jobS (j i) m0) q=j' q) (hA:alS (j i) m0 AL=AL') (hI:∀ a',AwI a' (rest ++ rep) S' j' AL'→a'.se≤a.se+1→a'.ids=a.ids→I' a') :
 Calls Tryz.prog 52 #[ptv c,.int .i64 0] w fun e w'=>e=.returned (.bool true)∧∃ col' a',CluV w' base c col' a'∧I' a'∧Bek base w w':=by
 refine (aw_step H I i hi ht rep L' hH hrep hrl hse hwf hn0 hj hal).mono ?_
 rintro e w' ⟨h1,col',a',h2,⟨h3,h4,h6⟩,h5⟩
 exact ⟨h1,col',a',h2,hI a' (h3.to hS hjj hA) h4 h6,h5⟩
theorem far_x {k:Nat→Nat} {x:Mg} {i:Nat} (h:∀ ad,x.A=some ad→x.L ≠ []→k ad.block=0):∀ ad,x.A=some ad→x.L ≠ []→¬ (fun g=>k g=11+5 * i) ad.block:=fun ad h1 h2 h3=>by
 have:=h ad h1 h2
 have h4:k ad.block=11+5 * i:=h3
 omega
theorem jobS_go {R R':Co} {m:Mg} (h:conR R m=R') (hd:R'.dn=false):jobS (some R) m=some R':=by
 subst h
 show (if (conR R m).dn=true then none else some (conR R m))=_
 rw [hd,if_neg (by decide)]
theorem jobS_end {R R':Co} {m:Mg} (h:conR R m=R') (hd:R'.dn=true):jobS (some R) m=none:=by
 subst h
 show (if (conR R m).dn=true then none else some (conR R m))=_
 rw [hd,if_pos rfl]
theorem alS_go {R R':Co} {m:Mg} {AL:List (List It)} (h:conR R m=R') (hd:R'.dn=false):alS (some R) m AL=AL:=by
 subst h
 show (if (conR R m).dn=true then AL ++ [(conR R m).AL] else AL)=_
 rw [hd,if_neg (by decide)]
theorem alS_end {R R':Co} {m:Mg} {AL:List (List It)} (h:conR R m=R') (hd:R'.dn=true):alS (some R) m AL=AL ++ [R'.AL]:=by
 subst h
 show (if (conR R m).dn=true then AL ++ [(conR R m).AL] else AL)=_
 rw [hd,if_pos rfl]
theorem rep1 {m:Mg} (h:mokB m=true):(∀ r ∈ [m],mokB r=true)∧[m].length≤1:=⟨fun r hr=>by rw [List.mem_singleton] at hr;rw [hr];exact h,Nat.le_refl _⟩
theorem rep0:(∀ r ∈ ([]:List Mg),mokB r=true)∧([]:List Mg).length≤1:=⟨fun r hr=>(by cases hr),by decide⟩
theorem le0 {R:Co} {m:Mg} (h:(conR R m).AL=[]):(conR R m).AL.length≤1099511627776:=by rw [h];decide
set_option maxHeartbeats 800000 in
theorem i1_step (k:Nat) (hk:k < 6) (I:I1 k a) (H:CluV w base c col a):Calls Tryz.prog 52 #[ptv c,.int .i64 0] w fun e w'=>e=.returned (.bool true)∧∃ col' a',CluV w' base c col' a'∧I1 (k+1) a'∧Bek base w w':=by
 obtain ⟨h,hs,hids⟩:=I
 match k,hk with
 | 0,_ =>
  refine aw_next H h 0 (by decide) rfl [pD 0] [x0] (fun W k x n N h1 h2 h3 h4 h5 h6=>hw_put (i:=0) (by decide) h1 h2 (far_x h3) h4 h5 h6) (rep1 (pD_ok (i:=0) (by decide))) (by decide) (by omega) x0_wf (by decide)
   (fun R e=>by cases e;exact ⟨ck0.1,ck0.2,le0 (by rw [r0_P];rfl)⟩) (by decide) (fun q hq=>?_) (fun q hq=>?_) ?_ (fun a' h1 h2 h3=>⟨h1,by omega,by omega⟩)
  ·match q,hq with
   | 0,_=>rfl
   | 1,_=>rfl
   | 2,_=>rfl
  ·match q,hq with
   | 0,_=>exact jobS_go r0_P rfl
   | 1,_=>rfl
   | 2,_=>rfl
  ·exact alS_go r0_P rfl
 | 1,_ =>
  refine aw_next H h 1 (by decide) rfl [pD 1] [x0] (fun W k x n N h1 h2 h3 h4 h5 h6=>hw_put (i:=1) (by decide) h1 h2 (far_x h3) h4 h5 h6) (rep1 (pD_ok (i:=1) (by decide))) (by decide) (by omega) x0_wf (by decide)
   (fun R e=>by cases e) (by decide) (fun q hq=>?_) (fun q hq=>?_) rfl (fun a' h1 h2 h3=>⟨h1,by omega,by omega⟩)
  ·match q,hq with
   | 0,_=>rfl
   | 1,_=>rfl
   | 2,_=>rfl
  ·match q,hq with
   | 0,_=>rfl
   | 1,_=>rfl
   | 2,_=>rfl
 | 2,_ =>
  refine aw_next H h 2 (by decide) rfl [pD 2] [x0] (fun W k x n N h1 h2 h3 h4 h5 h6=>hw_put (i:=2) (by decide) h1 h2 (far_x h3) h4 h5 h6) (rep1 (pD_ok (i:=2) (by decide))) (by decide) (by omega) x0_wf (by decide)
   (fun R e=>by cases e) (by decide) (fun q hq=>?_) (fun q hq=>?_) rfl (fun a' h1 h2 h3=>⟨h1,by omega,by omega⟩)
  ·match q,hq with
   | 0,_=>rfl
   | 1,_=>rfl
   | 2,_=>rfl
  ·match q,hq with
   | 0,_=>rfl
   | 1,_=>rfl
   | 2,_=>rfl
 | 3,_ =>
  refine aw_next H h 0 (by decide) rfl [] [x0] (fun W k x n N h1 h2 h3 h4 h5 h6=>hw_done (i:=0) (by decide) h1 h2 h4 h5 [x0] h6) rep0 (by decide) (by omega) (fun x hx=>by cases hx) (by decide)
   (fun R e=>by cases e;exact ⟨ck0.1,ck0.2,le0 (by show R1.AL=[];rw [r1_eq];rfl)⟩) (by decide) (fun q hq=>?_) (fun q hq=>?_) ?_ (fun a' h1 h2 h3=>⟨h1,by omega,by omega⟩)
  ·match q,hq with
   | 0,_=>rfl
   | 1,_=>rfl
   | 2,_=>rfl
  ·match q,hq with
   | 0,_=>exact jobS_go (R':=R1) rfl (by rw [r1_eq];rfl)
   | 1,_=>rfl
   | 2,_=>rfl
  ·exact alS_go (R':=R1) rfl (by rw [r1_eq];rfl)
 | 4,_ =>
  refine aw_next H h 0 (by decide) rfl [] [x0] (fun W k x n N h1 h2 h3 h4 h5 h6=>hw_done (i:=1) (by decide) h1 h2 h4 h5 [x0] h6) rep0 (by decide) (by omega) (fun x hx=>by cases hx) (by decide)
   (fun R e=>by cases e;exact ⟨ck1.1,ck1.2,le0 (show R2.AL=[] from r2_AL)⟩) (by decide) (fun q hq=>?_) (fun q hq=>?_) ?_ (fun a' h1 h2 h3=>⟨h1,by omega,by omega⟩)
  ·match q,hq with
   | 0,_=>rfl
   | 1,_=>rfl
   | 2,_=>rfl
  ·match q,hq with
   | 0,_=>exact jobS_end (R':=R2) rfl (by rw [r2_eq];rfl)
   | 1,_=>rfl
   | 2,_=>rfl
  ·refine (alS_end (R':=R2) rfl (by rw [r2_eq];rfl)).trans ?_
   rw [r2_AL];rfl
 | 5,_ =>
  refine aw_next H h 0 (by decide) rfl [] [x0] (fun W k x n N h1 h2 h3 h4 h5 h6=>hw_done (i:=2) (by decide) h1 h2 h4 h5 [x0] h6) rep0 (by decide) (by omega) (fun x hx=>by cases hx) (by decide)
   (fun R e=>by cases e) (by decide) (fun q hq=>?_) (fun q hq=>?_) rfl (fun a' h1 h2 h3=>⟨h1,by omega,by omega⟩)
  ·match q,hq with
   | 0,_=>rfl
   | 1,_=>rfl
   | 2,_=>rfl
  ·match q,hq with
   | 0,_=>rfl
   | 1,_=>rfl
   | 2,_=>rfl
set_option maxHeartbeats 800000 in
theorem i2_step (k:Nat) (hk:k < 6) (I:I2 k a) (H:CluV w base c col a):Calls Tryz.prog 52 #[ptv c,.int .i64 0] w fun e w'=>e=.returned (.bool true)∧∃ col' a',CluV w' base c col' a'∧I2 (k+1) a'∧Bek base w w':=by
 obtain ⟨h,hs⟩:=I
 match k,hk with
 | 0,_ =>
  refine aw_next H h 0 (by decide) rfl [pG 0] [x0] (fun W k x n N h1 h2 h3 h4 h5 h6=>hw_ask (i:=0) (by decide) h1 h2 h4 h5 h6) (rep1 (pG_ok (i:=0) (by decide))) (by decide) (by omega) (fun x hx=>by cases hx) (by decide)
   (fun R e=>by cases e) (by decide) (fun q hq=>?_) (fun q hq=>?_) rfl (fun a' h1 h2 h3=>⟨h1,by omega⟩)
  ·match q,hq with
   | 0,_=>rfl
   | 1,_=>rfl
   | 2,_=>rfl
  ·match q,hq with
   | 0,_=>rfl
   | 1,_=>rfl
   | 2,_=>rfl
 | 1,_ =>
  refine aw_next H h 1 (by decide) rfl [pG 1] [x0] (fun W k x n N h1 h2 h3 h4 h5 h6=>hw_ask (i:=1) (by decide) h1 h2 h4 h5 h6) (rep1 (pG_ok (i:=1) (by decide))) (by decide) (by omega) (fun x hx=>by cases hx) (by decide)
   (fun R e=>by cases e) (by decide) (fun q hq=>?_) (fun q hq=>?_) rfl (fun a' h1 h2 h3=>⟨h1,by omega⟩)
  ·match q,hq with
   | 0,_=>rfl
   | 1,_=>rfl
   | 2,_=>rfl
  ·match q,hq with
   | 0,_=>rfl
   | 1,_=>rfl
   | 2,_=>rfl
 | 2,_ =>
  refine aw_next H h 2 (by decide) rfl [pG 2] [x0] (fun W k x n N h1 h2 h3 h4 h5 h6=>hw_ask (i:=2) (by decide) h1 h2 h4 h5 h6) (rep1 (pG_ok (i:=2) (by decide))) (by decide) (by omega) (fun x hx=>by cases hx) (by decide)
   (fun R e=>by cases e;exact ⟨qk0.1,qk0.2,le0 (by rw [q0_A];rfl)⟩) (by decide) (fun q hq=>?_) (fun q hq=>?_) ?_ (fun a' h1 h2 h3=>⟨h1,by omega⟩)
  ·match q,hq with
   | 0,_=>rfl
   | 1,_=>rfl
   | 2,_=>rfl
  ·match q,hq with
   | 0,_=>rfl
   | 1,_=>rfl
   | 2,_=>exact jobS_go q0_A rfl
  ·exact alS_go q0_A rfl
 | 3,_ =>
  refine aw_next H h 2 (by decide) rfl [] [x0] (fun W k x n N h1 h2 h3 h4 h5 h6=>hw_got (i:=0) (by decide) h1 h2 h4 h5 [x0] h6) rep0 (by decide) (by omega) x0_wf (by decide)
   (fun R e=>by cases e;exact ⟨qk0.1,qk0.2,le0 (by show Q1.AL=[];rw [q1_eq];rfl)⟩) (by decide) (fun q hq=>?_) (fun q hq=>?_) ?_ (fun a' h1 h2 h3=>⟨h1,by omega⟩)
  ·match q,hq with
   | 0,_=>rfl
   | 1,_=>rfl
   | 2,_=>rfl
  ·match q,hq with
   | 0,_=>rfl
   | 1,_=>rfl
   | 2,_=>exact jobS_go (R':=Q1) rfl (by rw [q1_eq];rfl)
  ·exact alS_go (R':=Q1) rfl (by rw [q1_eq];rfl)
 | 4,_ =>
  refine aw_next H h 2 (by decide) rfl [] [x0] (fun W k x n N h1 h2 h3 h4 h5 h6=>hw_got (i:=1) (by decide) h1 h2 h4 h5 [x0] h6) rep0 (by decide) (by omega) x0_wf (by decide)
   (fun R e=>by cases e;exact ⟨qk1.1,qk1.2,by show Q2.AL.length≤_;rw [q2_AL];decide⟩) (by decide) (fun q hq=>?_) (fun q hq=>?_) ?_ (fun a' h1 h2 h3=>⟨h1,by omega⟩)
  ·match q,hq with
   | 0,_=>rfl
   | 1,_=>rfl
   | 2,_=>rfl
  ·match q,hq with
   | 0,_=>rfl
   | 1,_=>rfl
   | 2,_=>exact jobS_end (R':=Q2) rfl (by rw [q2_eq];rfl)
  ·refine (alS_end (R':=Q2) rfl (by rw [q2_eq];rfl)).trans ?_
   rw [q2_AL];rfl
 | 5,_ =>
  refine aw_next H h 2 (by decide) rfl [] [x0] (fun W k x n N h1 h2 h3 h4 h5 h6=>hw_got (i:=2) (by decide) h1 h2 h4 h5 [x0] h6) rep0 (by decide) (by omega) x0_wf (by decide)
   (fun R e=>by cases e) (by decide) (fun q hq=>?_) (fun q hq=>?_) rfl (fun a' h1 h2 h3=>⟨h1,by omega⟩)
  ·match q,hq with
   | 0,_=>rfl
   | 1,_=>rfl
   | 2,_=>rfl
  ·match q,hq with
   | 0,_=>rfl
   | 1,_=>rfl
   | 2,_=>rfl
theorem i_job {C:List Mg} {S:Nat→List It} {j:Nat→Option Co} {AL:List (List It)} (I:AwI a C S j AL) (hj:∀ q,q < 3→j q=none):∀ P ∈ a.P,P.job=none:=fun P hP=>by
 obtain ⟨i,hi,rfl⟩:=List.getElem_of_mem hP
 have h:=I.job i _ (List.getElem?_eq_getElem hi)
 rw [hj i (by rw [← I.pl];exact hi)] at h
 cases hq:(a.P[i]'hi).job with
 | none=>rfl
 | some x=>rw [hq] at h;cases h
theorem calm1 (H:CluV w base c col a) (I:I1 0 a):Calls Tryz.prog 20 #[ptv c,.int .i64 100] w fun e w'=>e=.returned (.bool true)∧∃ col' a',CluV w' base c col' a'∧I1 6 a'∧Bek base w w' :=
 calm_any H I1 I 6 100 (by decide) (by decide) (fun k a w col hk I H=>i1_step k hk I H) (fun k a hk I=>by
  rw [I.1.C]
  match k,hk with
  | 0,_=>decide
  | 1,_=>decide
  | 2,_=>decide
  | 3,_=>decide
  | 4,_=>decide
  | 5,_=>decide) (fun a I=>⟨I.1.C,i_job I.1 (fun q hq=>by
  match q,hq with
  | 0,_=>rfl
  | 1,_=>rfl
  | 2,_=>rfl),by rw [I.1.ps];decide⟩)
theorem calm2 (H:CluV w base c col a) (I:I2 0 a):Calls Tryz.prog 20 #[ptv c,.int .i64 100] w fun e w'=>e=.returned (.bool true)∧∃ col' a',CluV w' base c col' a'∧I2 6 a'∧Bek base w w' :=
 calm_any H I2 I 6 100 (by decide) (by decide) (fun k a w col hk I H=>i2_step k hk I H) (fun k a hk I=>by
  rw [I.1.C]
  match k,hk with
  | 0,_=>decide
  | 1,_=>decide
  | 2,_=>decide
  | 3,_=>decide
  | 4,_=>decide
  | 5,_=>decide) (fun a I=>⟨I.1.C,i_job I.1 (fun q hq=>by
  match q,hq with
  | 0,_=>rfl
  | 1,_=>rfl
  | 2,_=>rfl),by rw [I.1.ps];decide⟩)
end
end Go.Proofs.YtgmkckjedngkdaaGreatDoor
