/- A part of the proof that TopQuotaLaw holds: XPEq, XRAdd, XRSt, XROf, XRSt2, XRJx, XBits, XNest, XRFil, XMsg2. Conditions: as typed. -/
import Derived.Test.YtgmkckjedngkdaaGreatDoorTq01
import Derived.Test.YtgmkckjedngkdaaGreatDoorTq04
import Derived.Test.YtgmkckjedngkdaaGreatDoorTq07
import Derived.Test.YtgmkckjedngkdaaGreatDoorTq09
import Derived.Test.YtgmkckjedngkdaaGreatDoorTq10
import Derived.Test.YtgmkckjedngkdaaGreatDoorTq17
import Derived.IntWalk
set_option linter.unusedVariables false
set_option linter.unusedSimpArgs false
namespace Go.Proofs.YtgmkckjedngkdaaGreatDoor
open Go.ChangeShapes Go.WideShapes Go.ChangeAt Go.RowKit
set_option maxHeartbeats 1600000 in
theorem sequal_any (A B:Option Addr) (c d:Nat) (L M:List It) (w:World) (hL:ItemsAt w A L) (hM:ItemsAt w B M) (hn:L.length≤4611686018427387904) (hm:M.length≤4611686018427387904) :
   Calls Tryz.prog 159 #[.slice A L.length c,.slice B M.length d] w fun e w'=>e=.returned (.bool (eqL L M))∧Below w.heap.size w w':=by
 have HL:=hide hL
 have HM:=hide hM
 clear hL hM
 by_cases hlen:L.length=M.length
 case neg =>
   have HE:=hide (eqL_len hlen)
   have hb:((L.length:Int) == (M.length:Int))=false:=beq_eq_false_iff_ne.2 (by omega)
   have hb2:((L.length:Int) != (M.length:Int))=true:=by rw [bne_iff_ne];omega
   go_enter Tryz.func159,Tryz.ntmps159
   go_wp2_with fail
   go_ret
   exact ⟨by rw [HE.out];rfl,Below.refl _ _⟩
 have hb:((L.length:Int) == (M.length:Int))=true:=beq_iff_eq.2 (by omega)
 have hb2:((L.length:Int) != (M.length:Int))=false:=by simp [hlen]
 have HLen:=hide hlen
 have hle:M.length≤L.length:=by omega
 have hle2:L.length≤M.length:=by omega
 clear hlen
 go_enter Tryz.func159,Tryz.ntmps159
 go_wp2_with fail
 go_loopw [13] (fun i wr=>∃ k:Nat,i=.int .i64 k∧k≤L.length∧Below w.heap.size w wr∧L.take k=M.take k) (fun i _=>L.length - (intOf i).toNat)
 case atStart=>exact ⟨0,rfl,by omega,Below.refl _ _,rfl⟩
 case round =>
   obtain ⟨k,rfl,hk,hb,ht⟩:=hrel
   have HT:=hide ht
   clear ht
   by_cases hlt:k < L.length
   · obtain ⟨bl,off,rfl,hbb,y0,y1,y2,y3,y4⟩:=ItemsAt.item HL.out hb hlt
     obtain ⟨bl2,off2,rfl,hbb2,z0,z1,z2,z3,z4⟩:=ItemsAt.item HM.out hb (k:=k) (by omega)
     have hl2:k < M.length:=by omega
     have H1:=hide (take_ne hlt hl2)
     have H2:=hide (take_on hlt hl2 HT.out)
     generalize L[k]=y at *
     generalize M[k]=z at *
     have hq:=run_neq_item y z
     cases hyz:eqI y z
     all_goals
       rw [hyz] at hq
       go_wp2_with fail
       go_quiet (fail)
       go_wp2_with fail
     · go_ret
       exact ⟨by rw [H1.out hyz];rfl,below_drewN hb _⟩
     · go_roundw
       case rel=>exact ⟨k+1,by go_num,by omega,below_drewN hb _,H2.out hyz⟩
       case measure=>simp [intOf];omega
   · have HE:=hide (take_eq HLen.out (by omega) HT.out)
     go_wp2_with fail
     go_ret
     exact ⟨by rw [HE.out];rfl,hb⟩
theorem psame_any_ (A B:Option Addr) (c d:Nat) (L M:List It) (w:World) (hL:ItemsAt w A L) (hM:ItemsAt w B M) (hn:L.length≤4611686018427387904) (hm:M.length≤4611686018427387904) :
   Calls Tryz.prog 80 #[.slice A L.length c,.slice B M.length d] w fun e w'=>e=.returned (.bool (eqL L M))∧Below w.heap.size w w':=by
 have H:=hide (sequal_any A B c d L M w hL hM hn hm)
 clear hL hM
 go_enter Tryz.func80,Tryz.ntmps80
 go_wp2_with fail
 refine (Calls.mono H.out ?_);rintro e w1 ⟨rfl,hg1⟩
 go_wp2_with fail
 go_ret
 exact ⟨rfl,hg1⟩
end Go.Proofs.YtgmkckjedngkdaaGreatDoor
namespace Go.Proofs.YtgmkckjedngkdaaGreatDoor
open Go.ChangeShapes Go.WideShapes Go.ChangeAt Go.RowKit
def optApp (N:List It) (o:Option (List It)):Option (List It):=o.map (N ++ ·)
section
variable {x y:It} {L N:List It} {k:Nat} {p:Bool} {T:Option (List It)}
theorem rest_hid (hk:k < L.length) (h:optApp N (refRest x p (L.drop k))=T) (h1:hidesB L[k] x=true):T=none:=by
 rw [← h,List.drop_eq_getElem_cons hk]
 unfold refRest optApp
 rw [h1];rfl
theorem rest_same (hk:k < L.length) (h:optApp N (refRest x p (L.drop k))=T) (h1:hidesB L[k] x=false) (h2:sameB x L[k]=true) (h3:winsB x L[k]=true):optApp N (refRest x p (L.drop (k+1)))=T:=by
 rw [← h,List.drop_eq_getElem_cons hk]
 conv=>rhs;unfold refRest
 rw [h1,h2,h3];rfl
theorem rest_beaten (hk:k < L.length) (h:optApp N (refRest x p (L.drop k))=T) (h1:hidesB L[k] x=false) (h2:sameB x L[k]=true) (h3:winsB x L[k]=false):T=none:=by
 rw [← h,List.drop_eq_getElem_cons hk]
 unfold refRest optApp
 rw [h1,h2,h3];rfl
theorem rest_on (hk:k < L.length) (h:optApp N (refRest x p (L.drop k))=T) (h1:hidesB L[k] x=false) (h2:sameB x L[k]=false) :
   optApp (N ++ ((if !p && ltB x L[k] then [x] else []) ++ (if hidesB x L[k] then [] else [L[k]]))) (refRest x (p || ltB x L[k]) (L.drop (k+1)))=T:=by
 rw [← h,List.drop_eq_getElem_cons hk]
 conv=>rhs;unfold refRest
 rw [h1,h2]
 unfold optApp
 cases refRest x (p || ltB x L[k]) (L.drop (k+1)) <;> simp
theorem rest_end (hk:L.length≤k) (h:optApp N (refRest x p (L.drop k))=T):T=some (N ++ if p then [] else [x]):=by
 rw [← h,List.drop_of_length_le hk];rfl
end
theorem optApp_nil (o:Option (List It)):optApp [] o=o:=by unfold optApp;cases o <;> simp
end Go.Proofs.YtgmkckjedngkdaaGreatDoor
namespace Go.Proofs.YtgmkckjedngkdaaGreatDoor
open Go.ChangeShapes Go.WideShapes Go.ChangeAt Go.RowKit
open Classical in
noncomputable def risB (L:List It):Bool:=decide ((∀ x ∈ L,It.good x)∧Rising L)
theorem ris_iff {L:List It}:risB L=true ↔ (∀ x ∈ L,It.good x)∧Rising L:=by
 unfold risB
 simp
theorem ris_snoc {L:List It} {k:Nat} (hk:k < L.length):risB (L.take (k+1))=true ↔ risB (L.take k)=true∧It.good L[k]∧∀ h:0 < k,It.lt (L[k - 1]'(by omega)) L[k]:=by
 rw [ris_iff,ris_iff,List.take_succ_eq_append_getElem hk]
 constructor
 · rintro ⟨hg,hr⟩
   have hr':=List.pairwise_append.1 hr
   refine ⟨⟨fun x hx=>hg x (List.mem_append_left _ hx),hr'.1⟩,hg _ (List.mem_append_right _ (List.mem_singleton.2 rfl)),fun h0=>?_⟩
   refine hr'.2.2 _ ?_ _ (by simp)
   exact List.mem_take_iff_getElem.2 ⟨k - 1,by omega,rfl⟩
 · rintro ⟨⟨hg,hr⟩,hx,hlt⟩
   refine ⟨fun x hx'=>?_,List.pairwise_append.2 ⟨hr,by simp,fun a ha b hb=>?_⟩⟩
   · rcases List.mem_append.1 hx' with h | h
     · exact hg x h
     · rw [List.mem_singleton] at h;subst h;exact hx
   · rw [List.mem_singleton] at hb;subst hb
     obtain ⟨j,hj,rfl⟩:=List.getElem_of_mem ha
     have hj':j < k:=by simp at hj;omega
     have h0:=hlt (by omega)
     rw [List.getElem_take]
     by_cases e:j=k - 1
     · subst e;exact h0
     · have h2:=rising_get hr (i:=j) (j:=k - 1) (by omega) (by simp;omega)
       rw [List.getElem_take,List.getElem_take] at h2
       unfold It.lt at *;omega
theorem ris_take {L:List It} (k:Nat) (h:risB L=true):risB (L.take k)=true:=by
 rw [ris_iff] at *
 exact ⟨fun x hx=>h.1 x (List.mem_of_mem_take hx),List.Pairwise.sublist (List.take_sublist k L) h.2⟩
theorem ris_no {L:List It} {k:Nat} (h:¬ risB (L.take k)=true):risB L=false:=by
 cases e:risB L
 · rfl
 · exact absurd (ris_take k e) h
theorem ris_bad {L:List It} {k:Nat} (hk:k < L.length) (h:goodB L[k]=false):risB L=false:=ris_no (k:=k+1) fun e=>by
 have:=((ris_snoc hk).1 e).2.1
 rw [goodB_true this] at h;cases h
theorem ris_drop {L:List It} {k:Nat} (hk:k < L.length) (h0:0 < k) (h:ltB (L[k - 1]'(by omega)) L[k]=false):risB L=false:=ris_no (k:=k+1) fun e=>by
 have:=((ris_snoc hk).1 e).2.2 h0
 rw [ltB_true this] at h;cases h
theorem ris_on0 {L:List It} (hk:0 < L.length) (h:goodB L[0]=true):risB (L.take 1)=true:=by
 rw [ris_snoc hk]
 exact ⟨by simp [ris_iff,Rising],by simpa [goodB] using h,fun h=>absurd h (by omega)⟩
theorem ris_on' {L:List It} {k:Nat} (hk:k < L.length) (h0:¬ 0 < k) (h:goodB L[k]=true):risB (L.take (k+1))=true:=by
 obtain rfl:k=0:=by omega
 exact ris_on0 hk h
theorem ris_on {L:List It} {k:Nat} (hk:k < L.length) (h0:0 < k) (hr:risB (L.take k)=true) (h:goodB L[k]=true) (hl:ltB (L[k - 1]'(by omega)) L[k]=true):risB (L.take (k+1))=true:=by
 rw [ris_snoc hk]
 exact ⟨hr,by simpa only [goodB,decide_eq_true_eq] using h,fun _=>by simpa only [ltB,decide_eq_true_eq] using hl⟩
set_option maxHeartbeats 3200000 in
set_option maxRecDepth 100000 in
theorem rrises_any (A:Option Addr) (c:Nat) (L:List It) (w:World) (hL:ItemsAt w A L) (hn:L.length≤4611686018427387904) :
   Calls Tryz.prog 91 #[.slice A L.length c] w fun e w'=>e=.returned (.bool (risB L))∧Below w.heap.size w w':=by
 have HL:=hide hL
 clear hL
 go_enter Tryz.func91,Tryz.ntmps91
 go_wp2_with fail
 go_loopw [3] (fun i wr=>∃ k:Nat,i=.int .i64 k∧k≤L.length∧Below w.heap.size w wr∧risB (L.take k)=true) (fun i _=>L.length - (intOf i).toNat)
 case atStart=>exact ⟨0,rfl,by omega,Below.refl _ _,by simp [ris_iff,Rising]⟩
 case round =>
   obtain ⟨k,rfl,hk,hb,hr⟩:=hrel
   have HR:=hide hr
   have HB:=hide hb
   clear hr hb
   by_cases hlt:k < L.length
   · obtain ⟨bl,off,rfl,hbb,y0,y1,y2,y3,y4⟩:=ItemsAt.item HL.out HB.out hlt
     have hbl:bl < wr.heap.size:=Nat.lt_of_lt_of_le hbb HB.out.size
     have hnc:=near_cells wr
     have H1:=hide (ris_bad hlt)
     by_cases h0:0 < k
     · obtain ⟨bl',off',hA,hbb',z0,z1,z2,z3,z4⟩:=ItemsAt.item HL.out HB.out (k:=k - 1) (by omega)
       injection hA with hA
       injection hA with hA1 hA2
       subst hA1 hA2
       have b0:decide ((0:Int) < (k:Int))=true:=decide_eq_true (by omega)
       have e1:IntKind.i64.wrap ((k:Int) - 1)=(k:Int) - 1:=IntWalk.i64_in _ (by omega)
       have e2:((k:Int) - 1).toNat=k - 1:=by omega
       have e3:(0:Int)≤(k:Int) - 1:=by omega
       have e4:(k:Int) - 1 < (L.length:Int):=by omega
       have H2:=hide (ris_drop hlt h0)
       have H3:=hide (ris_on hlt h0 HR.out)
       generalize L[k]=y at *
       generalize L[k - 1]=z at *
       cases hg:goodB y
       · go_wp2_with fail
         refine wp_region_near (by kernel_rfl) (by kernel_rfl) ?_
         repeat (go_big_quiet_step ((go_at_call 38;exact near_of (rgood_any y _))))
         refine wpQuiet_nil ?_
         intro _ hw'
         obtain ⟨s1,rfl⟩:=hw'
         go_wp2_with fail
         go_ret
         exact ⟨by rw [H1.out hg];rfl,below_step HB.out s1.is⟩
       · cases hl:ltB z y
         all_goals
           go_wp2_with fail
           refine wp_region_near (by kernel_rfl) (by kernel_rfl) ?_
           repeat (go_big_quiet_step ((first | (go_at_call 38;exact near_of (rgood_any y _)) | (go_at_call 94;exact near_of (rless_any z y _)))))
           refine wpQuiet_nil ?_
           intro _ hw'
           obtain ⟨s1,rfl⟩:=hw'
           go_wp2_with fail
         · go_ret
           exact ⟨by rw [H2.out hl];rfl,below_step HB.out s1.is⟩
         · go_roundw
           case rel=>exact ⟨k+1,by go_num,by omega,below_step HB.out s1.is,H3.out hg hl⟩
           case measure=>simp [intOf];omega
     · have b0:decide ((0:Int) < (k:Int))=false:=decide_eq_false (by omega)
       have H2:=hide (fun hg=>ris_on' hlt h0 hg)
       generalize L[k]=y at *
       cases hg:goodB y
       all_goals
         go_wp2_with fail
         refine wp_region_near (by kernel_rfl) (by kernel_rfl) ?_
         repeat (go_big_quiet_step ((go_at_call 38;exact near_of (rgood_any y _))))
         refine wpQuiet_nil ?_
         intro _ hw'
         obtain ⟨s1,rfl⟩:=hw'
         go_wp2_with fail
       · go_ret
         exact ⟨by rw [H1.out hg];rfl,below_step HB.out s1.is⟩
       · go_roundw
         case rel=>exact ⟨k+1,by go_num,by omega,below_step HB.out s1.is,H2.out hg⟩
         case measure=>simp [intOf];omega
   · obtain rfl:k=L.length:=by omega
     have HF:=hide HR.out
     go_wp2_with fail
     go_ret
     exact ⟨by rw [← HF.out,List.take_length];rfl,HB.out⟩
end Go.Proofs.YtgmkckjedngkdaaGreatDoor
namespace Go.Proofs.YtgmkckjedngkdaaGreatDoor
open Go.ChangeShapes Go.WideShapes Go.ChangeAt Go.RowKit
theorem fold_good {L:List It} {k:Nat} (hk:k < L.length) {a:List It} (h:goodB L[k]=true) (hs:IsState ((L.take k).foldl addL a)):(L.take (k+1)).foldl addL a=refAdd ((L.take k).foldl addL a) L[k]:=by
 rw [List.take_succ_eq_append_getElem hk,List.foldl_append]
 exact (refAdd_eq hs.2.1 (by simpa only [goodB,decide_eq_true_eq] using h)).symm
theorem fold_bad {L:List It} {k:Nat} (hk:k < L.length) {a:List It} (h:goodB L[k]=false):(L.take (k+1)).foldl addL a=(L.take k).foldl addL a:=by
 rw [List.take_succ_eq_append_getElem hk,List.foldl_append]
 exact addL_bad (by simpa only [goodB,decide_eq_false_iff_not] using h)
theorem fold_len {L:List It} (k:Nat) (a:List It):((L.take k).foldl addL a).length≤a.length+k:=Nat.le_trans (foldl_len _ _) (by have:=List.length_take_le k L;omega)
end Go.Proofs.YtgmkckjedngkdaaGreatDoor
namespace Go.Proofs.YtgmkckjedngkdaaGreatDoor
open Go.ChangeShapes Go.WideShapes Go.ChangeAt Go.RowKit
theorem state_no {L:List It} {i k:Nat} (hi:i < L.length) (hk:k < L.length) (h:hidesB L[i] L[k]=true):stateB L=false :=
 stateB_false fun hs=>hs.2.2 L[i] (List.getElem_mem _) L[k] (List.getElem_mem _) (by simpa only [hidesB,decide_eq_true_eq] using h)
def NoHide (L:List It) (i:Nat):Prop:=∀ a (_:a < i) (ha:a < L.length),∀ x ∈ L,hidesB L[a] x=false
def NoHid1 (L:List It) (t:It) (k:Nat):Prop:=∀ b (_:b < k) (hb:b < L.length),hidesB t L[b]=false
theorem noHide_on {L:List It} {i:Nat} (hi:i < L.length) (h:NoHide L i) (h1:∀ x ∈ L,hidesB L[i] x=false):NoHide L (i+1):=fun a ha ha' x hx=>by
 by_cases e:a=i
 · subst e;exact h1 x hx
 · exact h a (by omega) ha' x hx
theorem noHid1_all {L:List It} {t:It} {k:Nat} (hk:L.length≤k) (h:NoHid1 L t k):∀ x ∈ L,hidesB t x=false:=fun x hx=>by
 obtain ⟨b,hb,rfl⟩:=List.getElem_of_mem hx
 exact h b (by omega) hb
theorem noHid1_on {L:List It} {t:It} {k:Nat} (hk:k < L.length) (h:NoHid1 L t k) (h1:hidesB t L[k]=false):NoHid1 L t (k+1):=fun b hb hb'=>by
 by_cases e:b=k
 · subst e;exact h1
 · exact h b (by omega) hb'
theorem noHid_kind {L:List It} {t:It} (h:¬ t.k=1):∀ x ∈ L,hidesB t x=false:=fun x _=>hidesB_false (by unfold It.hides;omega)
theorem state_ris {L:List It} {i:Nat} (hi:L.length≤i) (h:NoHide L i):stateB L=risB L:=by
 cases e:risB L
 · refine stateB_false fun hs=>?_
   have:=ris_iff.2 ⟨hs.1,hs.2.1⟩
   rw [e] at this;cases this
 · have:=ris_iff.1 e
   refine stateB_true ⟨this.1,this.2,fun t ht x hx=>?_⟩
   obtain ⟨a,ha,rfl⟩:=List.getElem_of_mem ht
   have:=h a (by omega) ha x hx
   simpa only [hidesB,decide_eq_false_iff_not] using this
set_option maxHeartbeats 3200000 in
set_option maxRecDepth 100000 in
theorem rstate_any (A:Option Addr) (c:Nat) (L:List It) (w:World) (hL:ItemsAt w A L) (hn:L.length≤4611686018427387904) :
   Calls Tryz.prog 36 #[.slice A L.length c] w fun e w'=>e=.returned (.bool (stateB L))∧Below w.heap.size w w':=by
 have HL:=hide hL
 clear hL
 go_enter Tryz.func36,Tryz.ntmps36
 go_wp2_with fail
 go_loopw [3] (fun i wr=>∃ k:Nat,i=.int .i64 k∧k≤L.length∧Below w.heap.size w wr∧NoHide L k) (fun i _=>L.length - (intOf i).toNat)
 case atStart=>exact ⟨0,rfl,by omega,Below.refl _ _,fun a ha=>absurd ha (by omega)⟩
 case round =>
   obtain ⟨i,rfl,hi,hb,hno⟩:=hrel
   have HB:=hide hb
   clear hb
   obtain ⟨wo,rfl⟩:∃ wo:World,wo=wr:=⟨_,rfl⟩
   by_cases hlt:i < L.length
   · obtain ⟨bl,off,rfl,hbb,y0,y1,y2,y3,y4⟩:=ItemsAt.item HL.out HB.out hlt
     have hbl:bl < wo.heap.size:=Nat.lt_of_lt_of_le hbb HB.out.size
     have H1:=hide (fun k hk=>state_no (k:=k) hlt hk)
     have H2:=hide (fun h=>noHide_on hlt hno h)
     generalize L[i]=y at *
     by_cases hk1:y.k=1
     · have bk:(y.k == 1)=true:=beq_iff_eq.2 hk1
       clear hk1
       go_wp2_with fail
       go_loopw [4] (fun j wr=>∃ k:Nat,j=.int .i64 k∧k≤L.length∧Below wo.heap.size wo wr∧NoHid1 L y k) (fun j _=>L.length - (intOf j).toNat)
       case atStart=>exact ⟨0,rfl,by omega,Below.refl _ _,fun a ha=>absurd ha (by omega)⟩
       case round =>
         obtain ⟨k,rfl,hk,hbq,hn1⟩:=hrel
         have HBQ:=hide hbq
         have y0:=(hbq.cell (p:=⟨bl,_,none⟩) hbl).trans y0
         have y1:=(hbq.cell (p:=⟨bl,_,none⟩) hbl).trans y1
         have y2:=(hbq.cell (p:=⟨bl,_,none⟩) hbl).trans y2
         have y3:=(hbq.cell (p:=⟨bl,_,none⟩) hbl).trans y3
         have y4:=(hbq.cell (p:=⟨bl,_,none⟩) hbl).trans y4
         have hzq:=hbq.size
         have hzl:bl < wr.heap.size:=by omega
         clear hbq
         have hnc:=near_cells wr
         by_cases hltk:k < L.length
         · obtain ⟨bl',off',hA,hbb',z0,z1,z2,z3,z4⟩:=ItemsAt.item HL.out (below_step HB.out HBQ.out) hltk
           injection hA with hA
           injection hA with hA1 hA2
           subst hA1 hA2
           have H3:=hide (fun h=>noHid1_on hltk hn1 h)
           have H4:=hide (H1.out k hltk)
           generalize L[k]=z at *
           cases hh:hidesB y z
           all_goals
             go_wp2_with fail
             refine wp_region_near (by kernel_rfl) (by kernel_rfl) ?_
             repeat (go_big_quiet_step ((go_at_call 90;exact near_of (rhides_any y z _))))
             refine wpQuiet_nil ?_
             intro _ hw'
             obtain ⟨s1,rfl⟩:=hw'
             rw [hh]
             go_wp2_with fail
           · go_roundw
             case rel=>exact ⟨k+1,by go_num,by omega,below_step HBQ.out s1.is,H3.out hh⟩
             case measure=>simp [intOf];omega
           · go_ret
             exact ⟨by rw [H4.out hh];rfl,below_step (below_step HB.out HBQ.out) s1.is⟩
         · have H3:=hide (H2.out (noHid1_all (by omega) hn1))
           go_wp2_with fail
           go_roundw
           case rel=>exact ⟨i+1,by go_num,by omega,below_step HB.out HBQ.out,H3.out⟩
           case measure=>simp [intOf];omega
     · have bk:(y.k == 1)=false:=beq_eq_false_iff_ne.2 hk1
       have H3:=hide (H2.out (noHid_kind hk1))
       go_wp2_with fail
       go_loopw [4] (fun j wr=>j=.int .i64 (0:Nat)∧wr=wo) (fun _ _=>0)
       case atStart=>exact ⟨rfl,rfl⟩
       case round =>
         obtain ⟨rfl,rfl⟩:=hrel
         go_wp2_with fail
         go_roundw
         case rel=>exact ⟨i+1,by go_num,by omega,HB.out,H3.out⟩
         case measure=>simp [intOf];omega
   · have HE:=hide (state_ris (by omega) hno)
     go_wp2_with fail
     refine (Calls.mono (rrises_any A c L _ (HL.out.below HB.out) hn) ?_);rintro e w1 ⟨rfl,hg1⟩
     go_wp2_with fail
     go_ret
     exact ⟨by rw [HE.out];rfl,below_step HB.out hg1⟩
theorem rstate_sl {v:Value} {L:List It} {w:World} (h:Sl w v L) (hn:L.length≤4611686018427387904):Calls Tryz.prog 36 #[v] w fun e w'=>e=.returned (.bool (stateB L))∧Below w.heap.size w w':=by
 obtain ⟨A,c,rfl,hL,h1,h2⟩:=h
 exact rstate_any A c L w hL hn
noncomputable def joinFrom (a:List It):List It:=if stateB a then a else ofL a
theorem joinL_from (a b:List It):joinL a b=b.foldl addL (joinFrom a):=by unfold joinL joinFrom;rfl
theorem joinFrom_state (a:List It):IsState (joinFrom a):=by
 unfold joinFrom
 split
 · exact stateB_iff.1 (by assumption)
 · exact ofL_state a
theorem joinFrom_len (a:List It):(joinFrom a).length≤a.length:=by
 unfold joinFrom
 split
 · omega
 · exact ofL_len a
end Go.Proofs.YtgmkckjedngkdaaGreatDoor
namespace Go.Proofs.YtgmkckjedngkdaaGreatDoor
open Go.ChangeShapes Go.WideShapes Go.ChangeAt Go.RowKit
def Slx (P:Nat→Prop) (w:World) (v:Value) (L:List It):Prop:=∃ A c,v=.slice A L.length c∧ItemsAt w A L∧L.length≤c∧c≤maxLen∧∀ ad,A=some ad→L ≠ []→P ad.block
theorem Slx.sl {P:Nat→Prop} {w:World} {v:Value} {L:List It} (h:Slx P w v L):Sl w v L:=let ⟨A,c,h1,h2,h3,h4,_⟩:=h;⟨A,c,h1,h2,h3,h4⟩
theorem Slx.below {P:Nat→Prop} {w w':World} {v:Value} {L:List It} (h:Slx P w v L) (hb:Below w.heap.size w w'):Slx P w' v L:=by
 obtain ⟨A,c,e,hr,h1,h2,h3⟩:=h
 exact ⟨A,c,e,hr.below hb,h1,h2,h3⟩
theorem Slx.mk_ {P:Nat→Prop} {w:World} {A:Option Addr} {c:Nat} {L:List It} (h:ItemsAt w A L) (h1:L.length≤c) (h2:c≤maxLen) (h3:∀ ad,A=some ad→L ≠ []→P ad.block):Slx P w (.slice A L.length c) L:=⟨A,c,rfl,h,h1,h2,h3⟩
theorem Ow.slx {P:Nat→Prop} {base:Nat} {w:World} {v:Value} {L:List It} (h:Ow base w v L) (hP:∀ g,base≤g→P g):Slx P w v L:=by
 obtain ⟨A,c,e,hr,hb,h1,h2⟩:=OwnL.row It.cells_len h
 exact ⟨A,c,e,hr,h1,h2,fun ad ha _=>hP _ (hb ad.block ad.off ad.spot ha).1⟩
def RetSx (P:Nat→Prop) (L:List It) (w:World) (e:Ending) (w':World):Prop:=∃ v,e=.returned v∧Slx P w' v L∧Below w.heap.size w w'
set_option maxHeartbeats 3200000 in
set_option maxRecDepth 100000 in
theorem radd_x (P:Nat→Prop) (A:Option Addr) (c:Nat) (L:List It) (x:It) (w:World) (hL:ItemsAt w A L) (h1:L.length≤c) (h2:c≤maxLen) (hn:L.length≤1099511627776) (hP:∀ g,w.heap.size≤g→P g) (hA:∀ ad,A=some ad→L ≠ []→P ad.block) :
   Calls Tryz.prog 39 #[.slice A L.length c,x.val] w (RetSx P (refAdd L x) w):=by
 have HL:=hide hL
 have HS:=hide (Slx.mk_ hL h1 h2 hA)
 have HPX:Hid (∀ g,(w.alloc (.cells x.cells.toArray 54)).heap.size≤g→P g):=hide (fun g h=>hP g (by rw [World.size_alloc] at h;omega))
 clear hL hP hA
 go_enter Tryz.func39,Tryz.ntmps39
 go_wp2_with fail
 go_loopw [5,6,7] (fun v p i wr=>∃ (k:Nat) (b:Bool) (N:List It),i=.int .i64 k∧p=.bool b∧k≤L.length∧N.length≤2 * k∧optApp N (refRest x b (L.drop k))=refRest x false L∧Ow (w.alloc (.cells x.cells.toArray 54)).heap.size wr v N∧Below (w.alloc (.cells x.cells.toArray 54)).heap.size (w.alloc (.cells x.cells.toArray 54)) wr) (fun _ _ i _=>L.length - (intOf i).toNat)
 case atStart=>exact ⟨0,false,[],rfl,rfl,by omega,by simp,optApp_nil _,Ow.nil_ _ _,Below.refl _ _⟩
 case round =>
   obtain ⟨k,b,N,rfl,rfl,hk,hN,heq,hown,hb⟩:=hrel
   have HE:=hide heq
   have hbw:Below w.heap.size w wr:=((Below.refl _ _).alloc (Nat.le_refl _) _).trans (hb.mono (by simp))
   obtain ⟨x0,x1,x2,x3,x4⟩:=box_item (g:=w.heap.size) (x:=x) ((hb.block _ (by simp)).trans (heap_alloc_new w _))
   have hsz:w.heap.size < wr.heap.size:=by have:=hb.size;simp at this;omega
   have HB:=hide hb
   have HO:=hide hown
   have HW:=hide hbw
   clear heq hb hown hbw
   by_cases hlt:k < L.length
   · obtain ⟨bl,off,rfl,hbb,y0,y1,y2,y3,y4⟩:=ItemsAt.item HL.out HW.out hlt
     have hbl:bl < wr.heap.size:=by have:=HW.out.size;omega
     have hd1:=fun T h=>rest_hid (T:=T) hlt h (x:=x) (p:=b) (N:=N)
     have hd2:=fun T h=>rest_same (T:=T) hlt h (x:=x) (p:=b) (N:=N)
     have hd3:=fun T h=>rest_beaten (T:=T) hlt h (x:=x) (p:=b) (N:=N)
     have hd4:=fun T h=>rest_on (T:=T) hlt h (x:=x) (p:=b) (N:=N)
     have H1:=hide (hd1 _ HE.out)
     have H2:=hide (hd2 _ HE.out)
     have H3:=hide (hd3 _ HE.out)
     have H4:=hide (hd4 _ HE.out)
     clear hd1 hd2 hd3 hd4
     generalize L[k]=y at *
     by_cases c1:hidesB y x=true
     case pos =>
       have HT:=hide (H1.out c1)
       go_wp2_with fail
       refine (Calls.mono (rhides_any y x _) ?_);rintro e w1 ⟨rfl,hg1⟩;obtain ⟨hc1,hf1⟩:=bcell hg1
       have HB1:=hide (below_step (below_alloc HB.out _) hg1)
       have hz1:wr.heap.size < w1.heap.size:=by have:=hg1.size;(try simp at this);omega
       have hza1:w.heap.size < w1.heap.size:=by omega
       have hzb1:bl < w1.heap.size:=by omega
       go_wp2_with fail
       go_ret
       refine ⟨_,rfl,?_,((Below.refl _ _).alloc (Nat.le_refl _) _).trans (HB1.out.mono (by simp))⟩
       unfold refAdd;rw [HT.out];exact HS.out.below (((Below.refl _ _).alloc (Nat.le_refl _) _).trans (HB1.out.mono (by simp)))
     have c1':hidesB y x=false:=by simpa using c1
     clear c1
     by_cases c2:sameB x y=true
     case pos =>
       by_cases c3:winsB x y=true
       case pos =>
         have HT:=hide (H2.out c1' c2 c3)
         go_wp2_with fail
         refine (Calls.mono (rhides_any y x _) ?_);rintro e w2 ⟨rfl,hg2⟩;obtain ⟨hc2,hf2⟩:=bcell hg2
         have HB2:=hide (below_step (below_alloc HB.out _) hg2)
         have hz2:wr.heap.size < w2.heap.size:=by have:=hg2.size;(try simp at this);omega
         have hza2:w.heap.size < w2.heap.size:=by omega
         have hzb2:bl < w2.heap.size:=by omega
         go_wp2_with fail
         refine (Calls.mono (rsame_any x y _) ?_);rintro e w3 ⟨rfl,hg3⟩;obtain ⟨hc3,hf3⟩:=bcell hg3
         have HB3:=hide (below_step HB2.out hg3)
         have hz3:wr.heap.size < w3.heap.size:=by have:=hg3.size;(try simp at this);omega
         have hza3:w.heap.size < w3.heap.size:=by omega
         have hzb3:bl < w3.heap.size:=by omega
         go_wp2_with fail
         refine (Calls.mono (rwins_any x y _) ?_);rintro e w4 ⟨rfl,hg4⟩;obtain ⟨hc4,hf4⟩:=bcell hg4
         have HB4:=hide (below_step HB3.out hg4)
         have hz4:wr.heap.size < w4.heap.size:=by have:=hg4.size;(try simp at this);omega
         have hza4:w.heap.size < w4.heap.size:=by omega
         have hzb4:bl < w4.heap.size:=by omega
         go_wp2_with fail
         go_roundw
         case rel=>exact ⟨k+1,b,N,by go_num,rfl,by omega,by omega,HT.out,(Ow.below (Ow.below (Ow.below (OwnL.alloc HO.out _) hg2) hg3) hg4),HB4.out⟩
         case measure=>simp [intOf];omega
       have c3':winsB x y=false:=by simpa using c3
       clear c3
       have HT:=hide (H3.out c1' c2 c3')
       go_wp2_with fail
       refine (Calls.mono (rhides_any y x _) ?_);rintro e w5 ⟨rfl,hg5⟩;obtain ⟨hc5,hf5⟩:=bcell hg5
       have HB5:=hide (below_step (below_alloc HB.out _) hg5)
       have hz5:wr.heap.size < w5.heap.size:=by have:=hg5.size;(try simp at this);omega
       have hza5:w.heap.size < w5.heap.size:=by omega
       have hzb5:bl < w5.heap.size:=by omega
       go_wp2_with fail
       refine (Calls.mono (rsame_any x y _) ?_);rintro e w6 ⟨rfl,hg6⟩;obtain ⟨hc6,hf6⟩:=bcell hg6
       have HB6:=hide (below_step HB5.out hg6)
       have hz6:wr.heap.size < w6.heap.size:=by have:=hg6.size;(try simp at this);omega
       have hza6:w.heap.size < w6.heap.size:=by omega
       have hzb6:bl < w6.heap.size:=by omega
       go_wp2_with fail
       refine (Calls.mono (rwins_any x y _) ?_);rintro e w7 ⟨rfl,hg7⟩;obtain ⟨hc7,hf7⟩:=bcell hg7
       have HB7:=hide (below_step HB6.out hg7)
       have hz7:wr.heap.size < w7.heap.size:=by have:=hg7.size;(try simp at this);omega
       have hza7:w.heap.size < w7.heap.size:=by omega
       have hzb7:bl < w7.heap.size:=by omega
       go_wp2_with fail
       go_ret
       refine ⟨_,rfl,?_,((Below.refl _ _).alloc (Nat.le_refl _) _).trans (HB7.out.mono (by simp))⟩
       unfold refAdd;rw [HT.out];exact HS.out.below (((Below.refl _ _).alloc (Nat.le_refl _) _).trans (HB7.out.mono (by simp)))
     have c2':sameB x y=false:=by simpa using c2
     clear c2
     have HT:=hide (H4.out c1' c2')
     clear H1 H2 H3
     cases b
     case true =>
       by_cases c5:hidesB x y=true
       case pos =>
         have hT:optApp (N) (refRest x true (L.drop (k+1)))=refRest x false L:=by have:=H4.out c1' c2';simpa [c5] using this
         have HT:=hide hT
         clear hT
         go_wp2_with fail
         refine (Calls.mono (rhides_any y x _) ?_);rintro e w8 ⟨rfl,hg8⟩;obtain ⟨hc8,hf8⟩:=bcell hg8
         have HB8:=hide (below_step (below_alloc HB.out _) hg8)
         have hz8:wr.heap.size < w8.heap.size:=by have:=hg8.size;(try simp at this);omega
         have hza8:w.heap.size < w8.heap.size:=by omega
         have hzb8:bl < w8.heap.size:=by omega
         go_wp2_with fail
         refine (Calls.mono (rsame_any x y _) ?_);rintro e w9 ⟨rfl,hg9⟩;obtain ⟨hc9,hf9⟩:=bcell hg9
         have HB9:=hide (below_step HB8.out hg9)
         have hz9:wr.heap.size < w9.heap.size:=by have:=hg9.size;(try simp at this);omega
         have hza9:w.heap.size < w9.heap.size:=by omega
         have hzb9:bl < w9.heap.size:=by omega
         go_wp2_with fail
         refine (Calls.mono (rhides_any x y _) ?_);rintro e w10 ⟨rfl,hg10⟩;obtain ⟨hc10,hf10⟩:=bcell hg10
         have HB10:=hide (below_step HB9.out hg10)
         have hz10:wr.heap.size < w10.heap.size:=by have:=hg10.size;(try simp at this);omega
         have hza10:w.heap.size < w10.heap.size:=by omega
         have hzb10:bl < w10.heap.size:=by omega
         go_wp2_with fail
         go_roundw
         case rel=>exact ⟨k+1,true,N,by go_num,rfl,by omega,by (try simp);omega,HT.out,(Ow.below (Ow.below (Ow.below (OwnL.alloc HO.out _) hg8) hg9) hg10),HB10.out⟩
         case measure=>simp [intOf];omega
       have c5':hidesB x y=false:=by simpa using c5
       clear c5
       have c5:=c5'
       clear c5'
       have hT:optApp (N ++ [y]) (refRest x true (L.drop (k+1)))=refRest x false L:=by have:=H4.out c1' c2';simpa [c5] using this
       have HT:=hide hT
       clear hT
       go_wp2_with fail
       refine (Calls.mono (rhides_any y x _) ?_);rintro e w11 ⟨rfl,hg11⟩;obtain ⟨hc11,hf11⟩:=bcell hg11
       have HB11:=hide (below_step (below_alloc HB.out _) hg11)
       have hz11:wr.heap.size < w11.heap.size:=by have:=hg11.size;(try simp at this);omega
       have hza11:w.heap.size < w11.heap.size:=by omega
       have hzb11:bl < w11.heap.size:=by omega
       go_wp2_with fail
       refine (Calls.mono (rsame_any x y _) ?_);rintro e w12 ⟨rfl,hg12⟩;obtain ⟨hc12,hf12⟩:=bcell hg12
       have HB12:=hide (below_step HB11.out hg12)
       have hz12:wr.heap.size < w12.heap.size:=by have:=hg12.size;(try simp at this);omega
       have hza12:w.heap.size < w12.heap.size:=by omega
       have hzb12:bl < w12.heap.size:=by omega
       go_wp2_with fail
       refine (Calls.mono (rhides_any x y _) ?_);rintro e w13 ⟨rfl,hg13⟩;obtain ⟨hc13,hf13⟩:=bcell hg13
       have HB13:=hide (below_step HB12.out hg13)
       have hz13:wr.heap.size < w13.heap.size:=by have:=hg13.size;(try simp at this);omega
       have hza13:w.heap.size < w13.heap.size:=by omega
       have hzb13:bl < w13.heap.size:=by omega
       go_wp2_with (at_builtin;refine wpList_append_item rfl (.tmp 46) (.tmp 48) rfl _ _ _ _ _ _ (N) y rfl rfl rfl (Ow.below (Ow.below (Ow.below (OwnL.alloc HO.out _) hg11) hg12) hg13) HB13.out (Nat.le_refl _) HB13.out.size (by (try simp);omega) ?_;intro v1 u1 ho1 hbu1 hgu1)
       have HBU1:=hide hbu1
       have HOU1:=hide ho1
       go_wp2_with fail
       go_roundw
       case rel=>exact ⟨k+1,true,N ++ [y],by go_num,rfl,by omega,by (try simp);omega,HT.out,HOU1.out,HBU1.out⟩
       case measure=>simp [intOf];omega
     case false =>
       by_cases c4:ltB x y=true
       case pos =>
         by_cases c5:hidesB x y=true
         case pos =>
           have hT:optApp (N ++ [x]) (refRest x true (L.drop (k+1)))=refRest x false L:=by have:=H4.out c1' c2';simpa [c4,c5] using this
           have HT:=hide hT
           clear hT
           go_wp2_with fail
           refine (Calls.mono (rhides_any y x _) ?_);rintro e w14 ⟨rfl,hg14⟩;obtain ⟨hc14,hf14⟩:=bcell hg14
           have HB14:=hide (below_step (below_alloc HB.out _) hg14)
           have hz14:wr.heap.size < w14.heap.size:=by have:=hg14.size;(try simp at this);omega
           have hza14:w.heap.size < w14.heap.size:=by omega
           have hzb14:bl < w14.heap.size:=by omega
           go_wp2_with fail
           refine (Calls.mono (rsame_any x y _) ?_);rintro e w15 ⟨rfl,hg15⟩;obtain ⟨hc15,hf15⟩:=bcell hg15
           have HB15:=hide (below_step HB14.out hg15)
           have hz15:wr.heap.size < w15.heap.size:=by have:=hg15.size;(try simp at this);omega
           have hza15:w.heap.size < w15.heap.size:=by omega
           have hzb15:bl < w15.heap.size:=by omega
           go_wp2_with fail
           refine (Calls.mono (rless_any x y _) ?_);rintro e w16 ⟨rfl,hg16⟩;obtain ⟨hc16,hf16⟩:=bcell hg16
           have HB16:=hide (below_step HB15.out hg16)
           have hz16:wr.heap.size < w16.heap.size:=by have:=hg16.size;(try simp at this);omega
           have hza16:w.heap.size < w16.heap.size:=by omega
           have hzb16:bl < w16.heap.size:=by omega
           have hnx:some w.heap.size ≠ u5.ownBlock:=fun e=>by have:=(OwnL.lt HO.out _ e.symm).1;simp at this;omega
           have hny:some wr.heap.size ≠ u5.ownBlock:=fun e=>by have:=(OwnL.lt HO.out _ e.symm).2;omega
           go_wp2_with (at_builtin;refine wpList_append_item rfl (.tmp 38) (.tmp 40) rfl _ _ _ _ _ _ (N) x rfl rfl rfl (Ow.below (Ow.below (Ow.below (OwnL.alloc HO.out _) hg14) hg15) hg16) HB16.out (Nat.le_refl _) HB16.out.size (by (try simp);omega) ?_;intro v2 u2 ho2 hbu2 hgu2;obtain ⟨hcx,hfx⟩:=gcell hgu2 hza16 hnx;obtain ⟨hcy,hfy⟩:=gcell hgu2 hz16 hny;have hzu:wr.heap.size < u2.heap.size:=Nat.lt_of_lt_of_le hz16 hgu2.size;have hzv:w.heap.size < u2.heap.size:=Nat.lt_of_lt_of_le hza16 hgu2.size)
           have HBU2:=hide hbu2
           have HOU2:=hide ho2
           go_wp2_with fail
           refine (Calls.mono (rhides_any x y _) ?_);rintro e w17 ⟨rfl,hg17⟩;obtain ⟨hc17,hf17⟩:=bcell hg17
           have HB17:=hide (below_step HBU2.out hg17)
           have hzw17:wr.heap.size < w17.heap.size:=by have:=hg17.size;omega
           go_wp2_with fail
           go_roundw
           case rel=>exact ⟨k+1,true,N ++ [x],by go_num,rfl,by omega,by (try simp);omega,HT.out,(Ow.below HOU2.out hg17),HB17.out⟩
           case measure=>simp [intOf];omega
         have c5':hidesB x y=false:=by simpa using c5
         clear c5
         have c5:=c5'
         clear c5'
         have hT:optApp (N ++ [x] ++ [y]) (refRest x true (L.drop (k+1)))=refRest x false L:=by have:=H4.out c1' c2';simpa [c4,c5] using this
         have HT:=hide hT
         clear hT
         go_wp2_with fail
         refine (Calls.mono (rhides_any y x _) ?_);rintro e w18 ⟨rfl,hg18⟩;obtain ⟨hc18,hf18⟩:=bcell hg18
         have HB18:=hide (below_step (below_alloc HB.out _) hg18)
         have hz18:wr.heap.size < w18.heap.size:=by have:=hg18.size;(try simp at this);omega
         have hza18:w.heap.size < w18.heap.size:=by omega
         have hzb18:bl < w18.heap.size:=by omega
         go_wp2_with fail
         refine (Calls.mono (rsame_any x y _) ?_);rintro e w19 ⟨rfl,hg19⟩;obtain ⟨hc19,hf19⟩:=bcell hg19
         have HB19:=hide (below_step HB18.out hg19)
         have hz19:wr.heap.size < w19.heap.size:=by have:=hg19.size;(try simp at this);omega
         have hza19:w.heap.size < w19.heap.size:=by omega
         have hzb19:bl < w19.heap.size:=by omega
         go_wp2_with fail
         refine (Calls.mono (rless_any x y _) ?_);rintro e w20 ⟨rfl,hg20⟩;obtain ⟨hc20,hf20⟩:=bcell hg20
         have HB20:=hide (below_step HB19.out hg20)
         have hz20:wr.heap.size < w20.heap.size:=by have:=hg20.size;(try simp at this);omega
         have hza20:w.heap.size < w20.heap.size:=by omega
         have hzb20:bl < w20.heap.size:=by omega
         have hnx:some w.heap.size ≠ u5.ownBlock:=fun e=>by have:=(OwnL.lt HO.out _ e.symm).1;simp at this;omega
         have hny:some wr.heap.size ≠ u5.ownBlock:=fun e=>by have:=(OwnL.lt HO.out _ e.symm).2;omega
         go_wp2_with (at_builtin;refine wpList_append_item rfl (.tmp 38) (.tmp 40) rfl _ _ _ _ _ _ (N) x rfl rfl rfl (Ow.below (Ow.below (Ow.below (OwnL.alloc HO.out _) hg18) hg19) hg20) HB20.out (Nat.le_refl _) HB20.out.size (by (try simp);omega) ?_;intro v3 u3 ho3 hbu3 hgu3;obtain ⟨hcx,hfx⟩:=gcell hgu3 hza20 hnx;obtain ⟨hcy,hfy⟩:=gcell hgu3 hz20 hny;have hzu:wr.heap.size < u3.heap.size:=Nat.lt_of_lt_of_le hz20 hgu3.size;have hzv:w.heap.size < u3.heap.size:=Nat.lt_of_lt_of_le hza20 hgu3.size)
         have HBU3:=hide hbu3
         have HOU3:=hide ho3
         go_wp2_with fail
         refine (Calls.mono (rhides_any x y _) ?_);rintro e w21 ⟨rfl,hg21⟩;obtain ⟨hc21,hf21⟩:=bcell hg21
         have HB21:=hide (below_step HBU3.out hg21)
         have hzw21:wr.heap.size < w21.heap.size:=by have:=hg21.size;omega
         go_wp2_with (at_builtin;refine wpList_append_item rfl (.tmp 46) (.tmp 48) rfl _ _ _ _ _ _ (N ++ [x]) y rfl rfl rfl (Ow.below HOU3.out hg21) HB21.out (Nat.le_refl _) HB21.out.size (by (try simp);omega) ?_;intro v4 u4 ho4 hbu4 hgu4)
         have HBU4:=hide hbu4
         have HOU4:=hide ho4
         go_wp2_with fail
         go_roundw
         case rel=>exact ⟨k+1,true,N ++ [x] ++ [y],by go_num,rfl,by omega,by (try simp);omega,HT.out,HOU4.out,HBU4.out⟩
         case measure=>simp [intOf];omega
       have c4':ltB x y=false:=by simpa using c4
       clear c4
       have c4:=c4'
       clear c4'
       by_cases c5:hidesB x y=true
       case pos =>
         have hT:optApp (N) (refRest x false (L.drop (k+1)))=refRest x false L:=by have:=H4.out c1' c2';simpa [c4,c5] using this
         have HT:=hide hT
         clear hT
         go_wp2_with fail
         refine (Calls.mono (rhides_any y x _) ?_);rintro e w22 ⟨rfl,hg22⟩;obtain ⟨hc22,hf22⟩:=bcell hg22
         have HB22:=hide (below_step (below_alloc HB.out _) hg22)
         have hz22:wr.heap.size < w22.heap.size:=by have:=hg22.size;(try simp at this);omega
         have hza22:w.heap.size < w22.heap.size:=by omega
         have hzb22:bl < w22.heap.size:=by omega
         go_wp2_with fail
         refine (Calls.mono (rsame_any x y _) ?_);rintro e w23 ⟨rfl,hg23⟩;obtain ⟨hc23,hf23⟩:=bcell hg23
         have HB23:=hide (below_step HB22.out hg23)
         have hz23:wr.heap.size < w23.heap.size:=by have:=hg23.size;(try simp at this);omega
         have hza23:w.heap.size < w23.heap.size:=by omega
         have hzb23:bl < w23.heap.size:=by omega
         go_wp2_with fail
         refine (Calls.mono (rless_any x y _) ?_);rintro e w24 ⟨rfl,hg24⟩;obtain ⟨hc24,hf24⟩:=bcell hg24
         have HB24:=hide (below_step HB23.out hg24)
         have hz24:wr.heap.size < w24.heap.size:=by have:=hg24.size;(try simp at this);omega
         have hza24:w.heap.size < w24.heap.size:=by omega
         have hzb24:bl < w24.heap.size:=by omega
         go_wp2_with fail
         refine (Calls.mono (rhides_any x y _) ?_);rintro e w25 ⟨rfl,hg25⟩;obtain ⟨hc25,hf25⟩:=bcell hg25
         have HB25:=hide (below_step HB24.out hg25)
         have hz25:wr.heap.size < w25.heap.size:=by have:=hg25.size;(try simp at this);omega
         have hza25:w.heap.size < w25.heap.size:=by omega
         have hzb25:bl < w25.heap.size:=by omega
         go_wp2_with fail
         go_roundw
         case rel=>exact ⟨k+1,false,N,by go_num,rfl,by omega,by (try simp);omega,HT.out,(Ow.below (Ow.below (Ow.below (Ow.below (OwnL.alloc HO.out _) hg22) hg23) hg24) hg25),HB25.out⟩
         case measure=>simp [intOf];omega
       have c5':hidesB x y=false:=by simpa using c5
       clear c5
       have c5:=c5'
       clear c5'
       have hT:optApp (N ++ [y]) (refRest x false (L.drop (k+1)))=refRest x false L:=by have:=H4.out c1' c2';simpa [c4,c5] using this
       have HT:=hide hT
       clear hT
       go_wp2_with fail
       refine (Calls.mono (rhides_any y x _) ?_);rintro e w26 ⟨rfl,hg26⟩;obtain ⟨hc26,hf26⟩:=bcell hg26
       have HB26:=hide (below_step (below_alloc HB.out _) hg26)
       have hz26:wr.heap.size < w26.heap.size:=by have:=hg26.size;(try simp at this);omega
       have hza26:w.heap.size < w26.heap.size:=by omega
       have hzb26:bl < w26.heap.size:=by omega
       go_wp2_with fail
       refine (Calls.mono (rsame_any x y _) ?_);rintro e w27 ⟨rfl,hg27⟩;obtain ⟨hc27,hf27⟩:=bcell hg27
       have HB27:=hide (below_step HB26.out hg27)
       have hz27:wr.heap.size < w27.heap.size:=by have:=hg27.size;(try simp at this);omega
       have hza27:w.heap.size < w27.heap.size:=by omega
       have hzb27:bl < w27.heap.size:=by omega
       go_wp2_with fail
       refine (Calls.mono (rless_any x y _) ?_);rintro e w28 ⟨rfl,hg28⟩;obtain ⟨hc28,hf28⟩:=bcell hg28
       have HB28:=hide (below_step HB27.out hg28)
       have hz28:wr.heap.size < w28.heap.size:=by have:=hg28.size;(try simp at this);omega
       have hza28:w.heap.size < w28.heap.size:=by omega
       have hzb28:bl < w28.heap.size:=by omega
       go_wp2_with fail
       refine (Calls.mono (rhides_any x y _) ?_);rintro e w29 ⟨rfl,hg29⟩;obtain ⟨hc29,hf29⟩:=bcell hg29
       have HB29:=hide (below_step HB28.out hg29)
       have hz29:wr.heap.size < w29.heap.size:=by have:=hg29.size;(try simp at this);omega
       have hza29:w.heap.size < w29.heap.size:=by omega
       have hzb29:bl < w29.heap.size:=by omega
       go_wp2_with (at_builtin;refine wpList_append_item rfl (.tmp 46) (.tmp 48) rfl _ _ _ _ _ _ (N) y rfl rfl rfl (Ow.below (Ow.below (Ow.below (Ow.below (OwnL.alloc HO.out _) hg26) hg27) hg28) hg29) HB29.out (Nat.le_refl _) HB29.out.size (by (try simp);omega) ?_;intro v5 u5 ho5 hbu5 hgu5)
       have HBU5:=hide hbu5
       have HOU5:=hide ho5
       go_wp2_with fail
       go_roundw
       case rel=>exact ⟨k+1,false,N ++ [y],by go_num,rfl,by omega,by (try simp);omega,HT.out,HOU5.out,HBU5.out⟩
       case measure=>simp [intOf];omega
   · have HT:=hide (rest_end (by omega) HE.out)
     cases b
     case true =>
       go_wp2_with fail
       go_ret
       refine ⟨_,rfl,?_,HW.out⟩
       unfold refAdd;rw [HT.out];simpa using (Ow.slx HO.out HPX.out)
     case false =>
       go_wp2_with (at_builtin;refine wpList_append_item rfl (.tmp 52) (.tmp 54) rfl _ _ _ _ _ _ (N) x rfl rfl rfl HO.out HB.out (Nat.le_refl _) HB.out.size (by (try simp);omega) ?_;intro v6 u6 ho6 hbu6 hgu6)
       have HBU6:=hide hbu6
       have HOU6:=hide ho6
       go_wp2_with fail
       go_ret
       refine ⟨_,rfl,?_,((Below.refl _ _).alloc (Nat.le_refl _) _).trans (HBU6.out.mono (by simp))⟩
       unfold refAdd;rw [HT.out];simpa using (Ow.slx HOU6.out HPX.out)
theorem radd_slx {P:Nat→Prop} {v:Value} {L:List It} {w:World} (h:Slx P w v L) (x:It) (hn:L.length≤1099511627776) (hP:∀ g,w.heap.size≤g→P g):Calls Tryz.prog 39 #[v,x.val] w (RetSx P (refAdd L x) w):=by
 obtain ⟨A,c,rfl,hL,h1,h2,h3⟩:=h
 exact radd_x P A c L x w hL h1 h2 hn hP h3
set_option maxHeartbeats 3200000 in
theorem rjoin_x (P:Nat→Prop) (va:Value) (La:List It) (A:Option Addr) (c:Nat) (L:List It) (w:World) (ha:Slx P w va La) (hL:ItemsAt w A L) (hna:La.length≤274877906944) (hn:L.length≤274877906944) (hst0:stateB La=true) (hP:∀ g,w.heap.size≤g→P g) :
   Calls Tryz.prog 10 #[va,.slice A L.length c] w (RetSx P (joinL La L) w):=by
 have HL:=hide hL
 have HA:=hide ha
 have HSB:=hide hst0
 have HPX:=hide hP
 clear hL ha hst0 hP
 have hjl:=joinFrom_len La
 have hjs:=joinFrom_state La
 have HJ:Hid (joinL La L=L.foldl addL (joinFrom La)):=hide (joinL_from La L)
 go_enter Tryz.func10,Tryz.ntmps10
 go_upto_if 10 with (go_at_call 36;refine (Calls.mono (rstate_sl HA.out.sl (by omega)) ?_);rintro e w1 ⟨rfl,hg1⟩)
 have HG:=hide hg1
 clear hg1
 go_cut [5] (fun ov W=>Slx P W ov (joinFrom La)∧Below w.heap.size w W)
 case first =>
   cases hst:stateB La
   · exfalso
     rw [HSB.out] at hst
     cases hst
   · have HF:Hid (joinFrom La=La):=hide (by unfold joinFrom;rw [hst];rfl)
     go_wp2_with fail
     go_meet
     exact ⟨by rw [HF.out];exact HA.out.below HG.out,HG.out⟩
 case rest =>
   obtain ⟨hs0,hb0⟩:=hcut
   go_wp2_with fail
   go_loopw [5,6] (fun v i wr=>∃ k:Nat,i=.int .i64 k∧k≤L.length∧Below w.heap.size w wr∧Slx P wr v ((L.take k).foldl addL (joinFrom La))) (fun _ i _=>L.length - (intOf i).toNat)
   case atStart=>exact ⟨0,rfl,by omega,hb0,hs0⟩
   case round =>
     obtain ⟨k,rfl,hk,hb,hs⟩:=hrel
     have HB:=hide hb
     have HS:=hide hs
     clear hb hs
     by_cases hlt:k < L.length
     · obtain ⟨bl,off,rfl,hbb,y0,y1,y2,y3,y4⟩:=ItemsAt.item HL.out HB.out hlt
       have hbl:bl < wr.heap.size:=Nat.lt_of_lt_of_le hbb HB.out.size
       have hNl:=fold_len (L:=L) k (joinFrom La)
       have H1:=hide (fun h=>fold_good hlt (a:=joinFrom La) h (foldl_state _ hjs))
       have H2:=hide (fun h=>fold_bad hlt (a:=joinFrom La) h)
       generalize (L.take k).foldl addL (joinFrom La)=N at *
       generalize L[k]=y at *
       cases hg:goodB y
       · go_wp2_with fail
         refine (Calls.mono (rgood_any y _) ?_);rintro e w1 ⟨rfl,hg1⟩;obtain ⟨hc1,hf1⟩:=bcell hg1
         try rw [hg]
         go_wp2_with fail
         go_roundw
         case rel=>exact ⟨k+1,by go_num,by omega,below_step HB.out hg1,by rw [H2.out hg];exact HS.out.below hg1⟩
         case measure=>simp [intOf];omega
       · go_wp2_with fail
         refine (Calls.mono (rgood_any y _) ?_);rintro e w1 ⟨rfl,hg1⟩;obtain ⟨hc1,hf1⟩:=bcell hg1
         try rw [hg]
         go_wp2_with fail
         refine (Calls.mono (radd_slx (HS.out.below hg1) y (by omega) (fun g h=>HPX.out g (by have:=HB.out.size;have:=hg1.size;omega))) ?_);rintro e w2 ⟨v2,rfl,hs2,hg2⟩
         go_wp2_with fail
         go_roundw
         case rel=>exact ⟨k+1,by go_num,by omega,below_step (below_step HB.out hg1) hg2,by rw [H1.out hg];exact hs2⟩
         case measure=>simp [intOf];omega
     · obtain rfl:k=L.length:=by omega
       go_wp2_with fail
       go_ret
       have HS2:=HS.out
       rw [List.take_length] at HS2
       exact ⟨_,rfl,by rw [HJ.out];exact HS2,HB.out⟩
end Go.Proofs.YtgmkckjedngkdaaGreatDoor
namespace Go.Proofs.YtgmkckjedngkdaaGreatDoor
open Go.RowKit
theorem and_mask_i64 (a:Int) (k:Nat) (m:Int) (hk:k < 63) (hm:m=2 ^ k - 1):bits .and .i64 a m=a % 2 ^ k:=by
 have h2:((2:Nat) ^ k) < 2 ^ 63:=Nat.pow_lt_pow_right (by omega) hk
 have h2':(2:Nat) ^ k ∣ 2 ^ 64:=Nat.pow_dvd_pow 2 (by omega)
 have hpos:0 < (2:Nat) ^ k:=Nat.pow_pos (by omega)
 have ec:((2 ^ k:Nat):Int)=(2:Int) ^ k:=by simp
 have hm':m=((2 ^ k - 1:Nat):Int):=by omega
 show IntKind.i64.wrap ((BitVec.ofInt 64 a &&& BitVec.ofInt 64 m).toNat:Int)=_
 have e1:(BitVec.ofInt 64 m).toNat=2 ^ k - 1:=by
   rw [hm',BitVec.ofInt_natCast,BitVec.toNat_ofNat];exact Nat.mod_eq_of_lt (by omega)
 rw [BitVec.toNat_and,e1,Nat.and_two_pow_sub_one_eq_mod,BitVec.toNat_ofInt]
 have e2:(((a % ((2 ^ 64:Nat):Int)).toNat % 2 ^ k:Nat):Int)=a % 2 ^ k:=by
   have hnn:0≤a % ((2 ^ 64:Nat):Int):=Int.emod_nonneg _ (by decide)
   rw [Int.natCast_emod,Int.toNat_of_nonneg hnn,← ec]
   exact Int.emod_emod_of_dvd a (by exact_mod_cast h2')
 rw [e2,IntKind.wrap_i64]
 have h3:0≤a % (2:Int) ^ k:=Int.emod_nonneg _ (by omega)
 have h4:a % (2:Int) ^ k < 2 ^ k:=Int.emod_lt_of_pos _ (by omega)
 omega
def cnt (x:Int):Nat→Int
 | 0=>0
 | n+1=>cnt x n+x / 2 ^ n % 2
end Go.Proofs.YtgmkckjedngkdaaGreatDoor
namespace Go.Proofs.YtgmkckjedngkdaaGreatDoor
open Go.ChangeShapes Go.WideShapes Go.ChangeAt Go.RowKit
structure Sv (β:Type) where
 A:Option Addr
 c:Nat
 L:List β
abbrev Sv.val {β:Type} (s:Sv β):Value:=.slice s.A s.L.length s.c
structure Sv.good {β:Type} (cells:β→List Value) (sz:Nat) (ok:β→Prop) (w:World) (s:Sv β):Prop where
 lc:s.L.length≤s.c
 cm:s.c≤maxLen
 row:RowAt cells sz w s.A s.L
 ok:∀ a ∈ s.L,ok a
theorem Sv.good.below {β:Type} {cells:β→List Value} {sz:Nat} {ok:β→Prop} {w w':World} {s:Sv β} (h:Sv.good cells sz ok w s) (hb:Below w.heap.size w w'):Sv.good cells sz ok w' s:={ h with row:=h.row.below hb }
section
variable {H:Type} {enc:TypeId × Value→H} {P:Program} {w:World} {base:Nat} {held:Bool}
theorem dec_slice {β:Type} {cells:β→List Value} {ok:β→Prop} {sz:Nat} {t e:TypeId} (ht:P.underlying t=some (.slice e)) (hC:P.cellsOf e=sz) (hs:0 < sz)
   (dec:∀ n cs x,DataW.trod enc P w base (fun _=>true) held n e cs=some x→∃ a:β,ok a∧cs=cells a)
   (fuel:Nat) (cs:List Value) (x:DataW H × List MemPlace) (hf:DataW.trod enc P w base (fun _=>true) held fuel t cs=some x) :
   ∃ s:Sv β,Sv.good cells sz ok w s∧cs=[s.val]:=by
 rcases Go.Deep.open_slice ht hf with ⟨hcs,_⟩ | ⟨a,n,c,m,n',D,Pl,hcs,_,hl,hm,hmm,_,hi⟩
 · exact ⟨⟨none,0,[]⟩,⟨Nat.le_refl _,by simp,RowAt.nil_,by simp⟩,hcs⟩
 · have hmc:m=c:=by simpa using hmm
   have hx:∀ i,i < n→∃ x:β,ok x∧w.cells? base (a.add (i * sz)) sz=some (cells x):=by
     intro i hin
     obtain ⟨cs',hc,htr⟩:=hi i (by omega)
     obtain ⟨x,hx,rfl⟩:=dec _ _ _ htr
     rw [hC] at hc
     exact ⟨x,hx,hc⟩
   let L:List β:=(List.range n).attach.map fun i=>(hx i.1 (by simpa using i.2)).choose
   have hL:L.length=n:=by simp [L]
   have hLk:∀ k (hk:k < L.length),ok L[k]∧w.cells? base (a.add (k * sz)) sz=some (cells L[k]):=by
     intro k hk
     have hk':k < n:=by omega
     have e:L[k]=(hx k hk').choose:=by simp [L]
     rw [e]
     exact (hx k hk').choose_spec
   refine ⟨⟨some a,c,L⟩,⟨by show L.length≤c;omega,by show c≤maxLen;omega,?_,?_⟩,by rw [hcs];show [_]=[Value.slice (some a) L.length c];rw [hL]⟩
   · intro hne
     have h0:0 < L.length:=List.length_pos_iff.2 hne
     have hz:=cells?_row (hLk 0 h0).2 hs
     obtain ⟨b,off,spot⟩:=a
     have hspot:spot=none:=by simpa [Addr.add] using hz.1
     subst hspot
     refine ⟨b,off,rfl,by simpa [Addr.add] using hz.2.1,?_⟩
     intro k hk j u hu
     have:=(cells?_row (hLk k hk).2 hs).2.2 j u hu
     have e2:(Addr.add ⟨b,off,none⟩ (k * sz))=⟨b,off+k * sz,none⟩:=by
       unfold Addr.add
       by_cases hj:k * sz=0 <;> simp [hj]
     rw [e2] at this
     exact this
   · intro x hx'
     obtain ⟨k,hk,rfl⟩:=List.getElem_of_mem hx'
     exact (hLk k hk).1
end
end Go.Proofs.YtgmkckjedngkdaaGreatDoor
namespace Go.Proofs.YtgmkckjedngkdaaGreatDoor
open Go.ChangeShapes Go.WideShapes Go.ChangeAt Go.RowKit
set_option maxHeartbeats 1600000 in
theorem rseries_any (A:Option Addr) (c:Nat) (L:List It) (s:Int) (w:World) (hL:ItemsAt w A L) (hn:L.length≤1099511627776) :
   Calls Tryz.prog 13 #[.slice A L.length c,.int .i64 s] w (RetOw (L.filter (serP s)) w):=by
 have HL:=hide hL
 clear hL
 go_enter Tryz.func13,Tryz.ntmps13
 go_wp2_with fail
 go_loopw [5,6] (fun sv i wr=>∃ k:Nat,i=.int .i64 k∧k≤L.length∧Ow w.heap.size wr sv ((L.take k).filter (serP s))∧Below w.heap.size w wr) (fun _ i _=>L.length - (intOf i).toNat)
 case atStart=>exact ⟨0,rfl,by omega,Ow.nil_ _ _,Below.refl _ _⟩
 case round =>
   obtain ⟨k,rfl,hk,hown,hb⟩:=hrel
   have HO:=hide hown
   have HB:=hide hb
   clear hown hb
   by_cases hlt:k < L.length
   · obtain ⟨bl,off,rfl,hbb,y0,y1,y2,y3,y4⟩:=ItemsAt.item HL.out HB.out hlt
     have HF1:=hide (filt_in (p:=serP s) hlt)
     have HF2:=hide (filt_out (p:=serP s) hlt)
     have hNl:((L.take k).filter (serP s)).length≤k:=filt_len _ _ _
     generalize L[k]=y at *
     generalize (L.take k).filter (serP s)=N at *
     by_cases hs:y.s=s
     case pos =>
       have bs:(y.s == s)=true:=beq_iff_eq.2 hs
       have HN:=hide (HF1.out (decide_eq_true (by omega)))
       (try clear hs);(try clear hk2);(try clear hk1)
       go_wp2_with (at_builtin;refine wpList_append_item rfl (.tmp 20) (.tmp 25) rfl _ _ _ _ _ _ N y rfl rfl rfl HO.out HB.out (Nat.le_refl _) HB.out.size (by omega) ?_;intro v1 u1 ho1 hbu1 hgu1)
       go_roundw
       case rel=>exact ⟨k+1,by go_num,by omega,by rw [HN.out];exact ho1,hbu1⟩
       case measure=>simp [intOf];omega
     have bs:(y.s == s)=false:=beq_eq_false_iff_ne.2 hs
     have HN:=hide (HF2.out (decide_eq_false (by omega)))
     (try clear hs);(try clear hk2);(try clear hk1)
     go_wp2_with fail
     go_roundw
     case rel=>exact ⟨k+1,by go_num,by omega,by rw [HN.out];exact HO.out,HB.out⟩
     case measure=>simp [intOf];omega
   · obtain rfl:k=L.length:=by omega
     have HF:=hide (filt_all (serP s) L)
     go_wp2_with fail
     go_ret
     exact ⟨_,rfl,by rw [← HF.out];exact HO.out,HB.out⟩
end Go.Proofs.YtgmkckjedngkdaaGreatDoor
namespace Go.Proofs.YtgmkckjedngkdaaGreatDoor
open Go.ChangeShapes Go.WideShapes Go.ChangeAt Go.RowKit
def mayE (g:Bool):Int:=if g then 0 else 1
set_option maxRecDepth 100000 in
set_option maxHeartbeats 1600000 in
theorem may_any (A:Option Addr) (c:Nat) (L:List It) (w:World) (hl:L.length≤2000) (hL:ItemsAt w A L) :
   Calls Tryz.prog 24 #[.slice A L.length c] w fun e w'=>e=.returned (.int .i64 (mayE (L.all goodB)))∧Below w.heap.size w w':=by
 have hlI:¬ (2000:Int) < (L.length:Int):=by omega
 have HL:=hide hL
 obtain ⟨E,hE⟩:∃ E,mayE (L.all goodB)=E:=⟨_,rfl⟩
 have HE:=hide hE
 rw [hE]
 clear hL hE
 go_enter Tryz.func24,Tryz.ntmps24
 go_wp2_with fail
 go_loopw [3] (fun i wr=>∃ k:Nat,i=.int .i64 k∧k≤L.length∧(∀ j (hj:j < L.length),j < k→goodB L[j]=true)∧Below w.heap.size w wr) (fun i _=>L.length - (intOf i).toNat)
 case atStart=>exact ⟨0,rfl,by omega,fun j _ h=>by omega,Below.refl _ _⟩
 case round =>
   obtain ⟨k,rfl,hk,hall,hb⟩:=hrel
   have HALL:=hide hall
   have HB:=hide hb
   clear hall hb
   by_cases hlt:k < L.length
   · have hltI:(k:Int) < (L.length:Int):=by omega
     have hk0:(0:Int)≤(k:Int):=by omega
     obtain ⟨bl,off,rfl,hbb,y0,y1,y2,y3,y4⟩:=ItemsAt.item HL.out HB.out hlt
     have HG:=hide (fun W=>rgood_any L[k] W)
     have HN:Hid (goodB L[k]=true→∀ j (hj:j < L.length),j < k+1→goodB L[j]=true):=hide (fun h j hj hjk=>by
       by_cases e:j=k
       · subst e;exact h
       · exact HALL.out j hj (by omega))
     have HF:Hid (goodB L[k]=false→L.all goodB=false):=hide (fun h=>by
       rw [List.all_eq_false]
       exact ⟨L[k],List.getElem_mem _,by rw [h];simp⟩)
     generalize L[k]=y at *
     cases hg:goodB y with
     | true =>
       rw [hg] at HG HN
       go_wp2_with fail
       refine (Calls.mono (HG.out _) ?_);rintro e w1 ⟨rfl,hb⟩
       have HB1:=hide (below_step HB.out hb)
       clear hb hg
       go_wp2_with fail
       go_roundw
       case rel=>exact ⟨k+1,by go_num,by omega,HN.out trivial,HB1.out⟩
       case measure=>(simp [intOf] <;> omega)
     | false =>
       have HV:=hide (HF.out hg)
       rw [hg] at HG
       go_wp2_with fail
       refine (Calls.mono (HG.out _) ?_);rintro e w1 ⟨rfl,hb⟩
       have HB1:=hide (below_step HB.out hb)
       clear hb hg
       go_wp2_with fail
       go_ret
       exact ⟨by rw [← HE.out,HV.out];rfl,HB1.out⟩
   · obtain rfl:k=L.length:=by omega
     have hltI:¬ (L.length:Int) < (L.length:Int):=by omega
     have HV:Hid (L.all goodB=true):=hide (by
       rw [List.all_eq_true]
       intro x hx
       obtain ⟨j,hj,rfl⟩:=List.mem_iff_getElem.1 hx
       exact HALL.out j hj hj)
     go_wp2_with fail
     go_ret
     exact ⟨by rw [← HE.out,HV.out];rfl,HB.out⟩
set_option maxRecDepth 100000 in
set_option maxHeartbeats 6400000 in
theorem rmok_any (m:Mg) (w:World) (hI:ItemsAt w m.A m.L) :
   Calls Tryz.prog 8 #[m.val] w fun e w'=>e=.returned (.bool (mokB m))∧Below w.heap.size w w':=by
 obtain ⟨k,f,t,id,n,A,c,L⟩:=m
 simp only at hI
 have hb:=below_alloc (Below.refl w.heap.size w) (.cells #[.int .i64 k,.int .i64 f,.int .i64 t,.int .u64 id,.int .u64 n,.slice A L.length c] 33)
 have HMAY0:=hide (fun h=>may_any A c L _ h (hI.below hb))
 have HB:=hide hb
 clear hI hb
 show Calls Tryz.prog 8 #[.agg #[.int .i64 k,.int .i64 f,.int .i64 t,.int .u64 id,.int .u64 n,.slice A L.length c]] w _
 obtain ⟨l,hll⟩:∃ l,L.length=l:=⟨_,rfl⟩
 have HLL:=hide hll
 rw [hll] at HMAY0 HB ⊢
 clear hll
 by_cases h0:k < 1
 · have e0:¬ 1≤k:=by omega
   have d0:decide (k < 1)=true:=decide_eq_true h0
   have HV:Hid (mokB ⟨k,f,t,id,n,A,c,L⟩=false):=hide (by unfold mokB;simp [nodeB,HLL.out,e0])
   rw [HV.out]
   go_enter Tryz.func8,Tryz.ntmps8
   go_wp2_with fail
   go_ret
   exact ⟨rfl,HB.out⟩
 have e0:1≤k:=by omega
 by_cases h1:10 < k
 · have e1:¬ k≤10:=by omega
   have d1:decide (10 < k)=true:=decide_eq_true h1
   have HV:Hid (mokB ⟨k,f,t,id,n,A,c,L⟩=false):=hide (by unfold mokB;simp [nodeB,HLL.out,e0,e1])
   rw [HV.out]
   go_enter Tryz.func8,Tryz.ntmps8
   go_wp2_with fail
   go_ret
   exact ⟨rfl,HB.out⟩
 have e1:k≤10:=by omega
 by_cases h2:f < 0
 · have e2:¬ 0≤f:=by omega
   have d2:decide (f < 0)=true:=decide_eq_true h2
   have HV:Hid (mokB ⟨k,f,t,id,n,A,c,L⟩=false):=hide (by unfold mokB;simp [nodeB,HLL.out,e0,e1,e2])
   rw [HV.out]
   go_enter Tryz.func8,Tryz.ntmps8
   go_wp2_with fail
   go_ret
   exact ⟨rfl,HB.out⟩
 have e2:0≤f:=by omega
 by_cases h3:6 < f
 · have e3:¬ f < 7:=by omega
   have d3:decide (6 < f)=true:=decide_eq_true h3
   have HV:Hid (mokB ⟨k,f,t,id,n,A,c,L⟩=false):=hide (by unfold mokB;simp [nodeB,HLL.out,e0,e1,e2,e3])
   rw [HV.out]
   go_enter Tryz.func8,Tryz.ntmps8
   go_wp2_with fail
   go_ret
   exact ⟨rfl,HB.out⟩
 have e3:f < 7:=by omega
 by_cases h4:t < 0
 · have e4:¬ 0≤t:=by omega
   have d4:decide (t < 0)=true:=decide_eq_true h4
   have HV:Hid (mokB ⟨k,f,t,id,n,A,c,L⟩=false):=hide (by unfold mokB;simp [nodeB,HLL.out,e0,e1,e2,e3,e4])
   rw [HV.out]
   go_enter Tryz.func8,Tryz.ntmps8
   go_wp2_with fail
   go_ret
   exact ⟨rfl,HB.out⟩
 have e4:0≤t:=by omega
 by_cases h5:6 < t
 · have e5:¬ t < 7:=by omega
   have d5:decide (6 < t)=true:=decide_eq_true h5
   have HV:Hid (mokB ⟨k,f,t,id,n,A,c,L⟩=false):=hide (by unfold mokB;simp [nodeB,HLL.out,e0,e1,e2,e3,e4,e5])
   rw [HV.out]
   go_enter Tryz.func8,Tryz.ntmps8
   go_wp2_with fail
   go_ret
   exact ⟨rfl,HB.out⟩
 have e5:t < 7:=by omega
 by_cases h6:1099511627776 < id
 · have e6:¬ id≤1099511627776:=by omega
   have d6:decide (1099511627776 < id)=true:=decide_eq_true h6
   have HV:Hid (mokB ⟨k,f,t,id,n,A,c,L⟩=false):=hide (by unfold mokB;simp [nodeB,HLL.out,e0,e1,e2,e3,e4,e5,e6])
   rw [HV.out]
   go_enter Tryz.func8,Tryz.ntmps8
   go_wp2_with fail
   go_ret
   exact ⟨rfl,HB.out⟩
 have e6:id≤1099511627776:=by omega
 by_cases h7:281474976710656 < n
 · have e7:¬ n≤281474976710656:=by omega
   have d7:decide (281474976710656 < n)=true:=decide_eq_true h7
   have HV:Hid (mokB ⟨k,f,t,id,n,A,c,L⟩=false):=hide (by unfold mokB;simp [nodeB,HLL.out,e0,e1,e2,e3,e4,e5,e6,e7])
   rw [HV.out]
   go_enter Tryz.func8,Tryz.ntmps8
   go_wp2_with fail
   go_ret
   exact ⟨rfl,HB.out⟩
 have e7:n≤281474976710656:=by omega
 by_cases h8:1500 < l
 · have h8I:(1500:Int) < (l:Int):=by omega
   have e8:¬ l≤1500:=by omega
   have HV:Hid (mokB ⟨k,f,t,id,n,A,c,L⟩=false):=hide (by unfold mokB;simp [nodeB,HLL.out,e0,e1,e2,e3,e4,e5,e6,e7,e8])
   rw [HV.out]
   go_enter Tryz.func8,Tryz.ntmps8
   go_wp2_with fail
   go_ret
   exact ⟨rfl,HB.out⟩
 have h8I:¬ (1500:Int) < (l:Int):=by omega
 have e8:l≤1500:=by omega
 have HMAY:=hide (HMAY0.out (by omega))
 by_cases h9:l=0
 · subst h9
   cases h10:L.all goodB with
   | true =>
     rw [h10,show mayE true=0 from rfl] at HMAY
     have HV:Hid (mokB ⟨k,f,t,id,n,A,c,L⟩=true):=hide (by unfold mokB;simp [nodeB,HLL.out,e0,e1,e2,e3,e4,e5,e6,e7,h10])
     rw [HV.out]
     go_enter Tryz.func8,Tryz.ntmps8
     go_wp2_with (go_at_call 24;refine (Calls.mono HMAY.out ?_);rintro e w2 ⟨rfl,hb2⟩;have HB2:=hide (below_step HB.out hb2);clear hb2)
     go_ret
     exact ⟨rfl,HB2.out⟩
   | false =>
     rw [h10,show mayE false=1 from rfl] at HMAY
     have HV:Hid (mokB ⟨k,f,t,id,n,A,c,L⟩=false):=hide (by unfold mokB;simp [nodeB,HLL.out,e0,e1,e2,e3,e4,e5,e6,e7,h10])
     rw [HV.out]
     go_enter Tryz.func8,Tryz.ntmps8
     go_wp2_with (go_at_call 24;refine (Calls.mono HMAY.out ?_);rintro e w2 ⟨rfl,hb2⟩;have HB2:=hide (below_step HB.out hb2);clear hb2)
     go_ret
     exact ⟨rfl,HB2.out⟩
 have h9I:(0:Int) < (l:Int):=by omega
 have h9N:0 < l:=by omega
 by_cases h11:k=1 ∨ k=5 ∨ k=7 ∨ k=8
 · rcases h11 with rfl | rfl | rfl | rfl
   · have HW:Hid (withB 1=true):=hide rfl
     cases h10:L.all goodB with
     | true =>
       rw [h10,show mayE true=0 from rfl] at HMAY
       have HV:Hid (mokB ⟨1,f,t,id,n,A,c,L⟩=true):=hide (by unfold mokB;simp [nodeB,HLL.out,e2,e3,e4,e5,e6,e7,e8,h9,h10,HW.out])
       rw [HV.out]
       go_enter Tryz.func8,Tryz.ntmps8
       go_wp2_with (go_at_call 24;refine (Calls.mono HMAY.out ?_);rintro e w2 ⟨rfl,hb2⟩;have HB2:=hide (below_step HB.out hb2);clear hb2)
       go_ret
       exact ⟨rfl,HB2.out⟩
     | false =>
       rw [h10,show mayE false=1 from rfl] at HMAY
       have HV:Hid (mokB ⟨1,f,t,id,n,A,c,L⟩=false):=hide (by unfold mokB;simp [nodeB,HLL.out,e2,e3,e4,e5,e6,e7,e8,h9,h10,HW.out])
       rw [HV.out]
       go_enter Tryz.func8,Tryz.ntmps8
       go_wp2_with (go_at_call 24;refine (Calls.mono HMAY.out ?_);rintro e w2 ⟨rfl,hb2⟩;have HB2:=hide (below_step HB.out hb2);clear hb2)
       go_ret
       exact ⟨rfl,HB2.out⟩
   · have HW:Hid (withB 5=true):=hide rfl
     cases h10:L.all goodB with
     | true =>
       rw [h10,show mayE true=0 from rfl] at HMAY
       have HV:Hid (mokB ⟨5,f,t,id,n,A,c,L⟩=true):=hide (by unfold mokB;simp [nodeB,HLL.out,e2,e3,e4,e5,e6,e7,e8,h9,h10,HW.out])
       rw [HV.out]
       go_enter Tryz.func8,Tryz.ntmps8
       go_wp2_with (go_at_call 24;refine (Calls.mono HMAY.out ?_);rintro e w2 ⟨rfl,hb2⟩;have HB2:=hide (below_step HB.out hb2);clear hb2)
       go_ret
       exact ⟨rfl,HB2.out⟩
     | false =>
       rw [h10,show mayE false=1 from rfl] at HMAY
       have HV:Hid (mokB ⟨5,f,t,id,n,A,c,L⟩=false):=hide (by unfold mokB;simp [nodeB,HLL.out,e2,e3,e4,e5,e6,e7,e8,h9,h10,HW.out])
       rw [HV.out]
       go_enter Tryz.func8,Tryz.ntmps8
       go_wp2_with (go_at_call 24;refine (Calls.mono HMAY.out ?_);rintro e w2 ⟨rfl,hb2⟩;have HB2:=hide (below_step HB.out hb2);clear hb2)
       go_ret
       exact ⟨rfl,HB2.out⟩
   · have HW:Hid (withB 7=true):=hide rfl
     cases h10:L.all goodB with
     | true =>
       rw [h10,show mayE true=0 from rfl] at HMAY
       have HV:Hid (mokB ⟨7,f,t,id,n,A,c,L⟩=true):=hide (by unfold mokB;simp [nodeB,HLL.out,e2,e3,e4,e5,e6,e7,e8,h9,h10,HW.out])
       rw [HV.out]
       go_enter Tryz.func8,Tryz.ntmps8
       go_wp2_with (go_at_call 24;refine (Calls.mono HMAY.out ?_);rintro e w2 ⟨rfl,hb2⟩;have HB2:=hide (below_step HB.out hb2);clear hb2)
       go_ret
       exact ⟨rfl,HB2.out⟩
     | false =>
       rw [h10,show mayE false=1 from rfl] at HMAY
       have HV:Hid (mokB ⟨7,f,t,id,n,A,c,L⟩=false):=hide (by unfold mokB;simp [nodeB,HLL.out,e2,e3,e4,e5,e6,e7,e8,h9,h10,HW.out])
       rw [HV.out]
       go_enter Tryz.func8,Tryz.ntmps8
       go_wp2_with (go_at_call 24;refine (Calls.mono HMAY.out ?_);rintro e w2 ⟨rfl,hb2⟩;have HB2:=hide (below_step HB.out hb2);clear hb2)
       go_ret
       exact ⟨rfl,HB2.out⟩
   · have HW:Hid (withB 8=true):=hide rfl
     cases h10:L.all goodB with
     | true =>
       rw [h10,show mayE true=0 from rfl] at HMAY
       have HV:Hid (mokB ⟨8,f,t,id,n,A,c,L⟩=true):=hide (by unfold mokB;simp [nodeB,HLL.out,e2,e3,e4,e5,e6,e7,e8,h9,h10,HW.out])
       rw [HV.out]
       go_enter Tryz.func8,Tryz.ntmps8
       go_wp2_with (go_at_call 24;refine (Calls.mono HMAY.out ?_);rintro e w2 ⟨rfl,hb2⟩;have HB2:=hide (below_step HB.out hb2);clear hb2)
       go_ret
       exact ⟨rfl,HB2.out⟩
     | false =>
       rw [h10,show mayE false=1 from rfl] at HMAY
       have HV:Hid (mokB ⟨8,f,t,id,n,A,c,L⟩=false):=hide (by unfold mokB;simp [nodeB,HLL.out,e2,e3,e4,e5,e6,e7,e8,h9,h10,HW.out])
       rw [HV.out]
       go_enter Tryz.func8,Tryz.ntmps8
       go_wp2_with (go_at_call 24;refine (Calls.mono HMAY.out ?_);rintro e w2 ⟨rfl,hb2⟩;have HB2:=hide (below_step HB.out hb2);clear hb2)
       go_ret
       exact ⟨rfl,HB2.out⟩
 · have hw:withB k=false:=by unfold withB;simp;omega
   have b1:(k != 1)=true:=by rw [bne_iff_ne];omega
   have b2:(k != 5)=true:=by rw [bne_iff_ne];omega
   have b3:(k != 7)=true:=by rw [bne_iff_ne];omega
   have b4:(k != 8)=true:=by rw [bne_iff_ne];omega
   clear h11
   have HV:Hid (mokB ⟨k,f,t,id,n,A,c,L⟩=false):=hide (by unfold mokB;simp [nodeB,HLL.out,e0,e1,e2,e3,e4,e5,e6,e7,e8,h9,hw])
   rw [HV.out]
   go_enter Tryz.func8,Tryz.ntmps8
   go_wp2_with fail
   go_ret
   exact ⟨rfl,HB.out⟩
end Go.Proofs.YtgmkckjedngkdaaGreatDoor
