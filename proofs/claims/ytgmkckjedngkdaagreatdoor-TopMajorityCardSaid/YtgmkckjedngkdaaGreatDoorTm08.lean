/- A part of the proof that TopMajorityLaw holds: XIdx, XCon, XHeld, XJ. Conditions: as typed. -/
import Derived.Test.YtgmkckjedngkdaaGreatDoorTm01
import Derived.Deep.RegionHeld3
import Derived.Maps.RangeWalk
set_option linter.unusedVariables false
set_option linter.unusedSimpArgs false
namespace Go.Proofs.YtgmkckjedngkdaaGreatDoor
open Go.ChangeShapes Go.WideShapes Go.ChangeAt Go.RowKit
def findI (p:It→Bool) (L:List It):Int:=match L.findIdx? p with | some i=>i | none=>-1
theorem findI_hit {p:It→Bool} {L:List It} {k:Nat} (hk:k < L.length) (h:∀ j (_:j < k) (hj':j < L.length),p L[j]=false) (hp:p L[k]=true):findI p L=k:=by
 have e:L.findIdx? p=some k:=by
  rw [List.findIdx?_eq_some_iff_getElem]
  exact ⟨hk,hp,fun j hj=>by simp [h j hj (by omega)]⟩
 simp [findI,e]
theorem findI_miss {p:It→Bool} {L:List It} (h:∀ j (hj':j < L.length),p L[j]=false):findI p L=-1:=by
 have e:L.findIdx? p=none:=by
  rw [List.findIdx?_eq_none_iff]
  intro x hx
  obtain ⟨j,hj,rfl⟩:=List.getElem_of_mem hx
  exact h j hj
 simp [findI,e]
theorem miss_snoc {p:It→Bool} {L:List It} {k:Nat} {hk:k < L.length} (h:∀ j (_:j < k) (hj':j < L.length),p L[j]=false) (hp:p L[k]=false):∀ j (_:j < k+1) (hj':j < L.length),p L[j]=false:=by
 intro j hj hj'
 by_cases e:j=k
 ·subst e;exact hp
 ·exact h j (by omega) hj'
def Tells (F:FuncId) (caps:Array Value) (p:It→Bool) (L:List It) (w:World):Prop :=
 ∀ x ∈ L,∀ w1,Below w.heap.size w w1→Calls Tryz.prog F (#[x.val] ++ caps) w1 fun e w2=>e=.returned (.bool (p x))∧Below w1.heap.size w1 w2
set_option maxHeartbeats 400000 in
theorem index_any (F:FuncId) (caps:Array Value) (hcf:Enters Tryz.prog F) (p:It→Bool) (A:Option Addr) (c:Nat) (L:List It) (w:World) (hl:L.length≤9223372036854775807) (hL:ItemsAt w A L)
 (hF:Tells F caps p L w) :
  Calls Tryz.prog 158 #[.slice A L.length c,.func (.func F) #[] caps] w fun e w'=>e=.returned (.int .i64 (findI p L))∧Below w.heap.size w w':=by
 unfold Enters at hcf
 unfold Tells at hF
 go_enter Tryz.func158,Tryz.ntmps158
 go_wp2
 go_loopw [5,8] (fun _ i wr=>∃ k:Nat,k≤L.length∧i=.int .i64 k∧Below w.heap.size w wr∧∀ j (hj:j < k) (hj':j < L.length),p L[j]=false) (fun _ i _=>L.length - (intOf i).toNat)
 case atStart=>exact ⟨0,by omega,rfl,Below.refl _ _,by intro j hj;omega⟩
 case round =>
  obtain ⟨k,hk,rfl,hb,hp⟩:=hrel
  have HP:=hide hp
  clear hp
  by_cases hlt:k < L.length
  ·obtain ⟨b,off,rfl,hbb,c0,c1,c2,c3,c4⟩:=hL.item hb hlt
   have hFk:=hF L[k] (List.getElem_mem _) wr hb
   have HF:=hide hFk
   clear hFk hF
   cases hpk:p L[k]
   ·have HN:=hide (miss_snoc HP.out hpk)
    go_wp2_with (refine (Calls.mono HF.out ?_);rintro e w1 ⟨rfl,hg1⟩;try rw [hpk])
    go_roundw
    case rel=>exact ⟨k+1,by omega,by go_num,hb.trans (hg1.mono hb.size),HN.out⟩
    case measure=>simp [intOf];omega
   ·have HM:=hide (findI_hit hlt HP.out hpk)
    go_wp2_with (refine (Calls.mono HF.out ?_);rintro e w1 ⟨rfl,hg1⟩;try rw [hpk])
    go_ret
    exact ⟨by rw [HM.out];rfl,hb.trans (hg1.mono hb.size)⟩
  ·have HM:=hide (findI_miss (fun j hj=>HP.out j (by omega) hj))
   go_wp2
   go_ret
   exact ⟨by rw [HM.out];rfl,hb⟩
end Go.Proofs.YtgmkckjedngkdaaGreatDoor
namespace Go.Proofs.YtgmkckjedngkdaaGreatDoor
open Go.ChangeShapes Go.WideShapes Go.ChangeAt Go.RowKit
def anyI (p:It→Bool) (L:List It):Bool:=L.any p
theorem findI_any (p:It→Bool) (L:List It):decide (0≤findI p L)=anyI p L:=by
 unfold findI anyI
 cases h:L.findIdx? p with
 | none =>
  rw [List.findIdx?_eq_none_iff] at h
  simp
  intro x hx;simp [h x hx]
 | some i =>
  rw [List.findIdx?_eq_some_iff_getElem] at h
  obtain ⟨hi,hp,_⟩:=h
  simp
  exact ⟨_,List.getElem_mem hi,hp⟩
set_option maxHeartbeats 400000 in
theorem contains_any (F:FuncId) (caps:Array Value) (hcf:Enters Tryz.prog F) (p:It→Bool) (A:Option Addr) (c:Nat) (L:List It) (w:World) (hl:L.length≤9223372036854775807) (hL:ItemsAt w A L)
 (hF:Tells F caps p L w) :
  Calls Tryz.prog 78 #[.slice A L.length c,.func (.func F) #[] caps] w fun e w'=>e=.returned (.bool (anyI p L))∧Below w.heap.size w w':=by
 have H:=hide (index_any F caps hcf p A c L w hl hL hF)
 have HE:=hide (findI_any p L)
 clear hF hL
 generalize findI p L=q at *
 generalize anyI p L=r at *
 go_enter Tryz.func78,Tryz.ntmps78
 go_wp2_with (refine (Calls.mono H.out ?_);rintro e w1 ⟨rfl,hg1⟩)
 go_ret
 exact ⟨by rw [← HE.out];rfl,hg1⟩
end Go.Proofs.YtgmkckjedngkdaaGreatDoor
namespace Go.Proofs.YtgmkckjedngkdaaGreatDoor
open Go.ChangeShapes Go.WideShapes Go.ChangeAt Go.RowKit
section
variable {P:Program} {ops:Array Oper} {Q:Exit→Act→World→Prop} {md:Region.Mode}
def Bel (u:World):World→Prop:=fun w'=>Below u.heap.size u w'
end
end Go.Proofs.YtgmkckjedngkdaaGreatDoor
namespace Go.Proofs.YtgmkckjedngkdaaGreatDoor
open Go.ChangeShapes Go.WideShapes Go.ChangeAt Go.RowKit
section
variable {P:Program} {ops:Array Oper} {Q:Exit→Act→World→Prop} {md:Region.Mode} {F:List Nat} {S:World→Prop}
def wpAnyJ (P:Program) (md:Region.Mode) (ops:Array Oper) (Q:Exit→Act→World→Prop) (F:List Nat) (S:World→Prop):Nat→Array Bool→Act→World→Prop
 | 0,listed,a,w=>Region.ready md ops listed=[]∧Q .normal a w
 | fuel+1,listed,a,w =>
  (Region.ready md ops listed=[]→Q .normal a w) ∧
  ∀ i ∈ Region.ready md ops listed,wpOp P ops Q i (fun a' w'=>(F.contains i=false→S w')∧wpAnyJ P md ops Q F S fuel (listed.setIfInBounds i true) a' w') a w
theorem wpAny_of_J:∀ (fuel:Nat) (listed:Array Bool) (a:Act) (w:World),wpAnyJ P md ops Q F S fuel listed a w→wpAny P md ops Q fuel listed a w
 | 0,_,_,_,h=>h
 | fuel+1,_,_,_,h=>⟨h.1,fun i hi=>wpOp_mono (fun a' w' h'=>wpAny_of_J fuel _ a' w' h'.2) (h.2 i hi)⟩
theorem wpAnyJ_mono {S S':World→Prop} (h:∀ w,S' w→S w):∀ (fuel:Nat) (listed:Array Bool) (a:Act) (w:World),wpAnyJ P md ops Q F S' fuel listed a w→wpAnyJ P md ops Q F S fuel listed a w
 | 0,_,_,_,h0=>h0
 | fuel+1,_,_,_,h0=>⟨h0.1,fun i hi=>wpOp_mono (fun a' w' h'=>⟨fun hf=>h _ (h'.1 hf),wpAnyJ_mono h fuel _ a' w' h'.2⟩) (h0.2 i hi)⟩
def laterB (md:Region.Mode) (ops:Array Oper) (listed:Array Bool) (i:Nat) (D:List Nat):Bool :=
 D.all fun j=>!(listed.getD j true) && match ops[j]? with
  | some o=>o.after.any fun e=>Region.binds md e && (e.on == i || D.contains e.on)
  | none=>false
theorem wpAnyJ_first {i:Nat} {oi:Oper} {v:Value} {D:List Nat} (hi:ops[i]? = some oi) (hsel:∀ (j:Nat) (o:Oper) cs b,ops[j]? = some o→o.op ≠ .select cs b)
 (hQ:∀ c a w,Q (.panic c) (a.put oi.dst v) w→Q (.panic c) a w) :
 ∀ (fuel:Nat) (listed:Array Bool) (a:Act) (w:World),
  (∀ j oj,ops[j]? = some oj→j ≠ i→listed.getD j true=false→(∀ e ∈ oj.after,Region.binds md e=true→e.on ≠ i)→oi.apart ops oj=true) →
  laterB md ops listed i D=true→(∀ j ∈ F,listed.getD j true=true ∨ j ∈ D) →
  i ∈ Region.ready md ops listed→YieldsIf P ops S oi v a→S w →
  wpAnyJ P md ops Q F S fuel (listed.setIfInBounds i true) (a.put oi.dst v) w→wpAnyJ P md ops Q F S (fuel+1) listed a w:=by
 intro fuel
 induction fuel with
 | zero =>
  intro listed a w _ _ _ hr hy hS H
  refine ⟨fun h=>(by rw [h] at hr;cases hr),fun j hj=>?_⟩
  by_cases hji:j=i
  ·subst hji;exact hy.wpOp hi hS ⟨fun _=>hS,H⟩
  ·have:=ready_mono hj hji
   rw [H.1] at this
   cases this
 | succ fuel ih =>
  intro listed a w hfree hD hF hr hy hS H
  refine ⟨fun h=>(by rw [h] at hr;cases hr),fun j hj=>?_⟩
  by_cases hji:j=i
  ·subst hji;exact hy.wpOp hi hS ⟨fun _=>hS,H⟩
  ·have h1:=H.2 j (ready_mono hj hji)
   obtain ⟨hjun,oj,hoj,hall⟩:=mem_ready.1 hj
   have hun:∀ k,listed.getD k true=false→∀ e ∈ oj.after,Region.binds md e=true→e.on ≠ k:=fun k h0 e he hb heq=>by
    have h1:=hall e he hb
    rw [heq] at h1
    rcases Nat.lt_or_ge k listed.size with h' | h'
    ·simp [h'] at h0 h1;rw [h0] at h1;cases h1
    ·simp [Array.getElem?_eq_none h'] at h1
   have hDu:∀ k ∈ D,listed.getD k true=false:=fun k hk=>by
    have:=(List.all_eq_true.1 hD) k hk
    simp only [Bool.and_eq_true,Bool.not_eq_true'] at this
    exact this.1
   have hnot:=hun i (mem_ready.1 hr).1
   have hjD:j ∉ D:=fun hm=>by
    have:=(List.all_eq_true.1 hD) j hm
    simp only [hoj,Bool.and_eq_true,List.any_eq_true,Array.any_eq_true',Bool.or_eq_true,beq_iff_eq,List.contains_iff_mem] at this
    obtain ⟨_,e,he,hb,ho⟩:=this
    rcases ho with ho | ho
    ·exact hnot e he hb ho
    ·exact hun e.on (hDu _ ho) e he hb rfl
   have hjF:F.contains j=false:=by
    rw [Bool.eq_false_iff]
    intro hc
    rcases hF j (by simpa using hc) with h | h
    ·rw [hjun] at h;cases h
    ·exact hjD h
   have h2:=wpOp_putIf hoj (hfree j oj hoj hji hjun hnot) (fun cs b=>hsel i oi cs b hi) (fun cs b=>hsel j oj cs b hoj) hQ hy h1
   have hget:∀ k,j ≠ k→(listed.setIfInBounds j true).getD k true=listed.getD k true:=fun k hk=>getD_set_ne true hk
   have hfree':∀ k ok,ops[k]? = some ok→k ≠ i→(listed.setIfInBounds j true).getD k true=false →
    (∀ e ∈ ok.after,Region.binds md e=true→e.on ≠ i)→oi.apart ops ok=true:=fun k ok hk hki hun hno=>by
    refine hfree k ok hk hki ?_ hno
    by_cases hjk:j=k
    ·subst hjk;exact hjun
    ·rw [getD_set_ne true hjk] at hun;exact hun
   have hD':laterB md ops (listed.setIfInBounds j true) i D=true:=by
    refine List.all_eq_true.2 fun k hk=>?_
    have:=(List.all_eq_true.1 hD) k hk
    rw [hget k (fun e=>hjD (e ▸ hk))]
    exact this
   have hF':∀ k ∈ F,(listed.setIfInBounds j true).getD k true=true ∨ k ∈ D:=fun k hk=>by
    rcases hF k hk with h | h
    ·by_cases hjk:j=k
     ·subst hjk;rw [hjun] at h;cases h
     ·exact .inl ((hget k hjk).trans h)
    ·exact .inr h
   refine wpOp_mono (fun a' w' h3=>⟨h3.2.1,ih (listed.setIfInBounds j true) a' w' hfree' hD' hF' (ready_mono hr (Ne.symm hji)) h3.1 (h3.2.1 hjF) ?_⟩) h2
   rw [Array.setIfInBounds_comm _ _ hji]
   exact h3.2.2
theorem wpAnyJ_firstW {i:Nat} {oi:Oper} {v:Value} (hi:ops[i]? = some oi) (hiF:F.contains i=true) (hsel:∀ (j:Nat) (o:Oper) cs b,ops[j]? = some o→o.op ≠ .select cs b)
 (hQ:∀ c a w,Q (.panic c) (a.put oi.dst v) w→Q (.panic c) a w) :
 ∀ (fuel:Nat) (listed:Array Bool) (a:Act) (w:World),
  (∀ j oj,ops[j]? = some oj→j ≠ i→listed.getD j true=false→(∀ e ∈ oj.after,Region.binds md e=true→e.on ≠ i)→oi.apart ops oj=true) →
  i ∈ Region.ready md ops listed→YieldsIf P ops (fun _=>True) oi v a →
  wpAnyJ P md ops Q F S fuel (listed.setIfInBounds i true) (a.put oi.dst v) w→wpAnyJ P md ops Q F S (fuel+1) listed a w:=by
 have hno:F.contains i=false→False:=fun h=>by rw [hiF] at h;cases h
 intro fuel
 induction fuel with
 | zero =>
  intro listed a w _ hr hy H
  refine ⟨fun h=>(by rw [h] at hr;cases hr),fun j hj=>?_⟩
  by_cases hji:j=i
  ·subst hji;exact hy.wpOp hi trivial ⟨fun h=>(hno h).elim,H⟩
  ·have:=ready_mono hj hji
   rw [H.1] at this
   cases this
 | succ fuel ih =>
  intro listed a w hfree hr hy H
  refine ⟨fun h=>(by rw [h] at hr;cases hr),fun j hj=>?_⟩
  by_cases hji:j=i
  ·subst hji;exact hy.wpOp hi trivial ⟨fun h=>(hno h).elim,H⟩
  ·have h1:=H.2 j (ready_mono hj hji)
   obtain ⟨hjun,oj,hoj,hall⟩:=mem_ready.1 hj
   have hnot:∀ e ∈ oj.after,Region.binds md e=true→e.on ≠ i:=fun e he hb heq=>by
    have h1:=hall e he hb
    have h0:=(mem_ready.1 hr).1
    rw [heq] at h1
    rcases Nat.lt_or_ge i listed.size with h' | h'
    ·simp [h'] at h0 h1;rw [h0] at h1;cases h1
    ·simp [Array.getElem?_eq_none h'] at h1
   have h2:=wpOp_putIf hoj (hfree j oj hoj hji hjun hnot) (fun cs b=>hsel i oi cs b hi) (fun cs b=>hsel j oj cs b hoj) hQ hy h1
   have hfree':∀ k ok,ops[k]? = some ok→k ≠ i→(listed.setIfInBounds j true).getD k true=false →
    (∀ e ∈ ok.after,Region.binds md e=true→e.on ≠ i)→oi.apart ops ok=true:=fun k ok hk hki hun hno=>by
    refine hfree k ok hk hki ?_ hno
    by_cases hjk:j=k
    ·subst hjk;exact hjun
    ·rw [getD_set_ne true hjk] at hun;exact hun
   refine wpOp_mono (fun a' w' h3=>⟨h3.2.1,ih (listed.setIfInBounds j true) a' w' hfree' (ready_mono hr (Ne.symm hji)) h3.1 ?_⟩) h2
   rw [Array.setIfInBounds_comm _ _ hji]
   exact h3.2.2
theorem wpAnyJ_takeW {i:Nat} {oi:Oper} {v:Value} {fuel:Nat} {listed:Array Bool} {a:Act} {w:World} (hi:ops[i]? = some oi) (hiF:F.contains i=true)
 (hs:Region.noSelect ops=true) (hf:Region.free md ops listed i=true) (hr:(Region.ready md ops listed).contains i=true)
 (hy:YieldsIf P ops (fun _=>True) oi v a)
 (h:wpAnyJ P md ops (NoPanic Q) F S fuel (listed.setIfInBounds i true) (a.put oi.dst v) w):wpAnyJ P md ops (NoPanic Q) F S (fuel+1) listed a w :=
 wpAnyJ_firstW hi hiF (Region.noSelect_spec hs) (fun _ _ _ h=>h) fuel listed a w (Region.free_spec hi hf) (by simpa using hr) hy h
theorem wpAnyJ_take {i:Nat} {oi:Oper} {v:Value} (D:List Nat) {fuel:Nat} {listed:Array Bool} {a:Act} {w:World} (hi:ops[i]? = some oi)
 (hs:Region.noSelect ops=true) (hf:Region.free md ops listed i=true) (hr:(Region.ready md ops listed).contains i=true)
 (hD:laterB md ops listed i D=true) (hF:(F.all fun j=>listed.getD j true || D.contains j)=true)
 (hy:YieldsIf P ops S oi v a) (hS:S w)
 (h:wpAnyJ P md ops (NoPanic Q) F S fuel (listed.setIfInBounds i true) (a.put oi.dst v) w):wpAnyJ P md ops (NoPanic Q) F S (fuel+1) listed a w :=
 wpAnyJ_first hi (Region.noSelect_spec hs) (fun _ _ _ h=>h) fuel listed a w (Region.free_spec hi hf) hD (fun j hj=>by
  have:=(List.all_eq_true.1 hF) j hj
  simpa using this) (by simpa using hr) hy hS h
theorem wpAnyJ_step {i:Nat} {o:Oper} {fuel:Nat} {listed:Array Bool} {a:Act} {w:World} (hr:Region.ready md ops listed=[i]) (ho:ops[i]? = some o)
 (h:∀ K':Act→World→Prop,Shut (∀ a w,S w→wpAnyJ P md ops Q F S fuel (listed.setIfInBounds i true) a w→K' a w)→if Region.wanted o (yielded ops a.tmps)=true then Oper.wp P o a w K' Q else K' (a.put o.dst undef) w):wpAnyJ P md ops Q F S (fuel+1) listed a w:=by
 refine ⟨fun h0=>absurd (hr ▸ h0) (by simp),fun j hj=>?_⟩
 rw [hr,List.mem_singleton] at hj
 subst hj
 exact wpOp_step ho (fun K' hK=>h K' (fun a w hS hW=>hK a w ⟨fun _=>hS,hW⟩))
theorem wpAnyJ_step2 {i j:Nat} {oi oj:Oper} {fuel:Nat} {listed:Array Bool} {a:Act} {w:World} (hr:Region.ready md ops listed=[i,j]) (hoi:ops[i]? = some oi) (hoj:ops[j]? = some oj)
 (h1:∀ K':Act→World→Prop,Shut (∀ a w,S w→wpAnyJ P md ops Q F S fuel (listed.setIfInBounds i true) a w→K' a w)→if Region.wanted oi (yielded ops a.tmps)=true then Oper.wp P oi a w K' Q else K' (a.put oi.dst undef) w)
 (h2:∀ K':Act→World→Prop,Shut (∀ a w,S w→wpAnyJ P md ops Q F S fuel (listed.setIfInBounds j true) a w→K' a w)→if Region.wanted oj (yielded ops a.tmps)=true then Oper.wp P oj a w K' Q else K' (a.put oj.dst undef) w):wpAnyJ P md ops Q F S (fuel+1) listed a w:=by
 refine ⟨fun h0=>absurd (hr ▸ h0) (by simp),fun k hk=>?_⟩
 rw [hr] at hk
 rcases List.mem_cons.1 hk with rfl | hk
 ·exact wpOp_step hoi (fun K' hK=>h1 K' (fun a w hS hW=>hK a w ⟨fun _=>hS,hW⟩))
 ·rw [List.mem_singleton] at hk
  subst hk
  exact wpOp_step hoj (fun K' hK=>h2 K' (fun a w hS hW=>hK a w ⟨fun _=>hS,hW⟩))
theorem wpAnyJ_last {i:Nat} {o:Oper} {fuel:Nat} {listed:Array Bool} {a:Act} {w:World} (hr:Region.ready md ops listed=[i]) (ho:ops[i]? = some o) (hF:F.contains i=true)
 (h:∀ K':Act→World→Prop,Shut (∀ a w,wpAnyJ P md ops Q F S fuel (listed.setIfInBounds i true) a w→K' a w)→if Region.wanted o (yielded ops a.tmps)=true then Oper.wp P o a w K' Q else K' (a.put o.dst undef) w):wpAnyJ P md ops Q F S (fuel+1) listed a w:=by
 refine ⟨fun h0=>absurd (hr ▸ h0) (by simp),fun j hj=>?_⟩
 rw [hr,List.mem_singleton] at hj
 subst hj
 exact wpOp_step ho (fun K' hK=>h K' (fun a w hW=>hK a w ⟨fun hn=>(by rw [hF] at hn;cases hn),hW⟩))
theorem wpAnyJ_done {listed:Array Bool} {a:Act} {w:World} (hr:Region.ready md ops listed=[]) (h:Q .normal a w):∀ fuel,wpAnyJ P md ops Q F S fuel listed a w
 | 0=>⟨hr,h⟩
 | _+1=>⟨fun _=>h,by rw [hr];simp⟩
theorem j_start (F:List Nat) {id:Nat} {a:Act} {w:World} (hm:P.follows .mixedOrders=true) (h:wpAnyJ P .any ops (NoPanic Q) F (Bel w.drew) ops.size (Array.replicate ops.size false) a w.drew):(Code.region id ops true).wp P Q a w :=
 wp_region_noPanic (wp_region_any hm (wpAny_of_J _ _ _ _ h))
theorem j_take {i:Nat} {oi:Oper} {v:Value} (D:List Nat) {fuel:Nat} {listed:Array Bool} {a:Act} {u:World} (hi:ops[i]? = some oi)
 (hs:Region.noSelect ops=true) (hf:Region.free md ops listed i=true) (hr:(Region.ready md ops listed).contains i=true)
 (hD:laterB md ops listed i D=true) (hF:(F.all fun j=>listed.getD j true || D.contains j)=true)
 (hy:YieldsIf P ops (Bel u) oi v a)
 (h:wpAnyJ P md ops (NoPanic Q) F (Bel u) fuel (listed.setIfInBounds i true) (a.put oi.dst v) u):wpAnyJ P md ops (NoPanic Q) F (Bel u) (fuel+1) listed a u :=
 wpAnyJ_take D hi hs hf hr hD hF hy (Below.refl _ _) h
theorem j_switch {u u':World} (hb:Below u.heap.size u u') {fuel:Nat} {listed:Array Bool} {a:Act} (h:wpAnyJ P md ops Q F (Bel u') fuel listed a u'):wpAnyJ P md ops Q F (Bel u) fuel listed a u' :=
 wpAnyJ_mono (fun _ hw=>below_step hb hw) fuel listed a u' h
end
end Go.Proofs.YtgmkckjedngkdaaGreatDoor
namespace Go.Proofs.YtgmkckjedngkdaaGreatDoor
open Go.ChangeShapes Go.WideShapes Go.ChangeAt Go.RowKit
section
variable {P:Program} {ops:Array Oper} {Q:Exit→Act→World→Prop} {md:Region.Mode} {F:List Nat} {S:World→Prop}
theorem at_list {i:Nat} {o:Oper} (h:ops.toList[i]? = some o):ops[i]? = some o:=by simpa using h
theorem j_th (i:Nat) (D:List Nat) {oi:Oper} {v:Value} {fuel:Nat} {listed:Array Bool} {a:Act} {w:World} (hi:ops.toList[i]? = some oi)
 (hb:(Region.noSelect ops && Region.free md ops listed i && (Region.ready md ops listed).contains i && laterB md ops listed i D && (F.all fun j=>listed.getD j true || D.contains j))=true)
 (hw:Region.wanted oi (yielded ops a.tmps)=true) (hy:∀ w,S w→(execOp a.eval oi).run P w=.ok (.value v) w) (hS:S w)
 (h:wpAnyJ P md ops (NoPanic Q) F S fuel (listed.setIfInBounds i true) (a.put oi.dst v) w):wpAnyJ P md ops (NoPanic Q) F S (fuel+1) listed a w:=by
 simp only [Bool.and_eq_true] at hb
 exact wpAnyJ_take D (at_list hi) hb.1.1.1.1 hb.1.1.1.2 hb.1.1.2 hb.1.2 hb.2 (Or.inl ⟨hw,hy⟩) hS h
theorem j_t (i:Nat) (D:List Nat) {oi:Oper} {v:Value} {fuel:Nat} {listed:Array Bool} {a:Act} {u:World} (hi:ops.toList[i]? = some oi)
 (hb:(Region.noSelect ops && Region.free md ops listed i && (Region.ready md ops listed).contains i && laterB md ops listed i D && (F.all fun j=>listed.getD j true || D.contains j))=true)
 (hw:Region.wanted oi (yielded ops a.tmps)=true) (hy:∀ w,Bel u w→(execOp a.eval oi).run P w=.ok (.value v) w)
 (h:wpAnyJ P md ops (NoPanic Q) F (Bel u) fuel (listed.setIfInBounds i true) (a.put oi.dst v) u):wpAnyJ P md ops (NoPanic Q) F (Bel u) (fuel+1) listed a u :=
 j_th i D hi hb hw hy (Below.refl _ _) h
theorem j_tw (i:Nat) {oi:Oper} {v:Value} {fuel:Nat} {listed:Array Bool} {a:Act} {w:World} (hi:ops.toList[i]? = some oi)
 (hb:(F.contains i && Region.noSelect ops && Region.free md ops listed i && (Region.ready md ops listed).contains i)=true)
 (hw:Region.wanted oi (yielded ops a.tmps)=true) (hy:∀ w,True→(execOp a.eval oi).run P w=.ok (.value v) w)
 (h:wpAnyJ P md ops (NoPanic Q) F S fuel (listed.setIfInBounds i true) (a.put oi.dst v) w):wpAnyJ P md ops (NoPanic Q) F S (fuel+1) listed a w:=by
 simp only [Bool.and_eq_true] at hb
 exact wpAnyJ_takeW (at_list hi) hb.1.1.1 hb.1.1.2 hb.1.2 hb.2 (Or.inl ⟨hw,hy⟩) h
theorem j_s (i:Nat) {o:Oper} {fuel:Nat} {listed:Array Bool} {a:Act} {w:World} (hr:Region.ready md ops listed=[i]) (ho:ops.toList[i]? = some o)
 (h:∀ K':Act→World→Prop,Shut (∀ a w,S w→wpAnyJ P md ops Q F S fuel (listed.setIfInBounds i true) a w→K' a w)→if Region.wanted o (yielded ops a.tmps)=true then Oper.wp P o a w K' Q else K' (a.put o.dst undef) w):wpAnyJ P md ops Q F S (fuel+1) listed a w :=
 wpAnyJ_step hr (at_list ho) h
theorem j_l (i:Nat) {o:Oper} {fuel:Nat} {listed:Array Bool} {a:Act} {w:World} (hr:Region.ready md ops listed=[i]) (ho:ops.toList[i]? = some o) (hF:F.contains i=true)
 (h:∀ K':Act→World→Prop,Shut (∀ a w,wpAnyJ P md ops Q F S fuel (listed.setIfInBounds i true) a w→K' a w)→if Region.wanted o (yielded ops a.tmps)=true then Oper.wp P o a w K' Q else K' (a.put o.dst undef) w):wpAnyJ P md ops Q F S (fuel+1) listed a w :=
 wpAnyJ_last hr (at_list ho) hF h
end
end Go.Proofs.YtgmkckjedngkdaaGreatDoor
