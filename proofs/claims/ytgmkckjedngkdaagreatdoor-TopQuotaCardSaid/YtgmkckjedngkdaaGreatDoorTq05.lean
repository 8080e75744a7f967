/- A part of the proof that TopQuotaLaw holds: XTSum, XHeld, XJ. Conditions: as typed. -/
import Derived.Test.YtgmkckjedngkdaaGreatDoorTq01
import Derived.Test.YtgmkckjedngkdaaGreatDoorTq02
import Derived.Test.YtgmkckjedngkdaaGreatDoorTq04
import Derived.Deep.RegionHeld3
import Derived.Maps.RangeWalk
set_option linter.unusedVariables false
set_option linter.unusedSimpArgs false
namespace Go.Proofs.YtgmkckjedngkdaaGreatDoor
open Go.ChangeShapes Go.WideShapes Go.ChangeAt Go.RowKit
theorem Tryz.infoU8t:(Tryz.prog.info? 5).map (fun i=>(i.zero,i.size,i.bytes))=some (some (.int .u8 0),1,1):=by kernel_rfl
def putAuxT:Nat→Int→List Int
 | 0,_=>[]
 | f+1,n=>if n < 128 then [n] else bits .or .u8 (n % 256) 128 :: putAuxT f (n / 128)
def putT (n:Int):List Int:=putAuxT 11 n
theorem putAuxT_len (f:Nat) (n:Int):(putAuxT f n).length≤f:=by
 induction f generalizing n with
 | zero=>simp [putAuxT]
 | succ f ih =>
   rw [putAuxT]
   split
   · simp
   · rw [List.length_cons];have:=ih (n / 128);omega
set_option maxHeartbeats 1000000 in
theorem putT_any (A:Option Addr) (c:Nat) (L:List Int) (n:Int) (w:World) (hl:L.length≤1099511627776) (hL:ValsAt u8v w A L) (hn:0≤n∧n < 18446744073709551616) :
   Calls Tryz.prog 221 #[.slice A L.length c,.int .u64 n] w fun e w'=>∃ v,e=.returned v∧OwnL (one1 u8v) 1 5 w.heap.size w' v (L ++ putT n)∧Below w.heap.size w w':=by
 go_enter Tryz.func221,Tryz.ntmps221
 go_wp2_with (at_builtin;refine wpList_append_vals rfl (.const (.slice none 0 0)) (.tmp 6) 173 5 _ 1 rfl Tryz.underlying173 Tryz.infoU8t rfl (fun _=>rfl) (by omega) w.heap.size _ [] rfl (OwnL.nil_ _ _ _ _ _) A c L rfl hL (by simp;omega) (Nat.le_refl _) ?_;intro v1 u1 ho1 hgu1)
 have hgu2:w.grownBy u1 none:=hgu1
 have hb1:Below w.heap.size w u1:=(Below.refl _ _).grown hgu2 (Nat.le_refl _) (fun k hk=>nomatch hk)
 have HO1:=hide ho1
 have HB1:=hide hb1
 clear ho1 hgu1 hgu2 hb1 hL
 rw [List.nil_append] at HO1
 go_loopw [1,5] (fun m v wr=>∃ (f:Nat) (M:List Int) (x:Int),M.length+f=10∧0≤x∧x < 2 ^ (7 * f)∧x < 18446744073709551616∧putT n=M ++ putAuxT (f+1) x∧m=.int .u64 x∧OwnL (one1 u8v) 1 5 w.heap.size wr v (L ++ M)∧Below w.heap.size w wr) (fun m _ _=>(intOf m).toNat)
 case atStart=>exact ⟨10,[],n,rfl,hn.1,Int.lt_trans hn.2 (by decide),hn.2,rfl,rfl,by rw [List.append_nil];exact HO1.out,HB1.out⟩
 case round =>
   obtain ⟨f,M,x,hf,hx0,hx1,hx2,hpe,rfl,ho,hb⟩:=hrel
   clear HO1 HB1
   have HO:=hide ho
   have HB:=hide hb
   have HPE:=hide hpe
   have hbs:=hb.size
   have HX1:=hide hx1
   clear ho hb hpe hx1
   by_cases h128:x < 128
   · have hge:¬ (128≤x):=by omega
     have hxm:x % 256=x:=by omega
     go_wp2_with (at_builtin;refine wpList_append_one rfl (.tmp 18) (.tmp 21) 173 5 _ 1 rfl Tryz.underlying173 Tryz.infoU8t rfl (fun _=>rfl) (by omega) _ _ _ _ _ _ (L ++ M) x rfl rfl rfl HO.out HB.out (Nat.le_refl _) hbs (by rw [List.length_append];omega) ?_;intro v2 u2 ho2 hbu2 hgu2)
     refine bodyPost_ret (v:=v2) (by simp [results,Tryz.results221]) rfl ⟨v2,rfl,?_,hbu2⟩
     rw [HPE.out,show putAuxT (f+1) x=[x] from by rw [putAuxT,if_pos h128],← List.append_assoc]
     exact ho2
   · have hge:128≤x:=by omega
     obtain ⟨y,hy⟩:∃ y,bits .or .u8 (x % 256) 128=y:=⟨_,rfl⟩
     go_wp2_with (at_builtin;refine wpList_append_one rfl (.tmp 12) (.tmp 16) 173 5 _ 1 rfl Tryz.underlying173 Tryz.infoU8t rfl (fun _=>rfl) (by omega) _ _ _ _ _ _ (L ++ M) y rfl rfl rfl HO.out HB.out (Nat.le_refl _) hbs (by rw [List.length_append];omega) ?_;intro v2 u2 ho2 hbu2 hgu2)
     rcases f with _ | f
     · have:=HX1.out
       simp at this
       omega
     have hx3:x / 128 < 2 ^ (7 * f):=by
       apply Int.ediv_lt_of_lt_mul (by decide)
       have h:=HX1.out
       rw [show 7 * (f+1)=7 * f+7 by omega,Int.pow_add] at h
       exact h
     refine ⟨⟨f,M ++ [y],x / 128,by rw [List.length_append,List.length_singleton];omega,by omega,hx3,by omega,?_,rfl,?_,hbu2⟩,by simp [intOf];omega⟩
     · rw [HPE.out,show putAuxT (f+1+1) x=bits .or .u8 (x % 256) 128 :: putAuxT (f+1) (x / 128) from by rw [putAuxT,if_neg h128],hy]
       simp
     · rw [← List.append_assoc];exact ho2
def signT (x:Int):Int:=bits .xor .u64 (IntKind.u64.wrap (IntKind.u64.wrap x * 2)) (IntKind.u64.wrap (x / 9223372036854775808))
theorem sign_any (x:Int) (w:World) (hx:-9223372036854775808≤x∧x≤9223372036854775807):Calls Tryz.prog 319 #[.int .i64 x] w fun e w'=>e=.returned (.int .u64 (signT x))∧w'=w:=by
 go_enter Tryz.func319,Tryz.ntmps319
 go_wp2_with fail
 go_ret
 exact ⟨rfl,rfl⟩
end Go.Proofs.YtgmkckjedngkdaaGreatDoor
namespace Go.Proofs.YtgmkckjedngkdaaGreatDoor
open Go.ChangeShapes Go.WideShapes Go.ChangeAt Go.RowKit
section
variable {P:Program} {ops:Array Oper} {Q:Exit→Act→World→Prop} {md:Region.Mode}
def Bel (u:World):World→Prop:=fun w'=>Below u.heap.size u w'
end
end Go.Proofs.YtgmkckjedngkdaaGreatDoor
namespace Go.Proofs.YtgmkckjedngkdaaGreatDoor
open Go.ChangeShapes Go.WideShapes Go.ChangeAt Go.RowKit
section
variable {P:Program} {ops:Array Oper} {Q:Exit→Act→World→Prop} {md:Region.Mode} {F:List Nat} {S:World→Prop}
def wpAnyJ (P:Program) (md:Region.Mode) (ops:Array Oper) (Q:Exit→Act→World→Prop) (F:List Nat) (S:World→Prop):Nat→Array Bool→Act→World→Prop
 | 0,listed,a,w=>Region.ready md ops listed=[]∧Q .normal a w
 | fuel+1,listed,a,w =>
   (Region.ready md ops listed=[]→Q .normal a w) ∧
   ∀ i ∈ Region.ready md ops listed,wpOp P ops Q i (fun a' w'=>(F.contains i=false→S w')∧wpAnyJ P md ops Q F S fuel (listed.setIfInBounds i true) a' w') a w
theorem wpAny_of_J:∀ (fuel:Nat) (listed:Array Bool) (a:Act) (w:World),wpAnyJ P md ops Q F S fuel listed a w→wpAny P md ops Q fuel listed a w
 | 0,_,_,_,h=>h
 | fuel+1,_,_,_,h=>⟨h.1,fun i hi=>wpOp_mono (fun a' w' h'=>wpAny_of_J fuel _ a' w' h'.2) (h.2 i hi)⟩
theorem wpAnyJ_mono {S S':World→Prop} (h:∀ w,S' w→S w):∀ (fuel:Nat) (listed:Array Bool) (a:Act) (w:World),wpAnyJ P md ops Q F S' fuel listed a w→wpAnyJ P md ops Q F S fuel listed a w
 | 0,_,_,_,h0=>h0
 | fuel+1,_,_,_,h0=>⟨h0.1,fun i hi=>wpOp_mono (fun a' w' h'=>⟨fun hf=>h _ (h'.1 hf),wpAnyJ_mono h fuel _ a' w' h'.2⟩) (h0.2 i hi)⟩
def laterB (md:Region.Mode) (ops:Array Oper) (listed:Array Bool) (i:Nat) (D:List Nat):Bool :=
 D.all fun j=>!(listed.getD j true) && match ops[j]? with
   | some o=>o.after.any fun e=>Region.binds md e && (e.on == i || D.contains e.on)
   | none=>false
theorem wpAnyJ_first {i:Nat} {oi:Oper} {v:Value} {D:List Nat} (hi:ops[i]? = some oi) (hsel:∀ (j:Nat) (o:Oper) cs b,ops[j]? = some o→o.op ≠ .select cs b)
   (hQ:∀ c a w,Q (.panic c) (a.put oi.dst v) w→Q (.panic c) a w) :
   ∀ (fuel:Nat) (listed:Array Bool) (a:Act) (w:World),
     (∀ j oj,ops[j]? = some oj→j ≠ i→listed.getD j true=false→(∀ e ∈ oj.after,Region.binds md e=true→e.on ≠ i)→oi.apart ops oj=true) →
     laterB md ops listed i D=true→(∀ j ∈ F,listed.getD j true=true ∨ j ∈ D) →
     i ∈ Region.ready md ops listed→YieldsIf P ops S oi v a→S w →
     wpAnyJ P md ops Q F S fuel (listed.setIfInBounds i true) (a.put oi.dst v) w→wpAnyJ P md ops Q F S (fuel+1) listed a w:=by
 intro fuel
 induction fuel with
 | zero =>
   intro listed a w _ _ _ hr hy hS H
   refine ⟨fun h=>(by rw [h] at hr;cases hr),fun j hj=>?_⟩
   by_cases hji:j=i
   · subst hji;exact hy.wpOp hi hS ⟨fun _=>hS,H⟩
   · have:=ready_mono hj hji
     rw [H.1] at this
     cases this
 | succ fuel ih =>
   intro listed a w hfree hD hF hr hy hS H
   refine ⟨fun h=>(by rw [h] at hr;cases hr),fun j hj=>?_⟩
   by_cases hji:j=i
   · subst hji;exact hy.wpOp hi hS ⟨fun _=>hS,H⟩
   · have h1:=H.2 j (ready_mono hj hji)
     obtain ⟨hjun,oj,hoj,hall⟩:=mem_ready.1 hj
     have hun:∀ k,listed.getD k true=false→∀ e ∈ oj.after,Region.binds md e=true→e.on ≠ k:=fun k h0 e he hb heq=>by
       have h1:=hall e he hb
       rw [heq] at h1
       rcases Nat.lt_or_ge k listed.size with h' | h'
       · simp [h'] at h0 h1;rw [h0] at h1;cases h1
       · simp [Array.getElem?_eq_none h'] at h1
     have hDu:∀ k ∈ D,listed.getD k true=false:=fun k hk=>by
       have:=(List.all_eq_true.1 hD) k hk
       simp only [Bool.and_eq_true,Bool.not_eq_true'] at this
       exact this.1
     have hnot:=hun i (mem_ready.1 hr).1
     have hjD:j ∉ D:=fun hm=>by
       have:=(List.all_eq_true.1 hD) j hm
       simp only [hoj,Bool.and_eq_true,List.any_eq_true,Array.any_eq_true',Bool.or_eq_true,beq_iff_eq,List.contains_iff_mem] at this
       obtain ⟨_,e,he,hb,ho⟩:=this
       rcases ho with ho | ho
       · exact hnot e he hb ho
       · exact hun e.on (hDu _ ho) e he hb rfl
     have hjF:F.contains j=false:=by
       rw [Bool.eq_false_iff]
       intro hc
       rcases hF j (by simpa using hc) with h | h
       · rw [hjun] at h;cases h
       · exact hjD h
     have h2:=wpOp_putIf hoj (hfree j oj hoj hji hjun hnot) (fun cs b=>hsel i oi cs b hi) (fun cs b=>hsel j oj cs b hoj) hQ hy h1
     have hget:∀ k,j ≠ k→(listed.setIfInBounds j true).getD k true=listed.getD k true:=fun k hk=>getD_set_ne true hk
     have hfree':∀ k ok,ops[k]? = some ok→k ≠ i→(listed.setIfInBounds j true).getD k true=false →
         (∀ e ∈ ok.after,Region.binds md e=true→e.on ≠ i)→oi.apart ops ok=true:=fun k ok hk hki hun hno=>by
       refine hfree k ok hk hki ?_ hno
       by_cases hjk:j=k
       · subst hjk;exact hjun
       · rw [getD_set_ne true hjk] at hun;exact hun
     have hD':laterB md ops (listed.setIfInBounds j true) i D=true:=by
       refine List.all_eq_true.2 fun k hk=>?_
       have:=(List.all_eq_true.1 hD) k hk
       rw [hget k (fun e=>hjD (e ▸ hk))]
       exact this
     have hF':∀ k ∈ F,(listed.setIfInBounds j true).getD k true=true ∨ k ∈ D:=fun k hk=>by
       rcases hF k hk with h | h
       · by_cases hjk:j=k
         · subst hjk;rw [hjun] at h;cases h
         · exact .inl ((hget k hjk).trans h)
       · exact .inr h
     refine wpOp_mono (fun a' w' h3=>⟨h3.2.1,ih (listed.setIfInBounds j true) a' w' hfree' hD' hF' (ready_mono hr (Ne.symm hji)) h3.1 (h3.2.1 hjF) ?_⟩) h2
     rw [Array.setIfInBounds_comm _ _ hji]
     exact h3.2.2
theorem wpAnyJ_firstW {i:Nat} {oi:Oper} {v:Value} (hi:ops[i]? = some oi) (hiF:F.contains i=true) (hsel:∀ (j:Nat) (o:Oper) cs b,ops[j]? = some o→o.op ≠ .select cs b)
   (hQ:∀ c a w,Q (.panic c) (a.put oi.dst v) w→Q (.panic c) a w) :
   ∀ (fuel:Nat) (listed:Array Bool) (a:Act) (w:World),
     (∀ j oj,ops[j]? = some oj→j ≠ i→listed.getD j true=false→(∀ e ∈ oj.after,Region.binds md e=true→e.on ≠ i)→oi.apart ops oj=true) →
     i ∈ Region.ready md ops listed→YieldsIf P ops (fun _=>True) oi v a →
     wpAnyJ P md ops Q F S fuel (listed.setIfInBounds i true) (a.put oi.dst v) w→wpAnyJ P md ops Q F S (fuel+1) listed a w:=by
 have hno:F.contains i=false→False:=fun h=>by rw [hiF] at h;cases h
 intro fuel
 induction fuel with
 | zero =>
   intro listed a w _ hr hy H
   refine ⟨fun h=>(by rw [h] at hr;cases hr),fun j hj=>?_⟩
   by_cases hji:j=i
   · subst hji;exact hy.wpOp hi trivial ⟨fun h=>(hno h).elim,H⟩
   · have:=ready_mono hj hji
     rw [H.1] at this
     cases this
 | succ fuel ih =>
   intro listed a w hfree hr hy H
   refine ⟨fun h=>(by rw [h] at hr;cases hr),fun j hj=>?_⟩
   by_cases hji:j=i
   · subst hji;exact hy.wpOp hi trivial ⟨fun h=>(hno h).elim,H⟩
   · have h1:=H.2 j (ready_mono hj hji)
     obtain ⟨hjun,oj,hoj,hall⟩:=mem_ready.1 hj
     have hnot:∀ e ∈ oj.after,Region.binds md e=true→e.on ≠ i:=fun e he hb heq=>by
       have h1:=hall e he hb
       have h0:=(mem_ready.1 hr).1
       rw [heq] at h1
       rcases Nat.lt_or_ge i listed.size with h' | h'
       · simp [h'] at h0 h1;rw [h0] at h1;cases h1
       · simp [Array.getElem?_eq_none h'] at h1
     have h2:=wpOp_putIf hoj (hfree j oj hoj hji hjun hnot) (fun cs b=>hsel i oi cs b hi) (fun cs b=>hsel j oj cs b hoj) hQ hy h1
     have hfree':∀ k ok,ops[k]? = some ok→k ≠ i→(listed.setIfInBounds j true).getD k true=false →
         (∀ e ∈ ok.after,Region.binds md e=true→e.on ≠ i)→oi.apart ops ok=true:=fun k ok hk hki hun hno=>by
       refine hfree k ok hk hki ?_ hno
       by_cases hjk:j=k
       · subst hjk;exact hjun
       · rw [getD_set_ne true hjk] at hun;exact hun
     refine wpOp_mono (fun a' w' h3=>⟨h3.2.1,ih (listed.setIfInBounds j true) a' w' hfree' (ready_mono hr (Ne.symm hji)) h3.1 ?_⟩) h2
     rw [Array.setIfInBounds_comm _ _ hji]
     exact h3.2.2
theorem wpAnyJ_takeW {i:Nat} {oi:Oper} {v:Value} {fuel:Nat} {listed:Array Bool} {a:Act} {w:World} (hi:ops[i]? = some oi) (hiF:F.contains i=true)
   (hs:Region.noSelect ops=true) (hf:Region.free md ops listed i=true) (hr:(Region.ready md ops listed).contains i=true)
   (hy:YieldsIf P ops (fun _=>True) oi v a)
   (h:wpAnyJ P md ops (NoPanic Q) F S fuel (listed.setIfInBounds i true) (a.put oi.dst v) w):wpAnyJ P md ops (NoPanic Q) F S (fuel+1) listed a w :=
 wpAnyJ_firstW hi hiF (Region.noSelect_spec hs) (fun _ _ _ h=>h) fuel listed a w (Region.free_spec hi hf) (by simpa using hr) hy h
theorem wpAnyJ_take {i:Nat} {oi:Oper} {v:Value} (D:List Nat) {fuel:Nat} {listed:Array Bool} {a:Act} {w:World} (hi:ops[i]? = some oi)
   (hs:Region.noSelect ops=true) (hf:Region.free md ops listed i=true) (hr:(Region.ready md ops listed).contains i=true)
   (hD:laterB md ops listed i D=true) (hF:(F.all fun j=>listed.getD j true || D.contains j)=true)
   (hy:YieldsIf P ops S oi v a) (hS:S w)
   (h:wpAnyJ P md ops (NoPanic Q) F S fuel (listed.setIfInBounds i true) (a.put oi.dst v) w):wpAnyJ P md ops (NoPanic Q) F S (fuel+1) listed a w :=
 wpAnyJ_first hi (Region.noSelect_spec hs) (fun _ _ _ h=>h) fuel listed a w (Region.free_spec hi hf) hD (fun j hj=>by
   have:=(List.all_eq_true.1 hF) j hj
   simpa using this) (by simpa using hr) hy hS h
theorem wpAnyJ_step {i:Nat} {o:Oper} {fuel:Nat} {listed:Array Bool} {a:Act} {w:World} (hr:Region.ready md ops listed=[i]) (ho:ops[i]? = some o)
   (h:∀ K':Act→World→Prop,Shut (∀ a w,S w→wpAnyJ P md ops Q F S fuel (listed.setIfInBounds i true) a w→K' a w)→if Region.wanted o (yielded ops a.tmps)=true then Oper.wp P o a w K' Q else K' (a.put o.dst undef) w):wpAnyJ P md ops Q F S (fuel+1) listed a w:=by
 refine ⟨fun h0=>absurd (hr ▸ h0) (by simp),fun j hj=>?_⟩
 rw [hr,List.mem_singleton] at hj
 subst hj
 exact wpOp_step ho (fun K' hK=>h K' (fun a w hS hW=>hK a w ⟨fun _=>hS,hW⟩))
theorem wpAnyJ_step2 {i j:Nat} {oi oj:Oper} {fuel:Nat} {listed:Array Bool} {a:Act} {w:World} (hr:Region.ready md ops listed=[i,j]) (hoi:ops[i]? = some oi) (hoj:ops[j]? = some oj)
   (h1:∀ K':Act→World→Prop,Shut (∀ a w,S w→wpAnyJ P md ops Q F S fuel (listed.setIfInBounds i true) a w→K' a w)→if Region.wanted oi (yielded ops a.tmps)=true then Oper.wp P oi a w K' Q else K' (a.put oi.dst undef) w)
   (h2:∀ K':Act→World→Prop,Shut (∀ a w,S w→wpAnyJ P md ops Q F S fuel (listed.setIfInBounds j true) a w→K' a w)→if Region.wanted oj (yielded ops a.tmps)=true then Oper.wp P oj a w K' Q else K' (a.put oj.dst undef) w):wpAnyJ P md ops Q F S (fuel+1) listed a w:=by
 refine ⟨fun h0=>absurd (hr ▸ h0) (by simp),fun k hk=>?_⟩
 rw [hr] at hk
 rcases List.mem_cons.1 hk with rfl | hk
 · exact wpOp_step hoi (fun K' hK=>h1 K' (fun a w hS hW=>hK a w ⟨fun _=>hS,hW⟩))
 · rw [List.mem_singleton] at hk
   subst hk
   exact wpOp_step hoj (fun K' hK=>h2 K' (fun a w hS hW=>hK a w ⟨fun _=>hS,hW⟩))
theorem wpAnyJ_last {i:Nat} {o:Oper} {fuel:Nat} {listed:Array Bool} {a:Act} {w:World} (hr:Region.ready md ops listed=[i]) (ho:ops[i]? = some o) (hF:F.contains i=true)
   (h:∀ K':Act→World→Prop,Shut (∀ a w,wpAnyJ P md ops Q F S fuel (listed.setIfInBounds i true) a w→K' a w)→if Region.wanted o (yielded ops a.tmps)=true then Oper.wp P o a w K' Q else K' (a.put o.dst undef) w):wpAnyJ P md ops Q F S (fuel+1) listed a w:=by
 refine ⟨fun h0=>absurd (hr ▸ h0) (by simp),fun j hj=>?_⟩
 rw [hr,List.mem_singleton] at hj
 subst hj
 exact wpOp_step ho (fun K' hK=>h K' (fun a w hW=>hK a w ⟨fun hn=>(by rw [hF] at hn;cases hn),hW⟩))
theorem wpAnyJ_done {listed:Array Bool} {a:Act} {w:World} (hr:Region.ready md ops listed=[]) (h:Q .normal a w):∀ fuel,wpAnyJ P md ops Q F S fuel listed a w
 | 0=>⟨hr,h⟩
 | _+1=>⟨fun _=>h,by rw [hr];simp⟩
theorem j_start (F:List Nat) {id:Nat} {a:Act} {w:World} (hm:P.follows .mixedOrders=true) (h:wpAnyJ P .any ops (NoPanic Q) F (Bel w.drew) ops.size (Array.replicate ops.size false) a w.drew):(Code.region id ops true).wp P Q a w :=
 wp_region_noPanic (wp_region_any hm (wpAny_of_J _ _ _ _ h))
theorem j_take {i:Nat} {oi:Oper} {v:Value} (D:List Nat) {fuel:Nat} {listed:Array Bool} {a:Act} {u:World} (hi:ops[i]? = some oi)
   (hs:Region.noSelect ops=true) (hf:Region.free md ops listed i=true) (hr:(Region.ready md ops listed).contains i=true)
   (hD:laterB md ops listed i D=true) (hF:(F.all fun j=>listed.getD j true || D.contains j)=true)
   (hy:YieldsIf P ops (Bel u) oi v a)
   (h:wpAnyJ P md ops (NoPanic Q) F (Bel u) fuel (listed.setIfInBounds i true) (a.put oi.dst v) u):wpAnyJ P md ops (NoPanic Q) F (Bel u) (fuel+1) listed a u :=
 wpAnyJ_take D hi hs hf hr hD hF hy (Below.refl _ _) h
theorem j_switch {u u':World} (hb:Below u.heap.size u u') {fuel:Nat} {listed:Array Bool} {a:Act} (h:wpAnyJ P md ops Q F (Bel u') fuel listed a u'):wpAnyJ P md ops Q F (Bel u) fuel listed a u' :=
 wpAnyJ_mono (fun _ hw=>below_step hb hw) fuel listed a u' h
end
end Go.Proofs.YtgmkckjedngkdaaGreatDoor
namespace Go.Proofs.YtgmkckjedngkdaaGreatDoor
open Go.ChangeShapes Go.WideShapes Go.ChangeAt Go.RowKit
section
variable {P:Program} {ops:Array Oper} {Q:Exit→Act→World→Prop} {md:Region.Mode} {F:List Nat} {S:World→Prop}
theorem at_list {i:Nat} {o:Oper} (h:ops.toList[i]? = some o):ops[i]? = some o:=by simpa using h
theorem j_th (i:Nat) (D:List Nat) {oi:Oper} {v:Value} {fuel:Nat} {listed:Array Bool} {a:Act} {w:World} (hi:ops.toList[i]? = some oi)
   (hb:(Region.noSelect ops && Region.free md ops listed i && (Region.ready md ops listed).contains i && laterB md ops listed i D && (F.all fun j=>listed.getD j true || D.contains j))=true)
   (hw:Region.wanted oi (yielded ops a.tmps)=true) (hy:∀ w,S w→(execOp a.eval oi).run P w=.ok (.value v) w) (hS:S w)
   (h:wpAnyJ P md ops (NoPanic Q) F S fuel (listed.setIfInBounds i true) (a.put oi.dst v) w):wpAnyJ P md ops (NoPanic Q) F S (fuel+1) listed a w:=by
 simp only [Bool.and_eq_true] at hb
 exact wpAnyJ_take D (at_list hi) hb.1.1.1.1 hb.1.1.1.2 hb.1.1.2 hb.1.2 hb.2 (Or.inl ⟨hw,hy⟩) hS h
theorem j_t (i:Nat) (D:List Nat) {oi:Oper} {v:Value} {fuel:Nat} {listed:Array Bool} {a:Act} {u:World} (hi:ops.toList[i]? = some oi)
   (hb:(Region.noSelect ops && Region.free md ops listed i && (Region.ready md ops listed).contains i && laterB md ops listed i D && (F.all fun j=>listed.getD j true || D.contains j))=true)
   (hw:Region.wanted oi (yielded ops a.tmps)=true) (hy:∀ w,Bel u w→(execOp a.eval oi).run P w=.ok (.value v) w)
   (h:wpAnyJ P md ops (NoPanic Q) F (Bel u) fuel (listed.setIfInBounds i true) (a.put oi.dst v) u):wpAnyJ P md ops (NoPanic Q) F (Bel u) (fuel+1) listed a u :=
 j_th i D hi hb hw hy (Below.refl _ _) h
theorem j_tw (i:Nat) {oi:Oper} {v:Value} {fuel:Nat} {listed:Array Bool} {a:Act} {w:World} (hi:ops.toList[i]? = some oi)
   (hb:(F.contains i && Region.noSelect ops && Region.free md ops listed i && (Region.ready md ops listed).contains i)=true)
   (hw:Region.wanted oi (yielded ops a.tmps)=true) (hy:∀ w,True→(execOp a.eval oi).run P w=.ok (.value v) w)
   (h:wpAnyJ P md ops (NoPanic Q) F S fuel (listed.setIfInBounds i true) (a.put oi.dst v) w):wpAnyJ P md ops (NoPanic Q) F S (fuel+1) listed a w:=by
 simp only [Bool.and_eq_true] at hb
 exact wpAnyJ_takeW (at_list hi) hb.1.1.1 hb.1.1.2 hb.1.2 hb.2 (Or.inl ⟨hw,hy⟩) h
theorem j_s (i:Nat) {o:Oper} {fuel:Nat} {listed:Array Bool} {a:Act} {w:World} (hr:Region.ready md ops listed=[i]) (ho:ops.toList[i]? = some o)
   (h:∀ K':Act→World→Prop,Shut (∀ a w,S w→wpAnyJ P md ops Q F S fuel (listed.setIfInBounds i true) a w→K' a w)→if Region.wanted o (yielded ops a.tmps)=true then Oper.wp P o a w K' Q else K' (a.put o.dst undef) w):wpAnyJ P md ops Q F S (fuel+1) listed a w :=
 wpAnyJ_step hr (at_list ho) h
theorem j_l (i:Nat) {o:Oper} {fuel:Nat} {listed:Array Bool} {a:Act} {w:World} (hr:Region.ready md ops listed=[i]) (ho:ops.toList[i]? = some o) (hF:F.contains i=true)
   (h:∀ K':Act→World→Prop,Shut (∀ a w,wpAnyJ P md ops Q F S fuel (listed.setIfInBounds i true) a w→K' a w)→if Region.wanted o (yielded ops a.tmps)=true then Oper.wp P o a w K' Q else K' (a.put o.dst undef) w):wpAnyJ P md ops Q F S (fuel+1) listed a w :=
 wpAnyJ_last hr (at_list ho) hF h
end
end Go.Proofs.YtgmkckjedngkdaaGreatDoor
