/- A part of the proof that TopQuota holds: its row, the closed facts apart. Conditions: as typed. -/
import Derived.Test.YtgmkckjedngkdaaGreatDoorTq52
import Derived.Test.YtgmkckjedngkdaaGreatDoorCards
import Derived.Test.YtgmkckjedngkdaaGreatDoorTie
import Derived.ProofKit
import Derived.LaidLaws
import Derived.LaidMore
import Derived.OpenShut
import Derived.Stop.Joined
import Derived.SevenTiedAt
set_option linter.unusedVariables false
set_option linter.unusedSimpArgs false
namespace Go.Proofs.YtgmkckjedngkdaaGreatDoor.topQuota
open Go.ChangeShapes Go.WideShapes Go.ChangeAt Go.RowKit
theorem own:ownKnob Tryz.prog.godebug=none:=by kernel_rfl
theorem laidOut:laidOutB Tryz.prog=true:=by kernel_rfl
def laidL : List (String × DataW Unit) := [("math/bits.deBruijn32tab", Rows.laid_math_bits_deBruijn32tab), ("math/bits.deBruijn64tab", Rows.laid_math_bits_deBruijn64tab), ("internal/strconv.uint64pow10", Rows.laid_internal_strconv_uint64pow10), ("strconv.ErrRange", Rows.laid_strconv_ErrRange), ("strconv.ErrSyntax", Rows.laid_strconv_ErrSyntax)]
theorem gE : Tryz.prog.globalNamed "strconv.ErrSyntax" = some 1 := by kernel_rfl
theorem tE:(Tryz.prog.globals[1]?).map (·.type)=some 339:=by kernel_rfl
theorem of_laid {W:World} (h:laidMetH Tryz.prog laidL W):ErrOk W∧2≤W.heap.size:=by
 rw [MakeChecks.laidMetH_plain _ _ _ (by kernel_rfl)] at h
 obtain ⟨ps,⟨g0,t0,cs0,f0,p0,q0,hg0,ht0,hv0,hd0,⟨g1,t1,cs1,f1,p1,q1,hg1,ht1,hv1,hd1,⟨g2,t2,cs2,f2,p2,q2,hg2,ht2,hv2,hd2,⟨g3,t3,cs3,f3,p3,q3,hg3,ht3,hv3,hd3,⟨g4,t4,cs4,f4,p4,q4,hg4,ht4,hv4,hd4,_,_⟩,_⟩,_⟩,_⟩,_⟩,_,_⟩:=h
 obtain rfl:=Option.some.inj (gE.symm.trans hg4)
 obtain rfl:=Option.some.inj (tE.symm.trans ht4)
 obtain ⟨l4⟩:=cs4
 obtain ⟨f5,u,v,e5,_,_⟩:=iface_of_trod Tryz.underlying339 hd4
 have hc:=World.var?_cell hg4 hv4 0
 have hl:l4=[.iface u v]:=e5
 subst hl
 have hc':W.cell? ⟨1,0,none⟩=some (.iface u v):=by simpa using hc
 refine ⟨⟨_,hc',.inr ⟨_,_,rfl⟩⟩,?_⟩
 by_cases hlt:1 < W.heap.size
 · omega
 · exfalso
   have:W.heap[1]? = none:=by simp;omega
   simp [World.cell?,this] at hc'
theorem door_met (os:Os) (args:Array Value):laidMetH Tryz.prog laidL ((World.doorLaid Tryz.prog 62 os).forCall (fun _ _=>0) ⟨#[],args,[]⟩).memory :=
 laidMetH_of_parts3 (fuel:=8) (laidMet_of_run' 8 (by kernel_rfl) (by kernel_rfl)) (by kernel_rfl) (by kernel_rfl)
set_option maxRecDepth 100000 in
theorem lifted (os:Os) (started:os.Started) (H:Type) (enc:TypeId × Value→H) :
   ReturnsInHanded {} Tryz.checked os 3 .any (fun w args=>(Rows.topQuotaSpec.pre enc Tryz.prog Tryz.f3 [] false w args∧laidMetH Tryz.prog laidL w)∧sizedMet enc Tryz.prog Tryz.f3 (OpenSpec.ofChange Rows.topQuotaSpec) false w args) (Rows.topQuotaSpec.post enc Tryz.prog Tryz.f3 false true false false):=by
 refine returnsInHanded_of_change_and (C:=Tryz.checked) (X:=fun w _=>laidMetH Tryz.prog laidL w) (fun _ _ _ hh h=>h.of_heap hh) own started (by kernel_rfl) Tryz.func3
   (ChangeSpec.witness_shaped (enc:=enc) (C:=Tryz.checked) (os:=os) (X:=fun w _=>laidMetH Tryz.prog laidL w) false (World.doorLaid Tryz.prog 62 os) #[.int .i64 0,.slice none 0 0] 8 rfl (World.shaped_of_RefB (by kernel_rfl) (by kernel_rfl)) (by kernel_rfl) (by kernel_rfl) (by kernel_rfl) (door_met os _)) ?_
 intro W base args ds gs before hval0 hW _ _ hL _
 have hval:∀ (j:Nat) t v,Tryz.f3.params[j]? = some t→args[j]? = some v→Value.okWide Tryz.prog W .any base t v:=hval0
 have hlt:∀ x ∈ before,x.block < W.heap.size:=fun x hx=>hW.lt x hx
 obtain ⟨p,q,hA0,hV,rfl,hfz,hnd⟩:=hW
 have hA:DataW.TrodAll enc Tryz.prog W 0 (fun _=>true) true Tryz.f3.params.toList args.toList ds p:=hA0
 obtain ⟨rfl,rfl⟩:=trodVars_none hV
 rw [List.append_nil] at hfz hlt
 rw [Tryz.params3] at hA hval
 obtain ⟨v0,vs0,d0,ds0,p0,q0,hargs,hds,hp,h0,rest0⟩:=trodAll_cons hA
 obtain ⟨v1,vs1,d1,ds1,p1,q1,rfl,rfl,rfl,h1,rest1⟩:=trodAll_cons rest0
 obtain ⟨rfl,rfl,rfl⟩:=trodAll_nil rest1
 obtain rfl:args=#[v0,v1]:=by cases args;simp_all
 clear hA
 obtain ⟨a0,rfl,rfl,rfl,w0⟩:=open_int Tryz.underlying3 (hval 0 3 v0 rfl rfl) h0
 obtain ⟨A1,c1,L1,rfl,lc1,cm1,r1,w1⟩:=open_row (α:=Sv It) (cells:=fun s=>[s.val]) (ok:=Sv.good It.cells 5 It.wf W) (sz:=1) Tryz.underlying22 (by kernel_rfl) (by omega) (dec_slice (cells:=It.cells) (ok:=It.wf) (sz:=5) Tryz.underlying31 (by kernel_rfl) (by omega) (dec_item Tryz.underlying54 (by kernel_rfl) (by kernel_rfl) Tryz.underlying3 Tryz.underlying3 Tryz.underlying29 Tryz.underlying29 Tryz.underlying2)) (hval 1 22 v1 rfl rfl) h1
 obtain ⟨hE,h2W⟩:=of_laid hL
 refine (walk (w:=W) hE h2W a0 w0 A1 c1 L1 lc1 cm1 r1 w1).mono fun e W' ⟨he,hb⟩=>?_
 subst he
 refine ⟨_,rfl,law_post (tb:=4) laidOut ?_ rfl rfl Tryz.underlying4 (by rw [hds];rfl) hA0 hfz hb hlt⟩
 rw [Tryz.params3]
 intro t ht
 simp only [List.mem_cons,List.not_mem_nil,or_false] at ht
 rcases ht with rfl | rfl <;> exact ⟨by kernel_rfl,of_decide_eq_true (by kernel_rfl)⟩
set_option maxRecDepth 100000 in
theorem q2:laidOutB Tryz.pinned.checked.prog=true:=by kernel_rfl
set_option maxRecDepth 100000 in
theorem q3:mapsRowed Tryz.pinned.checked.prog=true:=by kernel_rfl
set_option maxRecDepth 100000 in
theorem q10:(Rows.topQuotaRow.inPlace == Tryz.pinned.checked.prog.inPlace 3)=true:=by kernel_rfl
set_option maxRecDepth 100000 in
theorem q11:(Rows.topQuotaRow.unfollowed == Tryz.pinned.checked.prog.unfollowed 3)=true:=by kernel_rfl
set_option maxRecDepth 100000 in
theorem q12:(Rows.topQuotaRow.recurses == Tryz.pinned.checked.prog.recurses 3)=true:=by kernel_rfl
set_option maxRecDepth 100000 in
theorem q13:(Rows.topQuotaRow.named == Tryz.pinned.checked.prog.varsNamed 3)=true:=by kernel_rfl
set_option maxRecDepth 100000 in
theorem q20:(Rows.topQuotaRow.plainKeys == Tryz.pinned.checked.prog.plainKeys)=true:=by kernel_rfl
set_option maxRecDepth 100000 in
theorem q24:Tryz.pinned.checked.prog.stopsHeard=true:=by kernel_rfl
set_option maxRecDepth 100000 in
theorem q25:Tryz.pinned.checked.prog.mayEnter=true:=by kernel_rfl
set_option maxRecDepth 100000 in
theorem closed:joinedFacts Tryz.pinned.checked.prog 3 Tryz.f3 Rows.topQuotaSpec Rows.topQuotaRow=true:=by
 unfold joinedFacts
 rw [q2,q3,q10,q11,q12,q13,q20,q24,q25]
 kernel_rfl
set_option maxHeartbeats 8000000 in
theorem row_holds:Rows.TopQuotaSaid :=
 OpenClaim.holds_of_wide 3 Tryz.f3 rfl rfl rfl rfl rfl rfl rfl ⟨rfl,rfl,rfl,rfl,rfl⟩ rfl rfl rfl rfl rfl (by kernel_rfl) Tryz.func3 closed
   (of_decide_eq_true (by kernel_rfl)) (by unfold Func.isWrapper;first | (rw [if_pos (by decide +kernel)];kernel_rfl) | (rw [if_neg (by decide +kernel)];exact ⟨rfl,rfl⟩))
   (fun os started H enc _=>lifted os started H enc)
end Go.Proofs.YtgmkckjedngkdaaGreatDoor.topQuota
