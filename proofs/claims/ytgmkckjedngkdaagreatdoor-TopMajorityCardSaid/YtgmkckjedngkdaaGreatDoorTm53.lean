/- A part of the proof that TopMajorityLaw holds: XTopMajorityRow. Conditions: as typed. -/
import Derived.Test.YtgmkckjedngkdaaGreatDoorTm51
import Derived.Test.YtgmkckjedngkdaaGreatDoorTm52
import Derived.Test.YtgmkckjedngkdaaGreatDoorCards
import Derived.Test.YtgmkckjedngkdaaGreatDoorTie
import Derived.ProofKit
import Derived.LaidLaws
import Derived.LaidMore
import Derived.OpenShut
import Derived.Stop.Joined
import Derived.SevenTiedAt
set_option linter.unusedVariables false
set_option linter.unusedSimpArgs false
namespace Go.Proofs.YtgmkckjedngkdaaGreatDoor.topMajority
open Go.ChangeShapes Go.WideShapes Go.ChangeAt Go.RowKit
theorem of_laid {W:World} (h:laidMetH Tryz.prog laidL W):ErrOk W∧2≤W.heap.size:=by
 rw [MakeChecks.laidMetH_plain _ _ _ (by kernel_rfl)] at h
 obtain ⟨ps,⟨g0,t0,cs0,f0,p0,q0,hg0,ht0,hv0,hd0,⟨g1,t1,cs1,f1,p1,q1,hg1,ht1,hv1,hd1,⟨g2,t2,cs2,f2,p2,q2,hg2,ht2,hv2,hd2,⟨g3,t3,cs3,f3,p3,q3,hg3,ht3,hv3,hd3,⟨g4,t4,cs4,f4,p4,q4,hg4,ht4,hv4,hd4,_,_⟩,_⟩,_⟩,_⟩,_⟩,_,_⟩:=h
 obtain rfl:=Option.some.inj (gE.symm.trans hg4)
 obtain rfl:=Option.some.inj (tE.symm.trans ht4)
 obtain ⟨l4⟩:=cs4
 obtain ⟨f5,u,v,e5,_,_⟩:=iface_of_trod Tryz.underlying339 hd4
 have hc:=World.var?_cell hg4 hv4 0
 have hl:l4=[.iface u v]:=e5
 subst hl
 have hc':W.cell? ⟨1,0,none⟩=some (.iface u v):=by simpa using hc
 refine ⟨⟨_,hc',.inr ⟨_,_,rfl⟩⟩,?_⟩
 by_cases hlt:1 < W.heap.size
 ·omega
 ·exfalso
  have:W.heap[1]? = none:=by simp;omega
  simp [World.cell?,this] at hc'
set_option maxRecDepth 100000 in
theorem lifted (os:Os) (started:os.Started) (H:Type) (enc:TypeId × Value→H) :
 ReturnsInHanded {} Tryz.checked os 4 .any (fun w args=>(Rows.topMajoritySpec.pre enc Tryz.prog Tryz.f4 [] false w args∧laidMetH Tryz.prog laidL w)∧sizedMet enc Tryz.prog Tryz.f4 (OpenSpec.ofChange Rows.topMajoritySpec) false w args) (Rows.topMajoritySpec.post enc Tryz.prog Tryz.f4 false true false false):=by
 refine returnsInHanded_of_change_and (C:=Tryz.checked) (X:=fun w _=>laidMetH Tryz.prog laidL w) (fun _ _ _ hh h=>h.of_heap hh) own started (by kernel_rfl) Tryz.func4
  (ChangeSpec.witness_shaped (enc:=enc) (C:=Tryz.checked) (os:=os) (X:=fun w _=>laidMetH Tryz.prog laidL w) false (World.doorLaid Tryz.prog 62 os) #[.int .i64 0,.int .u64 0,.int .i64 0,.int .i64 0] 8 rfl (World.shaped_of_RefB (by kernel_rfl) (by kernel_rfl)) (by kernel_rfl) (by kernel_rfl) (by kernel_rfl) (door_met os _)) ?_
 intro W base args ds gs before hval0 hW _ _ hL _
 have hval:∀ (j:Nat) t v,Tryz.f4.params[j]? = some t→args[j]? = some v→Value.okWide Tryz.prog W .any base t v:=hval0
 have hlt:∀ x ∈ before,x.block < W.heap.size:=fun x hx=>hW.lt x hx
 obtain ⟨p,q,hA0,hV,rfl,hfz,hnd⟩:=hW
 have hA:DataW.TrodAll enc Tryz.prog W 0 (fun _=>true) true Tryz.f4.params.toList args.toList ds p:=hA0
 obtain ⟨rfl,rfl⟩:=trodVars_none hV
 rw [List.append_nil] at hfz hlt
 rw [Tryz.params4] at hA hval
 obtain ⟨v0,vs0,d0,ds0,p0,q0,hargs,hds,hp,h0,rest0⟩:=trodAll_cons hA
 obtain ⟨v1,vs1,d1,ds1,p1,q1,rfl,rfl,rfl,h1,rest1⟩:=trodAll_cons rest0
 obtain ⟨v2,vs2,d2,ds2,p2,q2,rfl,rfl,rfl,h2,rest2⟩:=trodAll_cons rest1
 obtain ⟨v3,vs3,d3,ds3,p3,q3,rfl,rfl,rfl,h3,rest3⟩:=trodAll_cons rest2
 obtain ⟨rfl,rfl,rfl⟩:=trodAll_nil rest3
 obtain rfl:args=#[v0,v1,v2,v3]:=by cases args;simp_all
 clear hA
 obtain ⟨a0,rfl,rfl,rfl,w0⟩:=open_int Tryz.underlying3 (hval 0 3 v0 rfl rfl) h0
 obtain ⟨a1,rfl,rfl,rfl,w1⟩:=open_int Tryz.underlying29 (hval 1 29 v1 rfl rfl) h1
 obtain ⟨a2,rfl,rfl,rfl,w2⟩:=open_int Tryz.underlying3 (hval 2 3 v2 rfl rfl) h2
 obtain ⟨a3,rfl,rfl,rfl,w3⟩:=open_int Tryz.underlying2 (hval 3 2 v3 rfl rfl) h3
 obtain ⟨hE,h2W⟩:=of_laid hL
 refine (walk (w:=W) hE h2W a0 w0 a1 w1 a2 w2 a3 w3).mono fun e W' ⟨he,hb⟩=>?_
 subst he
 refine ⟨_,rfl,law_post (tb:=4) laidOut ?_ rfl rfl Tryz.underlying4 (by rw [hds];rfl) hA0 hfz hb hlt⟩
 rw [Tryz.params4]
 intro t ht
 simp only [List.mem_cons,List.not_mem_nil,or_false] at ht
 rcases ht with rfl | rfl | rfl | rfl <;> exact ⟨by kernel_rfl,of_decide_eq_true (by kernel_rfl)⟩
set_option maxHeartbeats 8000000 in
theorem row_holds:Rows.TopMajoritySaid :=
 OpenClaim.holds_of_wide 4 Tryz.f4 rfl rfl rfl rfl rfl rfl rfl ⟨rfl,rfl,rfl,rfl,rfl⟩ rfl rfl rfl rfl rfl (by kernel_rfl) Tryz.func4 closed
  (of_decide_eq_true (by kernel_rfl)) (by unfold Func.isWrapper;first | (rw [if_pos (by decide +kernel)];kernel_rfl) | (rw [if_neg (by decide +kernel)];exact ⟨rfl,rfl⟩))
  (fun os started H enc _=>lifted os started H enc)
end Go.Proofs.YtgmkckjedngkdaaGreatDoor.topMajority
