/- A part of the proof that TopMajorityLaw holds: XTopMajorityLaw. Conditions: as typed. -/
import Derived.Test.YtgmkckjedngkdaaGreatDoorTm53
import Derived.Test.YtgmkckjedngkdaaGreatDoorCards
import Derived.Test.YtgmkckjedngkdaaGreatDoorTie
import Derived.ProofKit
import Derived.LaidLaws
import Derived.LaidMore
import Derived.OpenShut
import Derived.Stop.Joined
import Derived.SevenTiedAt
set_option linter.unusedVariables false
set_option linter.unusedSimpArgs false
namespace Go.Proofs.YtgmkckjedngkdaaGreatDoor.topMajority
open Go.ChangeShapes Go.WideShapes Go.ChangeAt Go.RowKit
set_option maxHeartbeats 8000000 in
theorem proved:Rows.TopMajorityCardSaid :=
 Claim7.holds_tied_plain_at .later [] [.data, .data, .data, .sentinel, .sentinel] true (true, "c4175566edc1cf96a06628df133620289a2f4641f92d7021bf22accf7e185494") true
  row_holds (fun _ h=>by cases h) (by kernel_rfl) (fun _ h=>by cases h) topMajority_row_tie rfl ⟨rfl,rfl⟩ (by kernel_rfl) rfl
  (fun f fn hf hfn=>by
   obtain rfl : f = 4 := Option.some.inj ((show Tryz.prog.funcNamed "clepsydra/clepsydratop.TopMajority" = some 4 by kernel_rfl).symm.trans hf) |>.symm
   obtain rfl:fn=Tryz.f4:=(Option.some.inj (Tryz.func4.symm.trans hfn)).symm
   exact ⟨g2,fun j t ht=>by
    rw [Tryz.params4] at ht
    have hm:t ∈ [3,29,3,2]:=by simpa using Array.mem_of_getElem? ht
    have hall:([3,29,3,2].all fun u=>!Tryz.prog.wantsStandIn u)=true:=by kernel_rfl
    exact (show Tryz.prog.wantsStandIn t=false by simpa using List.all_eq_true.1 hall t hm)⟩)
  g3
#print axioms proved
end Go.Proofs.YtgmkckjedngkdaaGreatDoor.topMajority
